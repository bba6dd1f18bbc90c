/- GTW7 GTW8 GTW9 GTX0 GTX1 GTX2 GTX3 GTX5 -/
import Derived.Test.YtanbgjgaafeplaaGreatDoorC18
set_option linter.all false
open List (any_cons append_nil)
open Go.Ab.Ar (an ar cmp nt)
namespace Go.Ab
open Classical
noncomputable section
theorem Ca {α β A B:Type}{L:List α}{N:Nat}{step:Int→Option (List β×(Int ⊕ A))}{u:A}{f:A→Option (List β×B)}{y:B}{Q:α→β→Prop}{G:β→Prop}(hN:L.length<N)
 (hs:∀(i:Nat) x,L[i]? =some x→(i:Int)<L.length→x∈L→∃w,step (i:Int)=some (w,.inl ((i:Int)+1))∧∀s,s∈w↔Q x s) (he:step (L.length:Int)=some ([],.inr u)) (hf:f u=some ([],y)) (hG:∀s,(∃x∈L,Q x s)↔G s):∃W,O0 (X1 step N 0) f=some (W,y)∧∀s,s∈W↔G s:=by
 obtain⟨W,h1,h2⟩:=Oz hN hs he;exact⟨W++[],FK h1 hf,fun s=>by rw[append_nil];exact(h2 s).trans (hG s)⟩
theorem KD {β:Type}{m:Option (List β×Unit)}{G:β→Prop}(h:∃W,m=some (W,())∧∀s,s∈W↔G s):∃R,(m.bind fun q=>some q.1)=some R∧∀s,s∈R↔G s:=by
 obtain⟨W,h1,h2⟩:=h;exact⟨W,by rw[h1];rfl,h2⟩
theorem FQ {β A:Type}{x:β}{o:A}{P:β→Prop}(h:∀s,s=x↔P s):∃w,O0 (some ([x],())) (fun _=>some ([],o))=some (w,o)∧∀s,s∈w↔P s:=⟨[x],rfl,fun s=>by rw[List.mem_singleton];exact h s⟩
section
variable {N:Nat}(hN:40000000≤N){l:List A4}(hl:l.length≤10)
include hN hl
theorem YO {o u:List BD}{f:Int}(ho:IN l (H8 o) f)(r:Kx l f (H8 u)):∃c,L7 N o u=some c∧H8 c=mrg (H8 o) (H8 u):=by
 have h1:=ho.gd.len;have h2:=r.gd.len
 rw[List.length_map]at h1 h2
 exact Mb (n:=l.length) (by omega) (by omega) (by omega) ho.gd.asc r.gd.asc (ho.apart r) ho.gd.wf.ins r.gd.wf.ins
theorem YN {u t:List BD}{f g:Int}(r:Kx l f (H8 u))(q:Kx l g (H8 t))(hd:Cv (H8 u) (H8 t)):∃c,L7 N u t=some c∧H8 c=mrg (H8 u) (H8 t):=by
 have h1:=r.gd.len;have h2:=q.gd.len
 rw[List.length_map]at h1 h2
 exact Mb (n:=l.length) (by omega) (by omega) (by omega) r.gd.asc q.gd.asc hd r.gd.wf.ins q.gd.wf.ins
theorem YL {u:List BD}{f:Int}(r:Kx l f (H8 u)):L4 N u=some (S5 (H8 u)):=by
 have h1:=r.gd.len
 rw[List.length_map]at h1
 exact QU (fun e=>r.ne (by rw[e];rfl)) (by omega)
theorem UE {q:A0} {o:List BD} {f:Int} {n:Nat} (wq:GX q) (sq:JC l.length q) (ho:IN l (H8 o) f) (hq:ZA N n l q o f) {x5:List BD→Int→Option (List (List BD))} {Qr:List BD→List BD→Prop}
 (hr:∀u,Sm l q (H8 o) f (H8 u)→∀r9,H8 r9=mrg (H8 o) (H8 u)→∃T,x5 r9 (S5 (H8 u)+1)=some T∧T.length≤4096∧∀t,t∈T↔Qr u t) (hres:∀u t,Sm l q (H8 o) f (H8 u)→Qr u t→Kx l (S5 (H8 u)+1) (H8 t)):
 ∃R,L5 N (n+2) ⟨l,false⟩ q o f x5=some R∧∀s,s∈R↔∃u t,Sm l q (H8 o) f (H8 u)∧Qr u t∧H8 s=mrg (H8 u) (H8 t):=by
 obtain⟨L,h1,h2,h3⟩:=hq;have hc:=FE wq sq ho h2 fun s hs=>(h3 s).1 hs;unfold L5 O6;refine KD ?_;rw[h1];simp only[Option.bind_some];refine Ca (L:=L) (u:=.inl ()) (Q:=fun u s=>∃t,Qr u t∧H8 s=mrg (H8 u) (H8 t)) (by omega) ?_ ?_ rfl ?_
 ·intro i u hu hi hm;have hsm:=(h3 u).1 hm;have r:=hsm.res wq ho;have hlst:=r.gd.lst r.ne;obtain⟨c,hc1,hc2⟩:=YO hN hl ho r;obtain⟨T,t1,t2,t3⟩:=hr u hsm c hc2;have e:ar .add .i64 (i:Int) 1=i+1:=C5 (by omega) (by omega);rw[if_pos (M7 hi),C6,hu];simp only[Option.bind_some];rw[hc1,YL hN hl r];simp only[Option.bind_some];rw[C5 (a:=S5 (H8 u)) (by omega) (by omega),t1];simp only[Option.bind_some,e];refine Ca (L:=T) (u:=.inl ()) (Q:=fun t s=>H8 s=mrg (H8 u) (H8 t)) (by omega) ?_ ?_ rfl ?_
  ·intro j t ht hj hmt;have qr:=(t3 t).1 hmt;have rt:=hres u t hsm qr;obtain⟨d,d1,d2⟩:=YN hN hl r rt (r.seq rt).2;have e:ar .add .i64 (j:Int) 1=j+1:=C5 (by omega) (by omega);rw[if_pos (M7 hj),C6,ht];simp only[Option.bind_some,Bool.false_eq_true,if_false,d1,e];exact FQ fun s=>⟨fun e=>by rw[e,d2],fun e=>Ik (e.trans d2.symm)⟩
  ·rw[if_neg P4]
  intro s
  constructor
  ·rintro⟨t,ht,e⟩;exact⟨t,(t3 t).1 ht,e⟩
  rintro⟨t,ht,e⟩;exact⟨t,(t3 t).2 ht,e⟩
 ·rw[if_neg P4]
 intro s
 constructor
 ·rintro⟨u,hu,t,ht,e⟩;exact⟨u,t,(h3 u).1 hu,ht,e⟩
 rintro⟨u,t,hu,ht,e⟩;exact⟨u,(h3 u).2 hu,t,ht,e⟩
def mu (l:List A4)(p:A0)(f:Nat):Nat:=p.pre.length*(l.length+2)+(l.length - f)
omit hN hl in
theorem DV {p q:A0}{f g:Nat}(h:q.pre.length<p.pre.length):mu l q g+1≤mu l p f:=by
 unfold mu;have:=Nat.mul_le_mul_right (l.length+2) (show q.pre.length+1≤p.pre.length from h)
 rw[Nat.add_mul]at this
 omega
omit hN hl in
theorem UY {p:A0}{f g:Nat}(h:f<g)(hg:g≤l.length):mu l p g+1≤mu l p f:=by unfold mu;omega
def IHk (N:Nat)(l:List A4)(k:Nat):Prop:=∀(p:A0) (o:List BD) (f n:Nat),mu l p f≤k→8*k+8≤n→p.pre.length≤64→GX p→JC l.length p→IN l (H8 o) f→ZA N n l p o f
omit hN hl in
theorem Ma {u:List PR}{f:Int}(r:Kx l f u)(h0:0≤f):∃g:Nat,S5 u+1=(g:Int)∧g≤l.length∧f<g:=by
 have:=r.gd.lst r.ne;obtain⟨x,_,hx,e⟩:=Cs r.ne;have:=r.ge x hx;exact⟨(S5 u+1).toNat,by omega,by omega,by omega⟩
theorem Ua {p:A0}(hw:GX p)(h0:p.Op=0){o:List BD}{f:Nat}(ho:IN l (H8 o) f)(n:Nat):∃R,EI N n ⟨l,false⟩ p o f=some R∧∀s,s∈R↔Sm l p (H8 o) f (H8 s):=by
 have:=ho.f1;refine⟨_,by unfold EI;rw[if_pos h0];exact VZ hN hl hw.self.cond ho.gd false (by omega),fun s=>?_⟩;rw[LZ,Sm.i0 h0]
 constructor
 ·rintro⟨j,h1,h2,h3,rfl⟩;exact⟨j,by omega,by omega,h3,rfl⟩
 rintro⟨j,h1,h2,h3,e⟩;exact⟨j,by omega,by omega,h3,Ik (e.trans rfl)⟩
theorem VE {L:List (List BD)}(hL:L.length≤1000000):∃R,O4 N L=some R∧∀s,s∈R↔s∈L:=by
 unfold O4 E6;refine KD ?_;refine Ca (L:=L) (u:=()) (Q:=fun x s=>s=x) (by omega) ?_ ?_ rfl ?_
 ·intro i u hu hi hm;have e:ar .add .i64 (i:Int) 1=i+1:=C5 (by omega) (by omega);rw[if_pos (M7 hi),C6,hu];simp only[Option.bind_some,e];exact FQ fun s=>Iff.rfl
 ·rw[if_neg P4]
 intro s;simp
theorem Ze {k:Nat} (ih:IHk N l k) {p:A0} (hw:GX p) (hp:p.pre.length≤64) (hs:JC l.length p) (h0:p.Op=1) {o:List BD} {f:Nat} (ho:IN l (H8 o) f) {n:Nat} (hmu:mu l p f≤k+1) (hn:8*k+15≤n):∃R,EI N n ⟨l,false⟩ p o f=some R∧∀s,s∈R↔Sm l p (H8 o) f (H8 s):=by
 unfold EI;rw[if_neg (by omega),if_pos h0];obtain⟨n,rfl⟩:∃m,n=m+1:=⟨n - 1,by omega⟩;unfold M3
 match ha:p.cR with
 |[]=>exact absurd ha (hw.self.a1 (by omega) (by omega))
 |[q]=>
  have hq:q∈p.cR:=by rw[ha];simp
  have:=DV (l:=l) (f:=f) (g:=f) (P2 hq);obtain⟨L,h1,h2,h3⟩:=ih q o f n (by omega) (by omega) (by have:=P2 hq;omega) (hw.arg hq) (hs.arg hq) ho;have hc:=FE (hw.arg hq) (hs.arg hq) ho h2 fun s hs=>(h3 s).1 hs;obtain⟨R,h4,h5⟩:=VE hN hl (L:=L) (by omega);rw[if_pos (show cmp .eql (Ar.len [q]) 1=true from rfl),HN];simp only[Option.bind_some];rw[h1];simp only[Option.bind_some];rw[h4];exact⟨R,rfl,fun s=>(h5 s).trans ((h3 s).trans (Sm.i1 h0 ha).symm)⟩
 | q::q'::r=>
  have hq:q∈p.cR:=by rw[ha];simp
  have hwr:GX {p with cR:=q'::r}:=hw.sub (by omega) (by omega) (fun x hx=>by rw[ha];exact List.mem_cons_of_mem _ hx) (by simp);have hsr:JC l.length {p with cR:=q'::r}:=hs.tail ha;rw[if_neg (by rw[B9,B1];simp;omega),CR,HN];simp only[Option.bind_some];obtain⟨n,rfl⟩:∃m,n=m+2:=⟨n - 2,by omega⟩;have m1:=DV (l:=l) (f:=f) (g:=f) (P2 hq)
  obtain⟨R,h1,h2⟩:=UE hN hl (hw.arg hq) (hs.arg hq) ho (ih q o f n (by omega) (by omega) (by have:=P2 hq;omega) (hw.arg hq) (hs.arg hq) ho) (x5:=fun y1 y2=>K2 N (n+2) y1 y2 ⟨l,false⟩ {p with cR:=q'::r})
   (Qr:=fun u t=>Sm l {p with cR:=q'::r} (mrg (H8 o) (H8 u)) (S5 (H8 u)+1) (H8 t)) (fun u hu r9 e9=>by
    have ru:=hu.res (hw.arg hq) ho;obtain⟨g,hg,hgl,hfg⟩:=Ma ru ho.f0
    have ho':IN l (H8 r9) (g:Int):=by rw[e9,←hg];exact ho.next ru
    have m2:=DV (l:=l) (f:=f) (g:=g) (JU ha);obtain⟨T,t1,t2,t3⟩:=ih {p with cR:=q'::r} r9 g (n+1) (by omega) (by omega) (by have:=JU ha;omega) hwr hsr ho';have hc:=FE hwr hsr ho' t2 fun s hs=>(t3 s).1 hs;refine⟨T,?_,by omega,fun t=>?_⟩
    ·unfold K2;rw[hg,t1];rfl
    rw[t3,e9,hg]) (fun u t hu ht=>ht.res hwr (ho.next (hu.res (hw.arg hq) ho)))
  rw[h1];refine⟨R,rfl,fun s=>(h2 s).trans ?_⟩;rw[Sm.i1c h0 ha]
  constructor
  ·rintro⟨u,t,a,b,c⟩;exact⟨H8 u,H8 t,a,b,c⟩
  rintro⟨u,t,a,b,c⟩;exact⟨u.map JO,t.map JO,by rw[P9];exact a,by simp only[P9];exact b,by rw[P9,P9];exact c⟩
end
end
end Go.Ab
namespace Go.Ab
open Classical
noncomputable section
section
variable {N:Nat}(hN:40000000≤N){l:List A4}(hl:l.length≤10)
include hN hl
theorem Zf {k:Nat} (ih:IHk N l k) {p:A0} (hw:GX p) (hp:p.pre.length≤64) (hs:JC l.length p) (h0:p.Op=2) {o:List BD} {f:Nat} (ho:IN l (H8 o) f) {n:Nat} (hmu:mu l p f≤k+1) (hn:8*k+15≤n):∃R,EI N n ⟨l,false⟩ p o f=some R∧∀s,s∈R↔Sm l p (H8 o) f (H8 s):=by
 unfold EI;rw[if_neg (by omega),if_neg (by omega),if_pos h0];obtain⟨n,rfl⟩:∃m,n=m+2:=⟨n - 2,by omega⟩;unfold M4 Q4;have hal:=BY p;refine KD ?_;refine Ca (L:=p.cR) (u:=()) (Q:=fun q s=>Sm l q (H8 o) f (H8 s)) (by omega) ?_ ?_ rfl ?_
 ·intro i q hu hi hq;have:=DV (l:=l) (f:=f) (g:=f) (P2 hq);obtain⟨L,h1,h2,h3⟩:=ih q o f n (by omega) (by omega) (by have:=P2 hq;omega) (hw.arg hq) (hs.arg hq) ho;have hc:=FE (hw.arg hq) (hs.arg hq) ho h2 fun s hs=>(h3 s).1 hs;have e:ar .add .i64 (i:Int) 1=i+1:=C5 (by omega) (by omega);rw[if_pos (M7 hi),C6,hu];simp only[Option.bind_some,e];rw[h1];simp only[Option.bind_some];refine Ca (L:=L) (u:=()) (Q:=fun x s=>s=x) (by omega) ?_ ?_ rfl ?_
  ·intro j u hu hj hm;have e:ar .add .i64 (j:Int) 1=j+1:=C5 (by omega) (by omega);rw[if_pos (M7 hj),C6,hu];simp only[Option.bind_some,e];exact FQ fun s=>Iff.rfl
  ·rw[if_neg P4]
  intro s
  constructor
  ·rintro⟨x,hx,rfl⟩;exact(h3 _).1 hx
  intro h;exact⟨s,(h3 s).2 h,rfl⟩
 ·rw[if_neg P4]
 intro s;exact(Sm.i2 h0).symm
theorem WP {k:Nat} (ih:IHk N l k) {p:A0} (hw:GX p) (hp:p.pre.length≤64) (hs:JC l.length p) (h0:5≤p.Op) {o:List BD} {f:Nat} (ho:IN l (H8 o) f) {n:Nat} (hmu:mu l p f≤k+1) (hn:8*k+15≤n):∃R,EI N n ⟨l,false⟩ p o f=some R∧∀s,s∈R↔Sm l p (H8 o) f (H8 s):=by
 unfold EI;rw[if_neg (by omega),if_neg (by omega),if_neg (by omega),if_neg (by omega),if_neg (by omega)];obtain⟨n,rfl⟩:∃m,n=m+2:=⟨n - 2,by omega⟩;unfold F2 O7;obtain⟨q,ha⟩:=hw.self.a2 (by omega);have hop:=hw.self.op
 have hq:q∈p.cR:=by rw[ha];simp
 have:=DV (l:=l) (f:=f) (g:=f) (P2 hq);obtain⟨L,h1,h2,h3⟩:=ih q o f n (by omega) (by omega) (by have:=P2 hq;omega) (hw.arg hq) (hs.arg hq) ho;have hc:=FE (hw.arg hq) (hs.arg hq) ho h2 fun s hs=>(h3 s).1 hs;refine KD ?_;rw[ha,HN];simp only[Option.bind_some];rw[h1];simp only[Option.bind_some];refine Ca (L:=L) (u:=()) (Q:=fun x s=>keepsA l p (H8 o) (H8 x)=true∧s=x) (by omega) ?_ ?_ rfl ?_
 ·intro j u hu hj hm;have ru:=((h3 u).1 hm).res (hw.arg hq) ho;have e:ar .add .i64 (j:Int) 1=j+1:=C5 (by omega) (by omega);rw[if_pos (M7 hj),C6,hu];simp only[Option.bind_some,e];rw[VL hN hl hw.self.cond ⟨h0,hop.2⟩ ho.gd ru.gd (fun e=>ru.ne (by rw[e];rfl)) (ho.apart ru)];simp only[Option.bind_some]
  by_cases hk:keepsA l p (H8 o) (H8 u)=true
  ·rw[if_pos hk];exact FQ fun s=>⟨fun e=>⟨hk,e⟩,fun e=>e.2⟩
  rw[if_neg hk];exact⟨[],rfl,fun s=>⟨fun h=>absurd h List.not_mem_nil,fun h=>absurd h.1 hk⟩⟩
 ·rw[if_neg P4]
 intro s;rw[Sm.i5 h0 hop.2 ha]
 constructor
 ·rintro⟨x,hx,hk,rfl⟩;exact⟨(h3 _).1 hx,hk⟩
 rintro⟨h,hk⟩;exact⟨s,(h3 s).2 h,hk,rfl⟩
theorem WQ {k:Nat} (ih:IHk N l k) {p:A0} (hw:GX p) (hp:p.pre.length≤64) (hs:JC l.length p) (h0:p.Op=4) {o:List BD} {f:Nat} (ho:IN l (H8 o) f) {n:Nat} (hmu:mu l p f≤k+1) (hn:8*k+15≤n):∃R,EI N n ⟨l,false⟩ p o f=some R∧∀s,s∈R↔Sm l p (H8 o) f (H8 s):=by
 unfold EI;rw[if_neg (by omega),if_neg (by omega),if_neg (by omega),if_neg (by omega),if_pos h0];obtain⟨n,rfl⟩:∃m,n=m+2:=⟨n - 2,by omega⟩;unfold L6 O8;obtain⟨q,ha⟩:=hw.self.a2 (by omega)
 have hq:q∈p.cR:=by rw[ha];simp
 have m1:=DV (l:=l) (f:=f) (g:=f) (P2 hq);obtain⟨L,h1,h2,h3⟩:=ih q o f n (by omega) (by omega) (by have:=P2 hq;omega) (hw.arg hq) (hs.arg hq) ho;have hc:=FE (hw.arg hq) (hs.arg hq) ho h2 fun s hs=>(h3 s).1 hs
 have hi:B6 p.cR 0=some q:=by rw[ha];rfl
 rw[hi];simp only[Option.bind_some];rw[h1];simp only[Option.bind_some];obtain⟨n,rfl⟩:∃m,n=m+2:=⟨n - 2,by omega⟩
 obtain⟨R,r1,r2⟩:=UE hN hl (hw.arg hq) (hs.arg hq) ho (ih q o f n (by omega) (by omega) (by have:=P2 hq;omega) (hw.arg hq) (hs.arg hq) ho) (x5:=fun y1 y2=>I4 N (n+2) y1 y2 ⟨l,false⟩ p)
  (Qr:=fun u t=>Sm l p (mrg (H8 o) (H8 u)) (S5 (H8 u)+1) (H8 t)) (fun u hu r9 e9=>by
   have ru:=hu.res (hw.arg hq) ho;obtain⟨g,hg,hgl,hfg⟩:=Ma ru ho.f0
   have ho':IN l (H8 r9) (g:Int):=by rw[e9,←hg];exact ho.next ru
   have m2:=UY (p:=p) (show f<g by omega) hgl;obtain⟨T,t1,t2,t3⟩:=ih p r9 g (n+1) (by omega) (by omega) hp hw hs ho';have hc:=FE hw hs ho' t2 fun s hs=>(t3 s).1 hs;refine⟨T,?_,by omega,fun t=>?_⟩
   ·unfold I4;rw[hg,t1];rfl
   rw[t3,e9,hg]) (fun u t hu ht=>ht.res hw (ho.next (hu.res (hw.arg hq) ho)))
 obtain ⟨W, w1,w2⟩:=Oz (L:=L) (N:=N) (A:=Unit ⊕ Unit) (u:=.inl ()) (Q:=fun x s=>s=x) (step:=fun(s3:Int)=>
         (
          if cmp .lss s3 (Ar.len L)=true then
           (B6 L s3).bind fun x9=>
           if(⟨l,false⟩:B3).full=true then
            some ([],.inr (.inr ()))
           else
            O0 (some ([x9],())) fun _=>
            some ([],.inl (ar .add .i64 s3 1))
          else
           some ([],.inr (.inl ()))
          :Option (List (List A1)×((Int) ⊕ (Unit ⊕ Unit))))) (by omega) (fun j u hu hj hm=>by
  have e:ar .add .i64 (j:Int) 1=j+1:=C5 (by omega) (by omega);rw[if_pos (M7 hj),C6,hu];simp only[Option.bind_some,e,Bool.false_eq_true,if_false]
  exact FQ fun s=>Iff.rfl) (by rw[if_neg P4])
 obtain ⟨V,v1,v2⟩:=MJ (L:=R) (R:=Unit) (Q:=fun x s=>s=x) (body:=fun(_:Unit) (y15:(List A1))=>
         (
          O0 (some ([y15],())) fun _=>
          some ([],.inl ())
          :Option (List (List A1)×(Unit ⊕ Unit)))) fun x hx=>FQ fun s=>Iff.rfl
 refine⟨W++(V++[]),?_,fun s=>?_⟩
 ·refine(congrArg (fun m:Option (List (List BD)×Unit)=>m.bind fun q=>some q.1) (FK (o:=()) (w':=V++[]) w1 ?_)).trans rfl
  dsimp only
  rw[r1];simp only[Option.bind_some];exact FK v1 rfl
 rw[append_nil,List.mem_append,w2,v2,Sm.i4 h0 ha];refine or_congr ?_ ?_
 ·constructor
  ·rintro⟨x,hx,rfl⟩;exact(h3 _).1 hx
  intro h;exact⟨s,(h3 s).2 h,rfl⟩
 constructor
 ·rintro⟨x,hx,rfl⟩;obtain⟨u,t,a,b,c⟩:=(r2 _).1 hx;exact⟨H8 u,H8 t,a,b,c⟩
 rintro⟨u,t,a,b,c⟩;exact⟨s,(r2 s).2 ⟨u.map JO,t.map JO,by rw[P9];exact a,by simp only[P9];exact b,by rw[P9,P9];exact c⟩,rfl⟩
def Xp :List (List (List BD))→List PR→List PR→Prop
 |[],w,s=>s=w
 |L::r,w,s=>∃u∈L,Cv w (H8 u)∧Xp r (mrg w (H8 u)) s
omit hN hl in
theorem Xp.snoc :∀{P:List (List (List BD))} {L:List (List BD)} {w s:List PR},Xp (P++[L]) w s↔∃t,Xp P w t∧∃u∈L,Cv t (H8 u)∧s=mrg t (H8 u)
 |[],L,w,s=>by simp[Xp]
 |M::P,L,w,s=>by
  show(∃u∈M,Cv w (H8 u)∧Xp (P++[L]) (mrg w (H8 u)) s)↔_
  constructor
  ·rintro⟨u,hu,ha,h⟩;obtain⟨t,ht,h⟩:=Xp.snoc.1 h;exact⟨t,⟨u,hu,ha,ht⟩,h⟩
  rintro⟨t,⟨u,hu,ha,ht⟩,h⟩;exact⟨u,hu,ha,Xp.snoc.2 ⟨t,ht,h⟩⟩
theorem RP {f:Int}:∀{P:List (List (List BD))} {w:List BD} {n:Nat},P.length<n→(∀L∈P,L.length≤4096∧∀u∈L,Kx l f (H8 u))→Gd l (H8 w)→∃R,T3 N n P w=some R∧∀s,s∈R↔Xp P (H8 w) (H8 s)
 |[],w,n,hn,_,_=>by
  obtain⟨n,rfl⟩:∃m,n=m+1:=⟨n - 1,by omega⟩;unfold T3;refine⟨[w],by rw[if_pos (show cmp .eql (Ar.len ([]:List (List (List BD)))) 0=true from rfl)];rfl,fun s=>?_⟩;rw[List.mem_singleton];exact⟨fun e=>by rw[e];rfl,fun e=>Ik e⟩
 | L::P,w,n,hn,hP,gw=>by
  obtain⟨n,rfl⟩:∃m,n=m+1:=⟨n - 1,by omega⟩;unfold T3;have hwl:=gw.len
  rw[List.length_map]at hwl
  obtain⟨hLl,hL⟩:=hP L (by simp);refine KD ?_;rw[if_neg (by rw[B9,B1];simp;omega),HN];simp only[Option.bind_some];refine Ca (L:=L) (u:=()) (Q:=fun u s=>Cv (H8 w) (H8 u)∧Xp P (mrg (H8 w) (H8 u)) (H8 s)) (by omega) ?_ ?_ rfl ?_
  ·intro i u hu hi hm;have ru:=hL u hm;have hul:=ru.gd.len
   rw[List.length_map]at hul
   have e:ar .add .i64 (i:Int) 1=i+1:=C5 (by omega) (by omega);rw[if_pos (M7 hi),C6,hu];simp only[Option.bind_some,e];rw[VI hN (by omega) (by omega),CR];simp only[Option.bind_some]
   by_cases ha:Cv (H8 w) (H8 u)
   ·rw[KR.2 ha,if_pos (show nt false=true from rfl)];obtain⟨c,c1,c2⟩:=Mb (N:=N) (n:=l.length) (by omega) (by omega) (by omega) gw.asc ru.gd.asc ha gw.wf.ins ru.gd.wf.ins;obtain⟨R,r1,r2⟩:=RP (P:=P) (w:=c) (n:=n) (by simp at hn;omega) (fun L hL=>hP L (by simp[hL])) (by rw[c2];exact gw.mrg ru.gd ha);rw[c1];simp only[Option.bind_some];rw[r1];refine⟨R++[],FK rfl rfl,fun s=>?_⟩;rw[append_nil,r2,c2];exact⟨fun h=>⟨ha,h⟩,fun h=>h.2⟩
   have:CY (H8 w) (H8 u)=true:=by
    cases h:CY (H8 w) (H8 u)with
    |true=>rfl
    |false=>exact absurd (KR.1 h) ha
   rw[this,if_neg (show¬nt true=true by decide)];exact⟨[],rfl,fun s=>⟨fun h=>absurd h List.not_mem_nil,fun h=>absurd h.1 ha⟩⟩
  ·rw[if_neg P4]
  intro s
  constructor
  ·rintro⟨u,hu,ha,h⟩;exact⟨u,hu,ha,h⟩
  rintro⟨u,hu,ha,h⟩;exact⟨u,hu,ha,h⟩
omit hN hl in
theorem Al7 {G:A0→List (List BD)} {b:List PR} {f:Int}:∀(n:Nat) {r:List A0} {p:A0},r.length≤n→p.Op=3→p.cR=r→r≠[]→(∀q∈r,∀s,s∈G q↔Sm l q b f (H8 s))→∀s,Xp (r.map G) [] s↔Sm l p b f s:=by
 intro n
 induction n with
 |zero=>intro r p hl _ _ hn;exact absurd (List.eq_nil_of_length_eq_zero (by omega)) hn
 | succ n ih=>
  intro r p hln h0 ha hn hG s
  rcases List.eq_nil_or_concat r with rfl|⟨m,q,rfl⟩
  ·exact absurd rfl hn
  rw[List.concat_eq_append]at *
  rw[List.map_append,List.map_cons,List.map_nil,Xp.snoc]
  by_cases hm:m=[]
  ·subst hm;rw[Sm.i3 h0 ha]
   constructor
   ·rintro⟨t,ht,u,hu,_,e⟩;have ht:t=[]:=ht;rw[e,ht,DW];exact(hG q (by simp) u).1 hu
   intro h;refine⟨[],rfl,s.map JO,(hG q (by simp) _).2 (by rw[P9];exact h),fun x hx=>absurd hx List.not_mem_nil,?_⟩;rw[P9,DW]
  rw[Sm.i3c h0 ha hm];have ih':=fun t=>ih (r:=m) (p:={p with cR:=m}) (by simp at hln;omega) h0 rfl hm (fun q hq=>hG q (by simp[hq])) t
  constructor
  ·rintro⟨t,ht,u,hu,hd,e⟩;exact⟨t,H8 u,(ih' t).1 ht,(hG q (by simp) u).1 hu,hd,e⟩
  rintro⟨t,u,ht,hu,hd,e⟩;exact⟨t,(ih' t).2 ht,u.map JO,(hG q (by simp) _).2 (by rw[P9];exact hu),by rw[P9];exact hd,by rw[P9];exact e⟩
theorem Zg {k:Nat} (ih:IHk N l k) {p:A0} (hw:GX p) (hp:p.pre.length≤64) (hs:JC l.length p) (h0:p.Op=3) {o:List BD} {f:Nat} (ho:IN l (H8 o) f) {n:Nat} (hmu:mu l p f≤k+1) (hn:8*k+15≤n):∃R,EI N n ⟨l,false⟩ p o f=some R∧∀s,s∈R↔Sm l p (H8 o) f (H8 s):=by
 unfold EI;rw[if_neg (by omega),if_neg (by omega),if_neg (by omega),if_pos h0];obtain⟨n,rfl⟩:∃m,n=m+2:=⟨n - 2,by omega⟩;unfold M5 Q5;have hal:=BY p
 let G:A0→List (List BD):=fun q=>(C8 N n ⟨l,false⟩ q o f).getD []
 have hG:∀q∈p.cR,C8 N n ⟨l,false⟩ q o f=some (G q)∧(∀s,s∈G q↔Sm l q (H8 o) f (H8 s))∧(G q).length≤1500:=fun q hq=>by
  have:=DV (l:=l) (f:=f) (g:=f) (P2 hq);obtain⟨L,h1,h2,h3⟩:=ih q o f n (by omega) (by omega) (by have:=P2 hq;omega) (hw.arg hq) (hs.arg hq) ho;have hc:=FE (hw.arg hq) (hs.arg hq) ho h2 fun s hs=>(h3 s).1 hs
  have e:G q=L:=by show(C8 N n ⟨l,false⟩ q o f).getD []=L;rw[h1];rfl
  exact⟨by rw[e];exact h1,by rw[e];exact h3,by rw[e];exact hc⟩
 have key:∀(k i M:Nat) (acc:List (List (List BD))),i+k=p.cR.length→k<M→acc.length≤i→X1 (fun(s1:(List (List (List A1)))×Int)=>
  (
   if cmp .lss s1.2 (Ar.len p.cR)=true then
    (B6 p.cR s1.2).bind fun x8=>
    (C8 N n ⟨l,false⟩ x8 o f).bind fun r9=>
    (H9 s1.1 ([r9])).bind fun l11=>
    some ([],.inl (l11,ar .add .i64 s1.2 1))
   else
    some ([],.inr s1.1)
   :Option (List (List A1)×(((List (List (List A1)))×Int) ⊕ (((List (List (List A1))))))))) M (acc,(i:Int))=some ([],acc++(p.cR.drop i).map G):=by
  intro k
  induction k with
  |zero=>
   intro i M acc hi hM _;obtain⟨M,rfl⟩:∃m,M=m+1:=⟨M - 1,by omega⟩;rw[List.drop_eq_nil_of_le (by omega)];unfold X1
   dsimp only
   rw[if_neg (X0 (by rw[B1];omega))];simp
  |succ k ihk=>
   intro i M acc hi hM hacc;obtain⟨M,rfl⟩:∃m,M=m+1:=⟨M - 1,by omega⟩
   have hlt:i<p.cR.length:=by omega
   have e:ar .add .i64 (i:Int) 1=i+1:=C5 (by omega) (by omega);rw[List.drop_eq_getElem_cons hlt];unfold X1
   dsimp only
   rw[if_pos (M7 (by omega)),C6,List.getElem?_eq_getElem hlt];simp only[Option.bind_some];rw[(hG _ (List.getElem_mem hlt)).1];simp only[Option.bind_some];rw[M2 (by simp;omega)];simp only[Option.bind_some,e];rw[show((i:Int)+1)=((i+1:Nat):Int) by omega,ihk (i+1) M _ (by omega) (by omega) (by simp;omega),List.map_cons,List.append_assoc];rfl
 have hk:=key p.cR.length 0 N [] (by omega) (by omega) (by simp)
 simp only[List.drop_zero,List.nil_append]at hk
 have hk':((0:Nat):Int)=0:=rfl
 rw[hk']at hk
 obtain⟨R,r1,r2⟩:=RP hN hl (f:=f) (P:=p.cR.map G) (w:=[]) (n:=N) (by simp;omega) (fun L hL=>by
  obtain⟨q,hq,rfl⟩:=List.mem_map.1 hL;obtain⟨_,h2,h3⟩:=hG q hq
  exact⟨by omega,fun u hu=>((h2 u).1 hu).res (hw.arg hq) ho⟩) (Gd.nil l)
 refine KD ⟨[]++(R++[]),FK hk ?_,fun s=>?_⟩
 ·rw[if_pos (show nt (⟨l,false⟩:B3).full=true from rfl),r1];simp only[Option.bind_some];exact FK rfl rfl
 rw[List.nil_append,append_nil,r2];exact Al7 _ (Nat.le_refl _) h0 rfl (hw.self.a1 (by omega) (by omega)) (fun q hq=>(hG q hq).2.1) _
theorem We :∀k,IHk N l k:=by
 intro k
 induction k with
 |zero=>
  intro p o f n hmu;exfalso;have h1:=A0.pre_eq p
  have:1≤p.pre.length:=by rw[h1];simp
  unfold mu at hmu
  have:=Nat.mul_le_mul_right (l.length+2) this;omega
 | succ k ih=>
  intro p o f n hmu hn hp hw hs ho;obtain⟨n,rfl⟩:∃m,n=m+1:=⟨n - 1,by omega⟩;have hop:=hw.self.op
  have hf:∃R,EI N n ⟨l,false⟩ p o f=some R∧∀s,s∈R↔Sm l p (H8 o) f (H8 s):=by
   by_cases h0:p.Op=0
   ·exact Ua hN hl hw h0 ho n
   by_cases h1:p.Op=1
   ·exact Ze hN hl ih hw hp hs h1 ho hmu (by omega)
   by_cases h2:p.Op=2
   ·exact Zf hN hl ih hw hp hs h2 ho hmu (by omega)
   by_cases h3:p.Op=3
   ·exact Zg hN hl ih hw hp hs h3 ho hmu (by omega)
   by_cases h4:p.Op=4
   ·exact WQ hN hl ih hw hp hs h4 ho hmu (by omega)
   exact WP hN hl ih hw hp hs (by omega) ho hmu (by omega)
  obtain⟨R,h1,h2⟩:=hf;exact Ak0 hN hl hw hs ho h1 h2
end
end
end Go.Ab
namespace Go.Ab
open Classical
noncomputable section
def Ur (out:List (List PR))(s:List PR):List (List PR):=if s∈out then out else out++[s]
def Nd (P:List PR→Prop)(out:List (List PR)):Prop:=out.Nodup∧∀s∈out,P s
theorem Nd.nil (P:List PR→Prop):Nd P []:=⟨List.nodup_nil,fun _ h=>absurd h List.not_mem_nil⟩
theorem Nd.add {P:List PR→Prop}{out:List (List PR)}{s:List PR}(h:Nd P out)(hs:P s):Nd P (Ur out s):=by
 unfold Ur
 split
 ·exact h
 rename_i hin;refine⟨List.nodup_append.2 ⟨h.1,by simp,fun a ha b hb e=>hin (by rw[←List.mem_singleton.1 hb,←e];exact ha)⟩,fun x hx=>?_⟩
 rcases List.mem_append.1 hx with hx|hx
 ·exact h.2 x hx
 rw[List.mem_singleton.1 hx];exact hs
theorem Ac7 {out:List (List PR)}{s t:List PR}:t∈Ur out s↔t∈out∨t=s:=by
 unfold Ur
 split
 ·rename_i h;exact⟨.inl,fun e=>e.elim id fun e=>e▸h⟩
 rw[List.mem_append,List.mem_singleton]
def addL (out L:List (List PR)):List (List PR):=L.foldl Ur out
theorem MY {s:List PR}:∀{L out:List (List PR)},s∈addL out L↔s∈out∨s∈L
 |[],out=>by simp[addL]
 |t::L,out=>by
  show s∈addL (Ur out t) L↔_
  rw[MY,Ac7,List.mem_cons,or_assoc]
theorem Nd.addL {P:List PR→Prop}:∀{L out:List (List PR)},Nd P out→(∀s∈L,P s)→Nd P (addL out L)
 |[],_,h,_=>h
 |t::L,out,h,hp=>Nd.addL (L:=L) (h.add (hp t (by simp))) fun s hs=>hp s (by simp[hs])
theorem Zz (out A B:List (List PR)):addL out (A++B)=addL (addL out A) B:=List.foldl_append
theorem EB {α:Type}{L:List α}{N:Nat}{step:(List (List PR))×Int→Option (((List (List PR))×Int) ⊕ List (List PR))}(P:List PR→Prop)(F:α→List (List PR)){MN:List (List PR)}(hN:L.length<N)(hl:L.length<1000000000)(h0:Nd P MN)(hP:∀x∈L,∀s∈F x,P s)
 (hs:∀out (i:Nat) x,L[i]? =some x→(i:Int)<L.length→x∈L→ar .add .i64 (i:Int) 1=i+1→Nd P out→step (out,(i:Int))=some (.inl (addL out (F x),(i:Int)+1))) (he:∀out,step (out,(L.length:Int))=some (.inr out)):loopN step N (MN,0)=some (addL MN (L.flatMap F)):=by
 have h:=(CZ (L:=L) (N:=N) (step:=step) (fun o i=>(o,i)) (fun o x=>addL o (F x)) (fun o=>o) (fun _=>Nd P) hN hl h0 (fun o i x a b c d e=>⟨hs o i x a b c d e,e.addL (hP x c)⟩) he).1;rw[h]
 congr 1
 clear h hP hs he h0 hN hl
 induction L generalizing MN with
 |nil=>rfl
 |cons a L ih=>rw[List.foldl_cons,ih,List.flatMap_cons,Zz]
theorem KZ {l:List A4}{p:A0}(hw:GX p)(hs:JC l.length p){b:List PR}{f:Int}(ho:IN l b f){out:List (List PR)}(h:Nd (Sm l p b f) out):out.length≤1500:=card hw hs h.1 fun s m=>⟨((h.2 s m).res hw ho).gd,b,f,h.2 s m⟩
def DH (r:Option (List (List PR)))(l:List A4)(p:A0)(b:List PR)(f:Int):Prop:=∃L,r=some L∧L.Nodup∧∀s,s∈L↔Sm l p b f s
theorem DH.of {l:List A4}{p:A0}{b:List PR}{f:Int}{L:List (List PR)}(h:∀s,s∈L↔Sm l p b f s):DH ((some (addL [] L)).bind fun s=>some s) l p b f:=
 ⟨_,rfl,((Nd.nil fun _=>True).addL fun _ _=>trivial).1,fun s=>by rw[MY];simpa using h s⟩
theorem DH.mk {x:Option (List (List PR))}{l:List A4}{p:A0}{b:List PR}{f:Int}(h:∃L,x=some L∧L.Nodup∧∀s,s∈L↔Sm l p b f s):DH (x.bind fun s=>some s) l p b f:=by
 obtain⟨L,rfl,h⟩:=h;exact⟨L,rfl,h⟩
section
variable {N:Nat}(hN:40000000≤N){l:List A4}(hl:l.length≤10)
include hN hl
theorem LN {p:A0}(hw:GX p)(hs:JC l.length p){b:List PR}{f:Int}(ho:IN l b f){out:List (List PR)}(h:Nd (Sm l p b f) out)(s:List PR):T4 N out s=some (Ur out s):=by
 have hc:=KZ hw hs ho h
 exact XV hN (by omega) fun x hx=>by have:=((h.2 x hx).res hw ho).gd.len;omega
theorem UD {o u:List PR}{f:Int}(ho:IN l o f)(r:Kx l f u):G4 N o u=some (mrg o u):=by
 have h1:=ho.gd.len;have h2:=r.gd.len;exact EX hN (by omega)
theorem UC {u t:List PR}{f g:Int}(r:Kx l f u)(q:Kx l g t):G4 N u t=some (mrg u t):=by
 have h1:=r.gd.len;have h2:=q.gd.len;exact EX hN (by omega)
theorem On {u:List PR}{f:Int}(r:Kx l f u):∃x,B6 u (ar .sub .i64 (Ar.len u) 1)=some x∧ar .add .i64 x.At 1=S5 u+1:=by
 have h1:=r.gd.len;have h4:=r.gd.lst r.ne;obtain⟨x,h2,_,h3⟩:=Cs r.ne;exact⟨x,by rw[EF r.ne (by omega),h2],by rw[h3]at h4 ⊢;exact C5 (by omega) (by omega)⟩
def IHr (N:Nat)(l:List A4)(k:Nat):Prop:=∀(p:A0) (b:List PR) (f n:Nat),mu l p f≤k→8*k+8≤n→p.pre.length≤64→GX p→JC l.length p→IN l b f→
 DH (K7 N n p l b f) l p b f∧(p.Op=1→DH (Aa N n p.cR l b f) l p b f)∧(p.Op=4→DH (W7 N n p l b f) l p b f)
omit hN hl in
theorem Nj {k:Nat}(ih:IHr N l k){p q:A0}(hw:GX p)(hp:p.pre.length≤64)(hs:JC l.length p)(hq:q∈p.cR){b:List PR}{f:Nat}(ho:IN l b f){n:Nat}(hmu:mu l p f≤k+1)(hn:8*k+8≤n):∃L,K7 N n q l b f=some L∧L.Nodup∧(∀s,s∈L↔Sm l q b f s)∧L.length≤1500∧∀s∈L,Kx l f s:=by
 have m:=P2 hq;have m1:=DV (l:=l) (f:=f) (g:=f) m;obtain⟨L,h1,h2,h3⟩:=(ih q b f n (by omega) hn (by omega) (hw.arg hq) (hs.arg hq) ho).1;exact⟨L,h1,h2,h3,KZ (hw.arg hq) (hs.arg hq) ho ⟨h2,fun s hs=>(h3 s).1 hs⟩,fun s h=>((h3 s).1 h).res (hw.arg hq) ho⟩
theorem Rj {p:A0} (hw:GX p) (hs:JC l.length p) {b u:List PR} {f:Int} (ho:IN l b f) (ru:Kx l f u) {T out:List (List PR)} (hT:T.length≤1500) (hr:∀t∈T,Kx l (S5 u+1) t) (hP:∀t∈T,Sm l p b f (mrg u t)) (hg:Nd (Sm l p b f) out) {step:(List (List PR))×Int→Option (((List (List PR))×Int) ⊕ List (List PR))}
 (hst:∀o i,step (o,i)=if cmp .lss i (Ar.len T)=true then(B6 T i).bind fun x=>(G4 N u x).bind fun r=>(T4 N o r).bind fun l=>some (.inl (l,ar .add .i64 i 1))else some (.inr o)):loopN step N (out,0)=some (addL out (T.map (mrg u))):=by
 rw[EB (L:=T) (N:=N) (step:=step) (Sm l p b f) (fun t=>[mrg u t]) (by omega) (by omega) hg (fun t ht s hs=>by rw[List.mem_singleton.1 hs];exact hP t ht) (fun o i t ht hi hm e hg=>by
  rw[hst,if_pos (show cmp .lss (i:Int) (Ar.len T)=true from AS hi),C6,ht];simp only[Option.bind_some];rw[UC hN hl ru (hr t hm)];simp only[Option.bind_some]
  rw[LN hN hl hw hs ho hg,e];rfl) (fun o=>by rw[hst,if_neg (show¬cmp .lss (T.length:Int) (Ar.len T)=true from X0 (Int.lt_irrefl _))]),←List.map_eq_flatMap]
theorem UM {k:Nat} (ih:IHr N l k) {p:A0} (hw:GX p) (hp:p.pre.length≤64) (hs:JC l.length p) (h0:p.Op=1) {b:List PR} {f:Nat} (ho:IN l b f) {n:Nat} (hmu:mu l p f≤k+1) (hn:8*k+9≤n):DH (Aa N n p.cR l b f) l p b f:=by
 obtain⟨n,rfl⟩:∃m,n=m+1:=⟨n - 1,by omega⟩;unfold Aa
 match ha:p.cR with
 |[]=>exact absurd ha (hw.self.a1 (by omega) (by omega))
 | q::r=>
  obtain⟨L,h1,h2,h3,hc,hr⟩:=Nj ih hw hp hs (q:=q) (by rw[ha];simp) ho hmu (n:=n) (by omega);rw[HN];simp only[Option.bind_some];rw[h1];simp only[Option.bind_some]
  cases r with
  |nil=>
   rw[if_pos (show cmp .eql (Ar.len [q]) 1=true from rfl)];exact⟨L,rfl,h2,fun s=>(h3 s).trans (Sm.i1 h0 ha).symm⟩
  | cons q' r=>
   have hwr:GX {p with cR:=q'::r}:=hw.sub (by omega) (by omega) (fun x hx=>by rw[ha];exact List.mem_cons_of_mem _ hx) (by simp)
   let T:List PR→List (List PR):=fun u=>(Aa N n (q'::r) l (mrg b u) (S5 u+1)).getD []
   have hT:∀u∈L,Aa N n (q'::r) l (mrg b u) (S5 u+1)=some (T u)∧(T u).length≤1500∧(∀t,t∈T u↔Sm l {p with cR:=q'::r} (mrg b u) (S5 u+1) t)∧∀t∈T u,Kx l (S5 u+1) t:=fun u hu=>by
    obtain⟨g,hg,hgl,hfg⟩:=Ma (hr u hu) ho.f0
    have ho':IN l (mrg b u) (g:Int):=by rw[←hg];exact ho.next (hr u hu)
    have m:=JU ha;have m2:=DV (l:=l) (f:=f) (g:=g) m;obtain⟨S,t1,t2,t3⟩:=(ih {p with cR:=q'::r} (mrg b u) g n (by omega) (by omega) (by omega) hwr (hs.tail ha) ho').2.1 h0
    have e:T u=S:=by show(Aa N n (q'::r) l (mrg b u) (S5 u+1)).getD []=S;rw[hg,t1];rfl
    rw[e,hg];exact⟨t1,KZ hwr (hs.tail ha) ho' ⟨t2,fun s hs=>(t3 s).1 hs⟩,t3,fun t ht=>((t3 t).1 ht).res hwr ho'⟩
   have hP:∀u∈L,∀t∈T u,Sm l p b f (mrg u t):=fun u hu t ht=>Sm.seq h0 ha ((h3 u).1 hu) (((hT u hu).2.2.1 t).1 ht)
   rw[if_neg (by rw[B9,B1];simp;omega),CR,EB (L:=L) (N:=N) (Sm l p b f) (fun u=>(T u).map (mrg u)) (by omega) (by omega) (Nd.nil _) (fun u hu s hs=>by
    obtain⟨t,ht,rfl⟩:=List.mem_map.1 hs
    exact hP u hu t ht) (fun out i u hu hi hm e hg=>by
    obtain⟨t1,t2,t3,t4⟩:=hT u hm;obtain⟨x,hx1,hx2⟩:=On hN hl (hr u hm)
    dsimp only
    rw[if_pos (M7 hi),C6,hu];simp only[Option.bind_some];rw[UD hN hl ho (hr u hm),hx1];simp only[Option.bind_some];rw[hx2,t1];simp only[Option.bind_some,e]
    rw[Rj hN hl hw hs ho (hr u hm) t2 t4 (hP u hm) hg fun _ _=>rfl];rfl) (fun out=>by dsimp only;rw[if_neg P4])]
   refine DH.of fun s=>?_;simp only[List.mem_flatMap,List.mem_map];rw[Sm.i1c h0 ha]
   constructor
   ·rintro⟨u,hu,t,ht,rfl⟩;exact⟨u,t,(h3 u).1 hu,((hT u hu).2.2.1 t).1 ht,rfl⟩
   rintro⟨u,t,hu,ht,rfl⟩;exact⟨u,(h3 u).2 hu,t,((hT u ((h3 u).2 hu)).2.2.1 t).2 ht,rfl⟩
theorem Rm {k:Nat} (ih:IHr N l k) {p:A0} (hw:GX p) (hp:p.pre.length≤64) (hs:JC l.length p) (h0:p.Op=4) {b:List PR} {f:Nat} (ho:IN l b f) {n:Nat} (hmu:mu l p f≤k+1) (hn:8*k+9≤n):DH (W7 N n p l b f) l p b f:=by
 obtain⟨n,rfl⟩:∃m,n=m+1:=⟨n - 1,by omega⟩;unfold W7;obtain⟨q,ha⟩:=hw.self.a2 (by omega);obtain⟨L,h1,h2,h3,hc,hr⟩:=Nj ih hw hp hs (q:=q) (by rw[ha];simp) ho hmu (n:=n) (by omega)
 have hi0:B6 p.cR 0=some q:=by rw[ha];rfl
 rw[hi0];simp only[Option.bind_some];rw[h1];simp only[Option.bind_some]
 let T:List PR→List (List PR):=fun u=>(W7 N n p l (mrg b u) (S5 u+1)).getD []
 have hT:∀u∈L,W7 N n p l (mrg b u) (S5 u+1)=some (T u)∧(T u).length≤1500∧(∀t,t∈T u↔Sm l p (mrg b u) (S5 u+1) t)∧∀t∈T u,Kx l (S5 u+1) t:=fun u hu=>by
  obtain⟨g,hg,hgl,hfg⟩:=Ma (hr u hu) ho.f0
  have ho':IN l (mrg b u) (g:Int):=by rw[←hg];exact ho.next (hr u hu)
  have m2:=UY (p:=p) (show f<g by omega) hgl;obtain⟨S,t1,t2,t3⟩:=(ih p (mrg b u) g n (by omega) (by omega) hp hw hs ho').2.2 h0
  have e:T u=S:=by show(W7 N n p l (mrg b u) (S5 u+1)).getD []=S;rw[hg,t1];rfl
  rw[e,hg];exact⟨t1,KZ hw hs ho' ⟨t2,fun s hs=>(t3 s).1 hs⟩,t3,fun t ht=>((t3 t).1 ht).res hw ho'⟩
 have hP1:∀u∈L,Sm l p b f u:=fun u hu=>.plus1 h0 ha ((h3 u).1 hu);have hP:∀u∈L,∀t∈T u,Sm l p b f (mrg u t):=fun u hu t ht=>Sm.plus h0 ha ((h3 u).1 hu) (((hT u hu).2.2.1 t).1 ht)
 rw[EB (L:=L) (N:=N) (Sm l p b f) (fun u=>u::(T u).map (mrg u)) (by omega) (by omega) (Nd.nil _) (fun u hu s hs=>by
  rcases List.mem_cons.1 hs with rfl|hs
  ·exact hP1 _ hu
  ·obtain⟨t,ht,rfl⟩:=List.mem_map.1 hs
   exact hP u hu t ht) (fun out i u hu hi hm e hg=>by
  obtain⟨t1,t2,t3,t4⟩:=hT u hm;obtain⟨x,hx1,hx2⟩:=On hN hl (hr u hm)
  dsimp only
  rw[if_pos (M7 hi),C6,hu];simp only[Option.bind_some];rw[LN hN hl hw hs ho hg,UD hN hl ho (hr u hm),hx1];simp only[Option.bind_some];rw[hx2,t1];simp only[Option.bind_some,e]
  rw[Rj hN hl hw hs ho (hr u hm) t2 t4 (hP u hm) (hg.add (hP1 u hm)) fun _ _=>rfl];rfl) (fun out=>by dsimp only;rw[if_neg P4])]
 refine DH.of fun s=>?_;simp only[List.mem_flatMap,List.mem_cons,List.mem_map];rw[Sm.i4 h0 ha]
 constructor
 ·rintro⟨u,hu,rfl|⟨t,ht,rfl⟩⟩
  ·exact .inl ((h3 _).1 hu)
  exact .inr ⟨u,t,(h3 u).1 hu,((hT u hu).2.2.1 t).1 ht,rfl⟩
 rintro(h|⟨u,t,hu,ht,rfl⟩)
 ·exact⟨s,(h3 s).2 h,.inl rfl⟩
 exact⟨u,(h3 u).2 hu,.inr ⟨t,((hT u ((h3 u).2 hu)).2.2.1 t).2 ht,rfl⟩⟩
theorem Aa3 {k:Nat} (ih:IHr N l k) {p:A0} (hw:GX p) (hp:p.pre.length≤64) (hs:JC l.length p) (h0:p.Op=2) {b:List PR} {f:Nat} (ho:IN l b f) {n:Nat} (hmu:mu l p f≤k+1) (hn:8*k+9≤n):DH (Ed N n p.cR l b f) l p b f:=by
 obtain⟨n,rfl⟩:∃m,n=m+1:=⟨n - 1,by omega⟩;unfold Ed;have hal:=BY p
 let S:A0→List (List PR):=fun q=>(K7 N n q l b f).getD []
 have hS:∀q∈p.cR,K7 N n q l b f=some (S q)∧(S q).length≤1500∧∀s,s∈S q↔Sm l q b f s:=fun q hq=>by
  obtain⟨L,h1,_,h3,hc,_⟩:=Nj ih hw hp hs hq ho hmu (n:=n) (by omega)
  have e:S q=L:=by show(K7 N n q l b f).getD []=L;rw[h1];rfl
  rw[e];exact⟨h1,hc,h3⟩
 have hP:∀q∈p.cR,∀s∈S q,Sm l p b f s:=fun q hq s hs=>.alt h0 hq (((hS q hq).2.2 s).1 hs)
 rw[EB (L:=p.cR) (N:=N) (Sm l p b f) S (by omega) (by omega) (Nd.nil _) hP (fun out i q hu hi hq e hg=>by
  obtain⟨h1,hc,h3⟩:=hS q hq
  dsimp only
  rw[if_pos (M7 hi),C6,hu];simp only[Option.bind_some];rw[h1];simp only[Option.bind_some,e]
  rw[EB (L:=S q) (N:=N) (Sm l p b f) (fun s=>[s]) (by omega) (by omega) hg (fun s hm x hx=>by rw[List.mem_singleton.1 hx];exact hP q hq s hm) (fun out j u hu hj hm e hg=>by
   dsimp only
   rw[if_pos (M7 hj),C6,hu];simp only[Option.bind_some]
   rw[LN hN hl hw hs ho hg,e];rfl) (fun out=>by dsimp only;rw[if_neg P4]),←List.map_eq_flatMap,List.map_id'];rfl) (fun out=>by dsimp only;rw[if_neg P4])]
 refine DH.of fun s=>?_;rw[List.mem_flatMap,Sm.i2 h0];exact⟨fun⟨q,hq,h⟩=>⟨q,hq,((hS q hq).2.2 s).1 h⟩,fun⟨q,hq,h⟩=>⟨q,hq,((hS q hq).2.2 s).2 h⟩⟩
omit hN hl in
theorem Wd (p:A0):(⟨p.Op,p.cR,p.Typ,p.Var,p.cV,p.Span,p.cS⟩:A0)=p:=by cases p;rfl
theorem Aa4 {k:Nat} (ih:IHr N l k) {p:A0} (hw:GX p) (hp:p.pre.length≤64) (hs:JC l.length p) (h0:p.Op=3) {b:List PR} {f:Nat} (ho:IN l b f) {n:Nat} (hmu:mu l p f≤k+1) (hn:8*k+9≤n):DH (Ee N n p.cR l b f) l p b f:=by
 obtain⟨n,rfl⟩:∃m,n=m+1:=⟨n - 1,by omega⟩;unfold Ee;have hal:=BY p;have hpos:=List.length_pos_iff.2 (hw.self.a1 (by omega) (by omega));have hsub:∀q∈p.cR,∃L,K7 N n q l b f=some L∧L.Nodup∧(∀s,s∈L↔Sm l q b f s)∧L.length≤1500∧∀s∈L,Kx l f s:=fun q hq=>Nj ih hw hp hs hq ho hmu (by omega);obtain⟨L0,a1,a2,a3,_,_⟩:=hsub _ (List.getElem_mem hpos)
 have hi0:B6 p.cR 0=some p.cR[0]:=by have:=C6 (l:=p.cR) (i:=0);rw[List.getElem?_eq_getElem hpos]at this;exact this
 rw[hi0];simp only[Option.bind_some];rw[a1];simp only[Option.bind_some]
 have hwt:∀i,1≤i→i≤p.cR.length→GX {p with cR:=p.cR.take i}∧JC l.length {p with cR:=p.cR.take i}∧p.cR.take i≠[]:=fun i h1 h2=>by
  have hne:p.cR.take i≠[]:=fun e=>by
   have:=congrArg List.length e
   rw[List.length_take,List.length_nil]at this;omega
  refine⟨hw.sub (by omega) (by omega) (fun x hx=>List.mem_of_mem_take hx) hne,hs.mono ?_ fun k=>k.sub fun x hx=>List.mem_of_mem_take hx,hne⟩;rw[Ki,FC];have:p.cR=p.cR.take i++p.cR.drop i:=(List.take_append_drop i _).symm
  conv=>rhs;rw[this,Cp,List.countP_append]
  omega
 suffices key:∀(k i M:Nat) (acc:List (List PR)) (step:(List (List PR))×Int→Option (((List (List PR))×Int) ⊕ List (List PR))),i+k=p.cR.length→k<M→1≤i→acc.Nodup→(∀s,s∈acc↔Sm l {p with cR:=p.cR.take i} b f s)→
  (∀ o j, step (o,j)=if cmp .lss j (Ar.len p.cR)=true then(B6 p.cR j).bind fun x5=>(K7 N n x5 l b f).bind fun r6=>
   (loopN
    (fun (s7:(List (List A2))×Int)=>
     (
      if cmp .lss s7.2 (Ar.len o)=true then
       (loopN
        (fun(s10:(List (List A2))×Int)=>
         (
          if cmp .lss s10.2 (Ar.len r6)=true then
           (B6 o s7.2).bind fun x13=>
           (B6 r6 s10.2).bind fun x14=>
           (Ck N x13 x14).bind fun r15=>
           if r15=true then
            (B6 o s7.2).bind fun x16=>
            (B6 r6 s10.2).bind fun x17=>
            (G4 N x16 x17).bind fun r18=>
            (T4 N s10.1 r18).bind fun l19=>
            some (.inl (l19,ar .add .i64 s10.2 1))
           else
            some (.inl (s10.1,ar .add .i64 s10.2 1))
          else
           some (.inr s10.1)))
        N (s7.1,0)).bind fun s12=>
       some (.inl (s12,ar .add .i64 s7.2 1))
      else
       some (.inr s7.1)))
    N ([],0)).bind fun s9=>some (.inl (s9,ar .add .i64 j 1))else some (.inr o))→∃out,loopN step M (acc,(i:Int))=some out∧out.Nodup∧∀s,s∈out↔Sm l p b f s by
  exact DH.mk (key (p.cR.length - 1) 1 N L0 _ (by omega) (by omega) (Nat.le_refl _) a2 (fun s=>by
   rw[a3];refine(Sm.i3 (p:={p with cR:=p.cR.take 1}) h0 ?_).symm
   show p.cR.take 1=[p.cR[0]]
   rw[List.take_succ_eq_append_getElem hpos];simp) fun _ _=>rfl)
 intro k
 induction k with
 |zero=>
  intro i M acc step hi hM h1 hn hm hst;obtain⟨M,rfl⟩:∃m,M=m+1:=⟨M - 1,by omega⟩;refine⟨acc,?_,hn,fun s=>?_⟩
  ·unfold loopN;rw[hst,if_neg (X0 (by rw[B1];omega))]
  rw[hm,List.take_of_length_le (by omega),Wd p]
 | succ k ihk=>
  intro i M acc step hi hM h1 hnd hm hst;obtain⟨M,rfl⟩:∃m,M=m+1:=⟨M - 1,by omega⟩
  have hlt:i<p.cR.length:=by omega
  have e:ar .add .i64 (i:Int) 1=i+1:=C5 (by omega) (by omega);obtain⟨S,b1,b2,b3,hcs,hrs⟩:=hsub _ (List.getElem_mem hlt);obtain⟨wt,st,hne⟩:=hwt i h1 (by omega);obtain⟨wt1,st1,_⟩:=hwt (i+1) (by omega) (by omega);have hca:=KZ wt st ho ⟨hnd,fun s hs=>(hm s).1 hs⟩;have htk:({p with cR:=p.cR.take (i+1)}:A0).cR=p.cR.take i++[p.cR[i]]:=List.take_succ_eq_append_getElem hlt
  let F:List PR→List PR→List (List PR):=fun u t=>if CY u t=true then[]else[mrg u t]
  have hF:∀{u t s},s∈F u t↔Cv u t∧s=mrg u t:=fun{u t s}=>by
   show s∈(if CY u t=true then[]else[mrg u t])↔_
   rw[←KR];cases CY u t<;>simp
  have hP:∀u∈acc,∀t∈S,∀s∈F u t,Sm l {p with cR:=p.cR.take (i+1)} b f s:=fun u hu t ht s hs=>by
   obtain⟨hd,rfl⟩:=hF.1 hs;exact Sm.all h0 htk hne ((hm u).1 hu) ((b3 t).1 ht) hd
  obtain⟨res,r1,r2,r3⟩:=ihk (i+1) M (addL [] (acc.flatMap fun u=>S.flatMap (F u))) step (by omega) (by omega) (by omega) ((Nd.nil fun _=>True).addL fun _ _=>trivial).1 (fun s=>by
   rw[MY,Sm.i3c (p:={p with cR:=p.cR.take (i+1)}) h0 htk hne];simp only[List.not_mem_nil,false_or,List.mem_flatMap,hF]
   constructor
   ·rintro⟨u,hu,t,ht,hd,rfl⟩;exact⟨u,t,(hm u).1 hu,(b3 t).1 ht,hd,rfl⟩
   rintro⟨u,t,hu,ht,hd,rfl⟩;exact⟨u,(hm u).2 hu,t,(b3 t).2 ht,hd,rfl⟩) hst
  refine⟨res,?_,r2,r3⟩;unfold loopN;rw[hst,if_pos (M7 (by omega)),C6,List.getElem?_eq_getElem hlt];simp only[Option.bind_some];rw[b1];simp only[Option.bind_some]
  rw [EB (L:=acc) (N:=N) (Sm l {p with cR:=p.cR.take (i+1)} b f) (fun u=>S.flatMap (F u)) (by omega) (by omega) (Nd.nil _) (fun u hu s hs=>by
   obtain⟨t,ht,hs⟩:=List.mem_flatMap.1 hs
   exact hP u hu t ht s hs) (fun out j u hu hj hmu e hg=>by
   have ru:=((hm u).1 hmu).res wt ho;have hul:=ru.gd.len
   dsimp only
   rw[if_pos (M7 hj),EB (L:=S) (N:=N) (Sm l {p with cR:=p.cR.take (i+1)} b f) (F u) (by omega) (by omega) hg (hP u hmu) (fun out m t ht hmm hmt e hg=>by
    have htl:=(hrs t hmt).gd.len
    dsimp only
    rw[if_pos (M7 hmm),C6,hu,C6,ht];simp only[Option.bind_some];rw[Wn hN (by omega) (by omega)];simp only[Option.bind_some,e]
    show _=some (Sum.inl (addL out (if CY u t=true then[]else[mrg u t]),_))
    cases CY u t with
    |true=>rfl
    |false=>
     rw[if_pos (show(!false)=true from rfl),UC hN hl ru (hrs t hmt)];simp only[Option.bind_some]
     rw[LN hN hl wt1 st1 ho hg];rfl) (fun out=>by dsimp only;rw[if_neg P4])]
   simp only[Option.bind_some,e]) (fun out=>by dsimp only;rw[if_neg P4])]
  simp only[Option.bind_some,e];rw[show((i:Int)+1)=((i+1:Nat):Int) by omega];exact r1
theorem Ak4 :∀k,IHr N l k:=by
 intro k
 induction k with
 |zero=>
  intro p o f n hmu;exfalso;have:=Nat.mul_le_mul_right (l.length+2) (show 1≤p.pre.length by rw[A0.pre_eq p];simp)
  unfold mu at hmu
  omega
 | succ k ih=>
  intro p b f n hmu hn hp hw hs ho;have hop:=hw.self.op;refine⟨?_,fun h=>UM hN hl ih hw hp hs h ho hmu (by omega),fun h=>Rm hN hl ih hw hp hs h ho hmu (by omega)⟩;obtain⟨n,rfl⟩:∃m,n=m+1:=⟨n - 1,by omega⟩;have wrap:∀{r:Option (List (List PR))},DH r l p b f→DH (r.bind fun s=>some s) l p b f:=fun{r} ⟨L,e,h⟩=>⟨L,by rw[e];rfl,h⟩;unfold K7;simp only[B9,decide_eq_true_eq];have hf1:=ho.f1
  by_cases h0:p.Op=0
  ·rw[if_pos h0,Wj hN hl hw.self.cond ho.gd (by omega)];refine⟨_,rfl,KP fun i j e=>by simp at e;omega,fun s=>?_⟩;rw[LZ,Sm.i0 h0];exact⟨fun⟨j,h1,h2,h3,h4⟩=>⟨j,by omega,by omega,h3,h4⟩,fun⟨j,h1,h2,h3,h4⟩=>⟨j,by omega,by omega,h3,h4⟩⟩
  rw[if_neg h0]
  by_cases h1:p.Op=1
  ·rw[if_pos h1];exact wrap (UM hN hl ih hw hp hs h1 ho hmu (by omega))
  rw[if_neg h1]
  by_cases h2:p.Op=2
  ·rw[if_pos h2];exact wrap (Aa3 hN hl ih hw hp hs h2 ho hmu (by omega))
  rw[if_neg h2]
  by_cases h3:p.Op=3
  ·rw[if_pos h3];exact wrap (Aa4 hN hl ih hw hp hs h3 ho hmu (by omega))
  rw[if_neg h3]
  by_cases h4:p.Op=4
  ·rw[if_pos h4];exact wrap (Rm hN hl ih hw hp hs h4 ho hmu (by omega))
  rw[if_neg h4];obtain⟨q,ha⟩:=hw.self.a2 (by omega);obtain⟨L,l1,l2,l3,hc,hr⟩:=Nj ih hw hp hs (q:=q) (by rw[ha];simp) ho hmu (n:=n) (by omega)
  have hi0:B6 p.cR 0=some q:=by rw[ha];rfl
  rw[hi0];simp only[Option.bind_some];rw[l1];simp only[Option.bind_some]
  have hlen:∀(A:List (List PR)) (o:List (List PR)),(A.foldl (fun o x=>if keepsA l p b x=true then o++[x]else o) o)=o++A.filter fun s=>keepsA l p b s:=fun A=>by
   induction A with
   |nil=>intro o;simp
   |cons a A ih=>intro o;rw[List.foldl_cons,ih,List.filter_cons];split<;>simp
  rw[(CZ (L:=L) (N:=N) (fun o i=>(o,i)) (fun(o:List (List PR)) x=>if keepsA l p b x=true then o++[x]else o) (fun o=>o) (fun i o=>o.length≤i) (by omega) (by omega) (show List.length []≤0 from Nat.le_refl 0) (fun o i x hx hi hm e ho'=>?_) fun o=>by first|dsimp only;rw[if_neg P4]|rw[if_neg P4]).1]
  ·rw[hlen];exact⟨_,rfl,l2.filter _,fun s=>by rw[List.nil_append,List.mem_filter,l3,Sm.i5 (by omega) hop.2 ha]⟩
  have ru:=hr x hm
  dsimp only
  rw[if_pos (M7 hi),C6,hx];simp only[Option.bind_some];rw[Wh hN hl hw.self.cond ⟨by omega,hop.2⟩ ho.gd ru.gd ru.ne (ho.apart ru)];simp only[Option.bind_some,e]
  by_cases hk:keepsA l p b x=true
  ·rw[if_pos hk,if_pos hk,M2 (by simp;omega)];exact⟨rfl,by simp;omega⟩
  rw[if_neg hk,if_neg hk];exact⟨rfl,by omega⟩
end
end
end Go.Ab
namespace Go.Ab
open Classical
noncomputable section
def N4 :List Int→List Int→Int
 |[],[]=>0
 |[],_::_=> -1
 |_::_,[]=>1
 |x::a,y::b=>if x<y then -1 else if y<x then 1 else N4 a b
theorem FU :∀a:List Int,N4 a a=0
 |[]=>rfl
 |x::a=>by simp[N4,FU a]
theorem Vg :∀{a b:List Int},N4 a b=0→a=b
 |[],[],_=>rfl
 |[],_::_,h=>by simp[N4]at h
 |_::_,[],h=>by simp[N4]at h
 |x::a,y::b,h=>by
  unfold N4 at h
  split at h
  ·cases h
  split at h
  ·cases h
  rw[Vg h];congr 1;omega
theorem RX :∀a b:List Int,N4 b a= - N4 a b
 |[],[]=>rfl
 |[],_::_=>rfl
 |_::_,[]=>rfl
 |x::a,y::b=>by
  unfold N4;rw[RX a b]
  split<;>split<;>first|omega|rfl
theorem Jn :∀{a b c:List Int},N4 a b<0→N4 b c<0→N4 a c<0
 |[],[],_,h,_=>by simp[N4]at h
 |_::_,[],_,h,_=>by simp[N4]at h
 |_,_::_,[],_,h=>by simp[N4]at h
 |[],_::_,_::_,_,_=>by simp[N4]
 | x::a,y::b,z::c,h1,h2=>by
  unfold N4 at h1 h2 ⊢
  by_cases h3:x<z
  ·rw[if_pos h3];decide
  rw[if_neg h3]
  by_cases h4:x<y
  ·by_cases h5:y<z
   ·omega
   rw[if_neg h5]at h2
   have:z<y:=by omega
   rw[if_pos this]at h2;cases h2
  rw[if_neg h4]at h1
  by_cases h5:y<x
  ·rw[if_pos h5]at h1;cases h1
  rw[if_neg h5]at h1
  by_cases h6:y<z
  ·omega
  rw[if_neg h6]at h2
  by_cases h7:z<y
  ·rw[if_pos h7]at h2;cases h2
  rw[if_neg h7]at h2
  rw[if_neg (by omega)];exact Jn h1 h2
def ZO (a b:Int):Int:=if a<b then -1 else if b<a then 1 else 0
theorem Gg (N:Nat)(a b:Int):J7 N a b=some (ZO a b):=by
 unfold J7 BX ZO;simp only[Option.bind_some,E5,C2,N8,decide_true,Bool.not_true,Bool.false_eq_true,if_false,decide_eq_true_eq]
 split
 ·rfl
 split<;>rfl
theorem or_eq {N:Nat} (hN:40000000≤N) {l:List Int} (hl:l.length≤1000):Cg N l=some (Q6 id l):=by
 unfold Cg;rw[F6 l (by omega) (mk:=fun(_:Unit) i=>i) (body:=AP fun x=>some x) (fin:=fun _=>.inl ()) (s:=()) (by omega) ?_ ?_]
 ·rw[Y9 (F:=fun x=>some x) (f:=id) fun x _=>rfl]
  by_cases h:Q6 id l=0
  ·rw[if_pos h,h];rfl
  rw[if_neg h];rfl
 ·intro s i x hx hi;have e:ar .add .i64 (i:Int) 1=i+1:=C5 (by omega) (by omega);simp only[C2,B1,hi,decide_true,if_true,C6,hx,Option.bind_some,e,AP]
  split<;>rfl
 intro s;simp[C2,B1]
def NP (r:X5):List Int:=[r.Time,r.Source,r.Seq]
def CE (x:D6):List Int:=[x.Ref.Time,x.Ref.Source,x.Ref.Seq,x.Var]
theorem lex3 (a1 a2 a3 b1 b2 b3:Int):N4 [a1,a2,a3] [b1,b2,b3]=Q6 id [ZO a1 b1,ZO a2 b2,ZO a3 b3]:=by
 simp only[N4,Q6,ZO,id]
 repeat' split
 all_goals first|rfl|omega
theorem lex4 (a1 a2 a3 a4 b1 b2 b3 b4:Int):N4 [a1,a2,a3,a4] [b1,b2,b3,b4]=Q6 id [N4 [a1,a2,a3] [b1,b2,b3],ZO a4 b4]:=by
 simp only[N4,Q6,ZO,id]
 repeat' split
 all_goals first|rfl|omega
theorem Aa1 {N:Nat}(hN:40000000≤N)(a b:X5):EA N a b=some (N4 (NP a) (NP b)):=by
 unfold EA;rw[Gg,Gg,Gg];simp only[Option.bind_some];rw[or_eq hN (by simp),NP,NP,lex3];rfl
theorem RD (N:Nat)(a b:X5):Co N a b=some (N4 (NP a) (NP b)):=by
 unfold Co NP;simp only[E5,C2,N8,N4,decide_eq_true_eq,Bool.not_eq_true',decide_eq_false_iff_not]
 repeat' split
 all_goals first|rfl|omega
theorem Zj {N:Nat}(hN:40000000≤N)(a b:A4):BW N a b=some (N4 [a.Time,a.Source,a.Seq] [b.Time,b.Source,b.Seq]):=by
 unfold BW AK;simp only[Option.bind_some,Gg];rw[or_eq hN (by simp),←lex3];simp only[M8,B9,Bool.and_true,Bool.and_eq_true,decide_eq_true_eq,Option.bind_some]
 by_cases h:a.Time=b.Time∧a.Source=b.Source∧a.Seq=b.Seq
 ·rw[if_pos h,h.1,h.2.1,h.2.2,FU]
 rw[if_neg h]
theorem Zq {N:Nat}(hN:40000000≤N)(a b:D6):X7 N a b=some (N4 (CE a) (CE b)):=by
 unfold X7;rw[Aa1 hN,Gg];simp only[Option.bind_some];rw[or_eq hN (by simp),CE,CE,lex4];rfl
theorem Wf (N:Nat) (a b:D6):Dw N a b=some (N4 (CE a) (CE b)):=by
 unfold Dw;rw[RD,CE,CE,lex4];simp only[Option.bind_some,Q6,id,NP,E5,C2,N8,ZO]
 by_cases h:N4 [a.Ref.Time,a.Ref.Source,a.Ref.Seq] [b.Ref.Time,b.Ref.Source,b.Ref.Seq]=0
 ·simp only[h,decide_true,Bool.not_true,Bool.false_eq_true,if_false,if_true,decide_eq_true_eq]
  repeat' split
  all_goals first|rfl|omega
 simp[h]
def mO :List D6→List D6→Int
 |[],[]=>0
 |[],_::_=> -1
 |_::_,[]=>1
 |x::a,y::b=>if N4 (CE x) (CE y)≠0 then N4 (CE x) (CE y)else mO a b
def NQ (m:List D6):List Int:=m.flatMap CE
theorem Vf :∀{a b:List Int} (c d:List Int),a.length=b.length→N4 (a++c) (b++d)=if N4 a b≠0 then N4 a b else N4 c d
 |[],[],c,d,_=>by simp[N4]
 |[],_::_,_,_,h=>by simp at h
 |_::_,[],_,_,h=>by simp at h
 |x::a,y::b,c,d,h=>by
  simp only[List.cons_append,N4];have ih:=Vf (a:=a) (b:=b) c d (by simpa using h)
  by_cases h1:x<y
  ·simp[h1]
  by_cases h2:y<x
  ·simp[h1,h2]
  simp only[h1,h2,if_false];exact ih
theorem Oy :∀a b:List D6,mO a b=N4 (NQ a) (NQ b)
 |[],[]=>rfl
 |[],y::b=>by simp[mO,NQ,CE,N4]
 |x::a,[]=>by simp[mO,NQ,CE,N4]
 |x::a,y::b=>by
  simp only[mO,NQ,List.flatMap_cons];rw[Vf _ _ (by simp[CE])];have:=Oy a b;rw[this];rfl
theorem Vc {N:Nat} {a b:List D6} {step:Int→Option (Int ⊕ (Unit ⊕ Int))} {k:Unit ⊕ Int→Option Int} (hN:a.length<N) (hl:a.length≤1000000)
 (hs:∀(i:Nat) (h1:i<a.length) (h2:i<b.length),step (i:Int)=if cmp .neq (N4 (CE a[i]) (CE b[i])) 0=true then some (.inr (.inr (N4 (CE a[i]) (CE b[i]))))else some (.inl (ar .add .i64 (i:Int) 1)))
 (he:∀i:Nat,i≤a.length→i≤b.length→i=a.length∨i=b.length→∃r,step (i:Int)=some (.inr r)∧k r=some (if a.length<b.length then -1 else if b.length<a.length then 1 else 0)) (hk:∀c,k (.inr c)=some c):(loopN step N 0).bind k=some (mO a b):=by
 have key:∀(d i N:Nat),i+d=a.length→d<N→i≤b.length→(loopN step N (i:Int)).bind k=some (mO (a.drop i) (b.drop i)):=by
  have hend:∀(i N:Nat),i≤a.length→i≤b.length→i=a.length∨i=b.length→(loopN step (N+1) (i:Int)).bind k=some (mO (a.drop i) (b.drop i)):=fun i N h1 h2 h=>by
   obtain⟨r,e1,e2⟩:=he i h1 h2 h;simp only[loopN,e1,Option.bind_some,e2]
   by_cases ha:i<a.length
   ·rw[List.drop_eq_getElem_cons ha,List.drop_eq_nil_of_le (show b.length≤i by omega),if_neg (by omega),if_pos (by omega)];rfl
   rw[List.drop_eq_nil_of_le (show a.length≤i by omega)]
   by_cases hb:i<b.length
   ·rw[List.drop_eq_getElem_cons hb,if_pos (by omega)];rfl
   rw[List.drop_eq_nil_of_le (show b.length≤i by omega),if_neg (by omega),if_neg (by omega)];rfl
  intro d
  induction d with
  |zero=>
   intro i N hi hN hb;obtain⟨N,rfl⟩:∃m,N=m+1:=⟨N - 1,by omega⟩;exact hend i N (by omega) hb (by omega)
  |succ d ih=>
   intro i N hi hN hb;obtain⟨N,rfl⟩:∃m,N=m+1:=⟨N - 1,by omega⟩
   by_cases h:i=b.length
   ·exact hend i N (by omega) hb (.inr h)
   have ha:i<a.length:=by omega
   have hb:i<b.length:=by omega
   rw[List.drop_eq_getElem_cons ha,List.drop_eq_getElem_cons hb,mO];unfold loopN;rw[hs i ha hb,C5 (by omega) (by omega)]
   by_cases hz:N4 (CE a[i]) (CE b[i])=0
   ·rw[if_neg (show¬(cmp .neq (N4 (CE a[i]) (CE b[i])) 0=true)from J1 hz),if_neg (by simpa using hz)];exact ih (i+1) N (by omega) (by omega) (by omega)
   rw[if_pos (show cmp .neq (N4 (CE a[i]) (CE b[i])) 0=true from J9 hz),if_pos hz];exact hk _
 simpa using key a.length 0 N (by omega) hN (by omega)
theorem PL {N:Nat} (hN:40000000≤N) {x y:C4} (hx:x.cT.length≤1000000) (hy:y.cT.length≤1000000):Z1 N x y=some (mO x.cT y.cT):=by
 obtain⟨a⟩:=x;obtain⟨b⟩:=y
 dsimp only at hx hy ⊢
 unfold Z1 E0
 dsimp only
 refine congrArg (fun o:Option Int=>o.bind fun r1=>some r1) (Vc (a:=a) (b:=b) (by omega) hx (fun i h1 h2=>?_) (fun i h1 h2 h=>?_) fun _=>rfl)
 ·rw[if_pos (M7 (by omega)),C6,List.getElem?_eq_getElem h1];simp only[Option.bind_some];rw[if_neg (by rw[K9,B1];simp;omega),C6,List.getElem?_eq_getElem h2];simp only[Option.bind_some];rw[Zq hN];rfl
 by_cases ha:i<a.length
 ·refine⟨.inr 1,?_,?_⟩
  ·rw[if_pos (M7 (by omega)),C6,List.getElem?_eq_getElem ha];simp only[Option.bind_some];rw[if_pos (by rw[K9,B1];simp;omega)]
  rw[if_neg (show¬a.length<b.length by omega),if_pos (show b.length<a.length by omega)]
 refine⟨.inl (),by rw[if_neg (X0 (by rw[B1];omega))],?_⟩
 dsimp only
 by_cases hb:a.length<b.length
 ·rw[if_pos (AS (by rw[B1,B1];omega)),if_pos hb]
 rw[if_neg (X0 (by rw[B1,B1];omega)),if_neg hb,if_neg (show¬b.length<a.length by omega)]
theorem LS {N:Nat}(hN:40000000≤N){x y:C4}(hx:x.cT.length≤1000000)(hy:y.cT.length≤1000000):M0 N x y=some (mO x.cT y.cT):=by
 obtain⟨a⟩:=x;obtain⟨b⟩:=y
 dsimp only at hx hy ⊢
 unfold M0;refine Vc (a:=a) (b:=b) (by omega) hx (fun i h1 h2=>?_) (fun i h1 h2 h=>⟨.inl (),by rw[if_neg (by simp only[M8,C2,B1];simp;omega)],?_⟩) fun _=>rfl
 ·rw[if_pos (by simp only[M8,C2,B1];simp;omega),C6,List.getElem?_eq_getElem h1,C6,List.getElem?_eq_getElem h2];simp only[Option.bind_some];rw[Wf];rfl
 dsimp only
 by_cases hb:a.length<b.length
 ·rw[if_pos (AS (by rw[B1,B1];omega)),if_pos hb]
 rw[if_neg (X0 (by rw[B1,B1];omega)),if_neg hb]
 by_cases hc:b.length<a.length
 ·rw[if_pos (Y4 (by rw[B1,B1];omega)),if_pos hc]
 rw[if_neg (U3 (by rw[B1,B1];omega)),if_neg hc]
end
end Go.Ab
namespace Go.Ab
open Classical
noncomputable section
def Au (e:A4):List Int:=[e.Time,e.Source,e.Seq]
def Gt (e:A4):Bool:=(an (an (an (an (an (cmp .geq e.Time 0) (cmp .leq e.Time 1099511627776)) (cmp .geq e.Source 0)) (cmp .lss e.Source 8)) (cmp .geq e.Seq 0)) (cmp .leq e.Seq 1099511627776))
def Cy (a b:A4):Bool:=decide (a.Source=b.Source)&&decide (a.Seq=b.Seq)
def Lc (l:List A4)(i:Nat):Int:=
 match l[i]? with
 |none=>0
 |some e=>if Gt e=false then 2 else if 0<i∧0≤N4 (Au ((l[i - 1]?).getD e)) (Au e)then 14 else if(l.take i).any (fun x=>Cy x e)=true then 7 else 0
def HX (l:List A4):Int:=if 4096<l.length then 5 else Q6 (Lc l) (List.range l.length)
theorem XH {N : Nat} (hN:40000000≤N) {l:List A4} (hl:l.length≤4096) {i:Nat} (hi:i<l.length):(loopN
                    (fun(s10:Int)=>
                     (
                      if cmp .lss s10 (i:Int)=true then
                       (B6 l s10).bind fun x12=>
                       (CV N x12 l[i]).bind fun r14=>
                       if r14=true then
                        some (.inr (.inr ()))
                       else
                        some (.inl (ar .add .i64 s10 1))
                      else
                       some (.inr (.inl ()))
                      :Option ((Int) ⊕ (Unit ⊕ Unit))))
                    N 0)=some (if(l.take i).any (fun x=>Cy x l[i])=true then .inr ()else .inl ()):=by
 have hlen:(l.take i).length=i:=by rw[List.length_take];omega
 rw [Cr (l:=l.take i) (fun x=>Cy x l[i]) (by omega) (by omega) (fun j x hx hj=>by
     have hji:j<i:=by omega
     have e:ar .add .i64 (j:Int) 1=j+1:=C5 (by omega) (by omega)
     rw[List.getElem?_take_of_lt hji]at hx
     rw[if_pos (AS (by omega)),C6,hx];simp only[Option.bind_some,e,CV,B9,M8];unfold Cy
     split<;>rfl) (by rw[hlen,if_neg (X0 (Int.lt_irrefl _))])]
theorem Aa6 {N:Nat} (hN:40000000≤N) {l:List A4}:DA N l=some (HX l):=by
 unfold DA HX
 by_cases h1:4096<l.length
 ·rw[if_pos (Y4 (by rw[B1];omega)),if_pos h1]
 rw[if_neg (U3 (by rw[B1];omega)),if_neg h1];have hr:(List.range l.length).length=l.length:=List.length_range;rw[F6 (List.range l.length) (by omega) (mk:=fun(_:Unit) i=>i) (body:=AP fun i=>some (Lc l i)) (fin:=fun _=>.inl ()) (s:=()) (by omega) ?_ ?_]
 ·rw[Y9 (F:=fun i=>some (Lc l i)) (f:=Lc l) fun x _=>rfl]
  by_cases h:Q6 (Lc l) (List.range l.length)=0
  ·rw[if_pos h,h];rfl
  rw[if_neg h];rfl
 ·intro s i x hx hi
  have hil:i<l.length:=by omega
  rw[List.getElem?_range hil]at hx
  cases hx;have e:ar .add .i64 (i:Int) 1=i+1:=C5 (by omega) (by omega);rw[if_pos (M7 (by omega)),EP hil];simp only[Option.bind_some];rw[XH hN (by omega) hil]
  have hbs:Lc l i=if Gt l[i]=false then 2 else if 0<i∧0≤N4 (Au ((l[i - 1]?).getD l[i])) (Au l[i])then 14 else if(l.take i).any (fun x=>Cy x l[i])=true then 7 else 0:=by
   unfold Lc;rw[List.getElem?_eq_getElem hil]
  unfold DS Bu AP;simp only[Option.bind_some,e];rw[hbs];have hp:(an (an (an (an (an (cmp .geq l[i].Time 0) (cmp .leq l[i].Time 1099511627776)) (cmp .geq l[i].Source 0)) (cmp .lss l[i].Source 8)) (cmp .geq l[i].Seq 0)) (cmp .leq l[i].Seq 1099511627776))=Gt l[i]:=rfl;rw[hp]
  cases Gt l[i]with
  |false=>rfl
  | true=>
   rw[if_neg (show¬(nt true=true) by decide),if_neg (show¬(true=false) by decide)]
   by_cases h0:0<i
   ·rw[if_pos (Y4 (by omega))]
    have e1:ar .sub .i64 (i:Int) 1=((i - 1:Nat):Int):=by rw[Gn (by omega) (by omega)];omega
    have hi1:i - 1<l.length:=by omega
    rw[e1,EP hi1,List.getElem?_eq_getElem hi1];simp only[Option.bind_some,RD,Option.getD_some];have hk:N4 (NP ⟨l[i - 1].Time,l[i - 1].Source,l[i - 1].Seq⟩) (NP ⟨l[i].Time,l[i].Source,l[i].Seq⟩)=N4 (Au l[i - 1]) (Au l[i]):=rfl;rw[hk]
    by_cases h2:0≤N4 (Au l[i - 1]) (Au l[i])
    ·rw[if_pos (show cmp .geq (N4 (Au l[i - 1]) (Au l[i])) 0=true by rw[K9];exact decide_eq_true h2),if_pos (show 0<i∧0≤N4 (Au l[i - 1]) (Au l[i])from⟨h0,h2⟩)];rfl
    rw[if_neg (show¬(cmp .geq (N4 (Au l[i - 1]) (Au l[i])) 0=true) by rw[K9];simpa using h2),if_neg (show¬(0<i∧0≤N4 (Au l[i - 1]) (Au l[i]))from fun h=>h2 h.2)];cases(l.take i).any fun x=>Cy x l[i]<;>rfl
   rw[if_neg (U3 (by omega)),if_neg (show¬(0<i∧0≤N4 (Au ((l[i - 1]?).getD l[i])) (Au l[i]))from fun h=>h0 h.1)];cases(l.take i).any fun x=>Cy x l[i]<;>rfl
 intro s;rw[hr,if_neg P4]
def EG (p:List A4):List (D4×Bool):=p.map fun e=>(⟨e.Source,e.Seq⟩,true)
theorem WM (p:List A4) (e:A4):∃b,Js (EG p) ⟨e.Source,e.Seq⟩ false=some (p.any fun x=>Cy x e,b):=by
 unfold Js EG
 induction p with
 |nil=>exact⟨false,by simp⟩
 | cons x p ih=>
  obtain⟨b,ih⟩:=ih;rw[List.map_cons,List.find?_cons,any_cons]
  by_cases h:(⟨x.Source,x.Seq⟩:D4)=⟨e.Source,e.Seq⟩
  ·have ht:Cy x e=true:=by
    simp only[D4.mk.injEq]at h
    simp[Cy,h.1,h.2]
   exact⟨true,by simp[h,ht]⟩
  have ht:Cy x e=false:=by
   simp only[D4.mk.injEq]at h
   simp only[Cy,Bool.and_eq_false_iff,decide_eq_false_iff_not]
   by_cases h1:x.Source=e.Source
   ·exact .inr fun h2=>h ⟨h1,h2⟩
   exact .inl h1
  refine⟨b,?_⟩;simp only[h,decide_false,ht,Bool.false_or];exact ih
theorem Wb {p:List A4}{e:A4}(h:(p.any fun x=>Cy x e)=false):Iy (EG p) ⟨e.Source,e.Seq⟩ true=some (EG (p++[e])):=by
 unfold Iy;rw[if_neg]
 ·simp[EG]
 intro c
 rw[List.any_eq_true]at c
 obtain⟨q,hq,he⟩:=c
 simp only[EG,List.mem_map]at hq
 obtain⟨x,hx,rfl⟩:=hq
 rw[List.any_eq_false]at h
 refine h x hx ?_
 simp only[decide_eq_true_eq,D4.mk.injEq]at he
 simp[Cy,he.1,he.2]
theorem YE {B:Type} {N n:Nat} {M:Nat→B} {step:(Int×B)→Option ((Int×B) ⊕ (B ⊕ (Int×B)))} (f:Nat→Int) {k:B ⊕ (Int×B)→Option Int} (hN:n<N) (hn:n<1000000000)
 (hs:∀i:Nat,i<n→ar .add .i64 (i:Int) 1=i+1→step ((i:Int),M i)=some (if f i=0 then .inl ((i:Int)+1,M (i+1))else .inr (.inr (f i,M i)))) (he:step ((n:Int),M n)=some (.inr (.inl (M n)))) (h0:∀m,k (.inl m)=some 0) (h1:∀c m,k (.inr (c,m))=some c):(loopN step N (0,M 0)).bind k=some (Q6 f (List.range n)):=by
 have key:∀(d i N:Nat),i+d=n→d<N→(loopN step N ((i:Int),M i)).bind k=some (Q6 f (List.range' i d)):=by
  intro d
  induction d with
  |zero=>
   intro i N hi hN;obtain⟨N,rfl⟩:∃m,N=m+1:=⟨N - 1,by omega⟩;obtain rfl:i=n:=hi;simp only[loopN,he,Option.bind_some,h0];rfl
  |succ d ih=>
   intro i N hi hN;obtain⟨N,rfl⟩:∃m,N=m+1:=⟨N - 1,by omega⟩;rw[List.range'_succ]
   by_cases hf:f i=0
   ·simp only[loopN,hs i (by omega) (C5 (by omega) (by omega)),Q6,hf,if_true];exact ih (i+1) N (by omega) (by omega)
   simp only[loopN,hs i (by omega) (C5 (by omega) (by omega)),Q6,hf,if_false,Option.bind_some,h1]
 rw[List.range_eq_range'];exact key n 0 N (by omega) hN
theorem ZY {N:Nat} (hN:40000000≤N) {l:List A4}:Bq N l=some (HX l):=by
 unfold Bq HX
 by_cases h1:4096<l.length
 ·rw[if_pos (Y4 (by rw[B1];omega)),if_pos h1]
 rw[if_neg (U3 (by rw[B1];omega)),if_neg h1];refine YE (M:=fun i=>EG (l.take i)) (Lc l) (by omega) (by omega) (fun i hil e=>?_) (by dsimp only;rw[if_neg P4]) (fun _=>rfl) (fun _ _=>rfl);obtain⟨b,hb⟩:=WM (l.take i) l[i];have hp:Dn N l[i]=some (Gt l[i]):=rfl;have hst:CS N l[i]=some ⟨l[i].Source,l[i].Seq⟩:=rfl
 dsimp only
 rw[if_pos (M7 (by omega)),EP hil];simp only[Option.bind_some];unfold Lc;rw[hp,hst,List.getElem?_eq_getElem hil];simp only[Option.bind_some,hb,e]
 cases Gt l[i]with
 |false=>rfl
 | true=>
  rw[if_neg (show¬(nt true=true) by decide),if_neg (show¬(true=false) by decide)]
  have ht:(if(l.take i).any (fun x=>Cy x l[i])=true then some (.inr (.inr (7,EG (l.take i))))else(Iy (EG (l.take i)) ⟨l[i].Source,l[i].Seq⟩ true).bind fun l15=>some (.inl ((i:Int)+1,l15)):Option ((Int×(List (D4×Bool))) ⊕ (((List (D4×Bool))) ⊕ (Int×(List (D4×Bool))))))=some (if(if(l.take i).any (fun x=>Cy x l[i])=true then(7:Int)else 0)=0 then .inl ((i:Int)+1,EG (l.take (i+1)))else .inr (.inr (if(l.take i).any (fun x=>Cy x l[i])=true then(7:Int)else 0,EG (l.take i)))):=by
   by_cases h7:(l.take i).any (fun x=>Cy x l[i])=true
   ·simp only[h7,if_true];rfl
   rw[if_neg h7,if_neg h7,Wb (by simpa using h7),List.take_succ_eq_append_getElem hil];rfl
  by_cases h0:0<i
  ·have hi1:i - 1<l.length:=by omega
   rw[if_pos (Y4 (by omega)),show ar .sub .i64 (i:Int) 1=((i - 1:Nat):Int) by rw[Gn (by omega) (by omega)];omega,EP hi1,List.getElem?_eq_getElem hi1];simp only[Option.bind_some,Zj hN,Option.getD_some];have hk:N4 [l[i - 1].Time,l[i - 1].Source,l[i - 1].Seq] [l[i].Time,l[i].Source,l[i].Seq]=N4 (Au l[i - 1]) (Au l[i]):=rfl;rw[hk]
   by_cases h2:0≤N4 (Au l[i - 1]) (Au l[i])
   ·rw[if_pos (show cmp .geq (N4 (Au l[i - 1]) (Au l[i])) 0=true by rw[K9];exact decide_eq_true h2),if_pos (show 0<i∧0≤N4 (Au l[i - 1]) (Au l[i])from⟨h0,h2⟩)];rfl
   rw[if_neg (show¬(cmp .geq (N4 (Au l[i - 1]) (Au l[i])) 0=true) by rw[K9];simpa using h2),if_neg (show¬(0<i∧0≤N4 (Au l[i - 1]) (Au l[i]))from fun h=>h2 h.2)];exact ht
  rw[if_neg (U3 (by omega)),if_neg (show¬(0<i∧0≤N4 (Au ((l[i - 1]?).getD l[i])) (Au l[i]))from fun h=>h0 h.1)];exact ht
theorem Qg {l:List A4} (hl:l.length≤10) (h:HX l=0):∀(d i:Nat),i+d+1<l.length→∀(h1:i<l.length) (h2:i+d+1<l.length),N4 (Au l[i]) (Au l[i+d+1])<0:=by
 have hc:∀i,i<l.length→Lc l i=0:=by
  unfold HX at h
  rw[if_neg (by omega)]at h
  exact fun i hi=>BB.1 h i (List.mem_range.2 hi)
 have h1:∀i,∀(h2:i+1<l.length),N4 (Au l[i]) (Au l[i+1])<0:=fun i h2=>by
  have:=hc (i+1) h2
  unfold Lc at this
  rw[List.getElem?_eq_getElem h2]at this
  dsimp only at this
  split at this
  ·cases this
  split at this
  ·cases this
  rename_i hh
  have hi:i<l.length:=by omega
  simp only[Nat.add_sub_cancel,List.getElem?_eq_getElem hi,Option.getD_some,not_and]at hh
  have:=hh (by omega);omega
 intro d
 induction d with
 |zero=>intro i _ _ h2;exact h1 i h2
 |succ d ih=>
  intro i _ hi h2;exact Jn (ih i (by omega) hi (by omega)) (h1 (i+d+1) h2)
end
end Go.Ab
namespace Go.Ab
open Classical
noncomputable section
def Hs (l:List A4)(i:Int):X5:=match l[i.toNat]? with|some e=>⟨e.Time,e.Source,e.Seq⟩|none=>⟨0,0,0⟩
def U8 (l:List A4)(s:List PR):C4:=⟨s.map fun x=>⟨x.Var,Hs l x.At⟩⟩
theorem Jk (l:List A4)(s:List PR):(U8 l s).cT.length=s.length:=by simp[U8]
theorem UN {l:List A4}{i:Int}(h0:0≤i)(h1:i<l.length):∃e,B6 l i=some e∧(⟨e.Time,e.Source,e.Seq⟩:X5)=Hs l i:=by
 obtain⟨i,rfl⟩:=Int.eq_ofNat_of_zero_le h0
 have hi:i<l.length:=by omega
 exact⟨l[i],EP hi,by simp[Hs,hi]⟩
theorem Aa2 {l:List A4} (hl:l.length≤10) (hc:HX l=0) {i j:Int} (hi:0≤i∧i<l.length) (hj:0≤j∧j<l.length) (h:Hs l i=Hs l j):i=j:=by
 obtain⟨i,rfl⟩:=Int.eq_ofNat_of_zero_le hi.1;obtain⟨j,rfl⟩:=Int.eq_ofNat_of_zero_le hj.1
 have hi':i<l.length:=by omega
 have hj':j<l.length:=by omega
 have hk:Au l[i]=Au l[j]:=by
  simp only[Hs,Int.toNat_natCast,List.getElem?_eq_getElem hi',List.getElem?_eq_getElem hj',X5.mk.injEq]at h
  simp[Au,h.1,h.2.1,h.2.2]
 rcases Nat.lt_trichotomy i j with e|e|e
 ·obtain⟨d,rfl⟩:∃d,j=i+d+1:=⟨j - i - 1,by omega⟩;have:=Qg hl hc d i hj' hi' hj'
  rw[hk,FU]at this;omega
 ·omega
 obtain⟨d,rfl⟩:∃d,i=j+d+1:=⟨i - j - 1,by omega⟩;have:=Qg hl hc d j hi' hj' hi'
 rw[hk,FU]at this;omega
theorem Na {l:List A4} (hl:l.length≤10) (hc:HX l=0):∀{a b:List PR},SP l a→SP l b→(U8 l a).cT=(U8 l b).cT→a=b
 |[],[],_,_,_=>rfl
 |[],_::_,_,_,h=>by simp[U8]at h
 |_::_,[],_,_,h=>by simp[U8]at h
 | x::a,y::b,ha,hb,h=>by
  simp only[U8,List.map_cons,List.cons.injEq,D6.mk.injEq]at h
  have e:=Aa2 hl hc (ha x (by simp)).2 (hb y (by simp)).2 h.1.2
  have hxy:x=y:=by
   cases x;cases y
   simp only[A2.mk.injEq]at *
   exact⟨h.1.1,e⟩
  rw[hxy,Na hl hc (fun z hz=>ha z (by simp[hz])) (fun z hz=>hb z (by simp[hz])) h.2]
theorem RZ :∀{a b:List D6},NQ a=NQ b→a=b
 |[],[],_=>rfl
 |[],_::_,h=>by simp[NQ,CE]at h
 |_::_,[],h=>by simp[NQ,CE]at h
 | x::a,y::b,h=>by
  simp only[NQ,List.flatMap_cons,CE,List.cons_append,List.nil_append,List.cons.injEq]at h
  obtain⟨h1,h2,h3,h4,h5⟩:=h
  have hxy:x=y:=by
   obtain⟨v,t,s,q⟩:=x;obtain⟨v',t',s',q'⟩:=y
   simp only at h1 h2 h3 h4
   rw[h1,h2,h3,h4]
  rw[hxy,RZ h5]
theorem Ac9 {a b:List D6}(h:mO a b=0):a=b:=RZ (Vg (by rw[←Oy];exact h))
theorem PM (a:List D6):mO a a=0:=by rw[Oy,FU]
theorem YC (a b:List D6):mO b a= - mO a b:=by rw[Oy,Oy,RX]
theorem RQ {a b c:List D6}(h1:mO a b<0)(h2:mO b c<0):mO a c<0:=by rw[Oy]at *;exact Jn h1 h2
def SM (r:List C4):Prop:=r.Pairwise fun a b=>mO a.cT b.cT<0
theorem Ak1 {N:Nat} (hN:40000000≤N) {L r:List C4} (hp:r.Perm L) (ha:SM r) (hb:∀x∈r,x.cT.length≤1000000) (hl:L.length≤1000000):GQ (fun y1 y2=>Z1 N y1 y2) L=some r:=by
 refine QR hp (Ci.2 ⟨fun a h=>?_,?_⟩) (by omega)
 ·unfold ZI
  dsimp only
  rw[PL hN (hb a h) (hb a h),PM];rfl
 refine List.Pairwise.imp_of_mem (fun{x y} hx hy hlt=>?_) ha
 constructor
 ·unfold PN
  dsimp only
  rw[PL hN (hb x hx) (hb y hy)];exact decide_eq_true hlt
 unfold ZI
 dsimp only
 rw[PL hN (hb y hy) (hb x hx),YC];exact decide_eq_true (by omega)
theorem Jt {α:Type}{f:α→D6}:∀(s:List α) (m:C4),s.foldl (fun m x=>⟨m.cT++[f x]⟩) m=⟨m.cT++s.map f⟩
 |[],⟨a⟩=>by simp
 |x::s,m=>by rw[List.foldl_cons,Jt s];simp
theorem Wg {N:Nat} (hN:40000000≤N) {l:List A4} {s:List PR} (hs:s.length≤1000000) (hw:SP l s):Ai N l s=some (U8 l s):=by
 unfold Ai
 rw[(CZ (L:=s) (N:=N) (fun(m:C4) i=>(i,m)) (fun m x=>⟨m.cT++[⟨x.Var,Hs l x.At⟩]⟩) (fun m=>m) (fun i m=>m.cT.length=i) (by omega) (by omega) rfl (fun m i x hx hi hm e hl=>by
  obtain⟨e',h1,h2⟩:=UN (hw x hm).2.1 (hw x hm).2.2;rw[if_pos (M7 hi),C6,hx];simp only[Option.bind_some];rw[h1];simp only[Option.bind_some,Bu];rw[M2 (by simp;omega),e,h2]
  exact⟨rfl,by simp[hl]⟩) (fun m=>by dsimp only;rw[if_neg P4])).1,Jt]
 rfl
theorem YR {N:Nat} (hN:40000000≤N) {m:C4} (hm:m.cT.length≤1000000) {out:List C4} (ho:∀x∈out,x.cT.length≤1000000) (hl:out.length≤1000000) (ha:SM out) (hn:∀x∈out,mO m.cT x.cT≠0):
 ∃ k, k≤out.length∧loopN
  (fun(s8:Int)=>
   (
    if cmp .gtr s8 0=true then
     (Rk (SO out (ar .sub .i64 s8 1))).bind fun _=>
     (B6 out (ar .sub .i64 s8 1)).bind fun x10=>
     (M0 N m x10).bind fun r11=>
     if cmp .lss r11 0=true then
      some (.inl (ar .sub .i64 s8 1))
     else
      some (.inr s8)
    else
     some (.inr s8)
    :Option ((Int) ⊕ (Int))))
  N (Ar.len out)=some (k:Int)∧SM (out.take k++[m]++out.drop k):=by
 have key:∀(k M:Nat),k≤out.length→k<M→(∀x∈out.drop k,mO m.cT x.cT<0)→∃k',k'≤out.length∧loopN
  (fun(s8:Int)=>
   (
    if cmp .gtr s8 0=true then
     (Rk (SO out (ar .sub .i64 s8 1))).bind fun _=>
     (B6 out (ar .sub .i64 s8 1)).bind fun x10=>
     (M0 N m x10).bind fun r11=>
     if cmp .lss r11 0=true then
      some (.inl (ar .sub .i64 s8 1))
     else
      some (.inr s8)
    else
     some (.inr s8)
    :Option ((Int) ⊕ (Int))))
  M (k:Int)=some (k':Int)∧(∀x∈out.drop k',mO m.cT x.cT<0)∧(∀x∈out.take k',mO x.cT m.cT<0):=by
  intro k
  induction k with
  |zero=>
   intro M _ hM hd;obtain⟨M,rfl⟩:∃m,M=m+1:=⟨M - 1,by omega⟩;refine⟨0,by omega,rfl,hd,by simp⟩
  | succ k ih=>
   intro M hk hM hd;obtain⟨M,rfl⟩:∃m,M=m+1:=⟨M - 1,by omega⟩
   have hlt:k<out.length:=by omega
   have hmem:out[k]∈out:=List.getElem_mem hlt
   have e1:ar .sub .i64 ((k+1:Nat):Int) 1=(k:Int):=by rw[Gn (by omega) (by omega)];omega
   have hr:Rk (SO out (k:Int))=some ():=by
    unfold Rk SO;rw[if_pos]
    simp;omega
   by_cases hc:mO m.cT out[k].cT<0
   ·obtain⟨k',h1,h2,h3⟩:=ih M (by omega) (by omega) (fun x hx=>by
     rw[List.drop_eq_getElem_cons hlt]at hx
     rcases List.mem_cons.1 hx with rfl|hx
     ·exact hc
     exact hd x hx)
    refine⟨k',h1,?_,h3⟩;unfold loopN;rw[if_pos (Y4 (by omega)),e1,hr,C6,List.getElem?_eq_getElem hlt];simp only[Option.bind_some];rw[LS hN hm (ho _ hmem)];simp only[Option.bind_some];rw[if_pos (AS hc)];exact h2
   have hgt:mO out[k].cT m.cT<0:=by
    have:=hn _ hmem;rw[YC];omega
   refine⟨k+1,hk,?_,hd,fun x hx=>?_⟩
   ·unfold loopN;rw[if_pos (Y4 (by omega)),e1,hr,C6,List.getElem?_eq_getElem hlt];simp only[Option.bind_some];rw[LS hN hm (ho _ hmem)];simp only[Option.bind_some];rw[if_neg (X0 hc)]
   rw[List.take_succ_eq_append_getElem hlt]at hx
   rcases List.mem_append.1 hx with hx|hx
   ·obtain⟨j,hj,e⟩:=List.getElem_of_mem hx
    rw[List.length_take]at hj
    have hjk:j<k:=by omega
    rw[List.getElem_take]at e
    have:=List.pairwise_iff_getElem.1 ha j k (by omega) hlt hjk
    rw[e]at this
    exact RQ this hgt
   rw[List.mem_singleton.1 hx];exact hgt
 obtain⟨k',h1,h2,h3,h4⟩:=key out.length N (Nat.le_refl _) (by omega) (by simp);refine⟨k',h1,h2,?_⟩
 unfold SM at ha ⊢
 rw[List.pairwise_append,List.pairwise_append];refine⟨⟨ha.sublist (List.take_sublist _ _),by simp,fun a h b hb=>?_⟩,ha.sublist (List.drop_sublist _ _),fun a h b hb=>?_⟩
 ·rw[List.mem_singleton.1 hb];exact h4 a h
 rcases List.mem_append.1 h with h|h
 ·exact RQ (h4 a h) (h3 b hb)
 rw[List.mem_singleton.1 h];exact h3 b hb
theorem Mo {α:Type}{l:List α}{k:Nat}(h:k≤l.length):J5 l none (some (k:Int)) none=some (l.take k):=by
 unfold J5;rw[if_pos (by simp;omega)];simp
theorem Nt {α:Type}{l:List α}{k:Nat}(h:k≤l.length):J5 l (some (k:Int)) none none=some (l.drop k):=by
 unfold J5;rw[if_pos (by simp;omega)];simp only[Option.getD_some,Option.getD_none,Int.toNat_natCast];rw[List.take_of_length_le (by simp)]
theorem Aa7 {N:Nat} (hN:40000000≤N) {l:List A4} (hl:l.length≤10) (hc:HX l=0) {L:List (List PR)} (hL:L.length≤1500) (hn:L.Nodup) (hg:∀s∈L,Gd l s) {p:A0} (h:K7 N N p l [] 0=some L):
 ∃r,Bt N p l=some r∧SM r∧r.Perm (L.map (U8 l)):=by
 unfold Bt;rw[h];simp only[Option.bind_some]
 rw [F6 L (by omega) (mk:=fun(m:List C4) i=>(i,m)) (body:=fun out x=>(Ai N l x).bind fun m=>(loopN
  (fun(s8:Int)=>
   (
    if cmp .gtr s8 0=true then
     (Rk (SO out (ar .sub .i64 s8 1))).bind fun _=>
     (B6 out (ar .sub .i64 s8 1)).bind fun x10=>
     (M0 N m x10).bind fun r11=>
     if cmp .lss r11 0=true then
      some (.inl (ar .sub .i64 s8 1))
     else
      some (.inr s8)
    else
     some (.inr s8)
    :Option ((Int) ⊕ (Int))))
  N (Ar.len out)).bind fun s9=>
  (J5 out (some s9) none none).bind fun l13=>
  (H9 [] l13).bind fun l15=>
  (J5 out none (some s9) none).bind fun l17=>
  (H9 l17 ([m])).bind fun l19=>
  (H9 l19 l15).bind fun l21=>some (.inl l21)) (fin:=fun m=>m) (s:=[]) (by omega) ?_ ?_]
 ·obtain ⟨s', h1,p,h2,h3,h4⟩:=X6 (R:=List C4) (step:=fun(out:List C4) (x:List PR)=>(Ai N l x).bind fun m=>(loopN
          (fun(s8:Int)=>
           (
            if cmp .gtr s8 0=true then
             (Rk (SO out (ar .sub .i64 s8 1))).bind fun _=>
             (B6 out (ar .sub .i64 s8 1)).bind fun x10=>
             (M0 N m x10).bind fun r11=>
             if cmp .lss r11 0=true then
              some (.inl (ar .sub .i64 s8 1))
             else
              some (.inr s8)
            else
             some (.inr s8)
            :Option ((Int) ⊕ (Int))))
          N (Ar.len out)).bind fun s9=>
   (J5 out (some s9) none none).bind fun l13=>
   (H9 [] l13).bind fun l15=>
   (J5 out none (some s9) none).bind fun l17=>
   (H9 l17 ([m])).bind fun l19=>
   (H9 l19 l15).bind fun l21=>some (.inl l21))
   (fun r m=>∃p,p++r=L∧SM m∧m.Perm (p.map (U8 l))) (fun x r m ⟨p,e1,e2,e3⟩=>by
    have hx:x∈L:=by rw[←e1];simp
    have hxl:=(hg x hx).len
    have hpl:p.length≤1500:=by have:=congrArg List.length e1;simp at this;omega
    have hml:m.length≤1500:=by have:=e3.length_eq;rw[List.length_map]at this;omega
    have hmm:∀y∈m,∃t∈p,y=U8 l t:=fun y hy=>by
     obtain⟨t,ht,e⟩:=List.mem_map.1 (e3.mem_iff.1 hy);exact⟨t,ht,e.symm⟩
    have hpL:∀t∈p,t∈L:=fun t ht=>by rw[←e1];simp[ht]
    obtain⟨k,k1,k2,k3⟩:=YR hN (m:=U8 l x) (by rw[Jk];omega) (out:=m) (fun y hy=>by
     obtain⟨t,ht,rfl⟩:=hmm y hy;have:=(hg t (hpL t ht)).len
     rw[Jk];omega) (by omega) e2 (fun y hy e=>by
     obtain⟨t,ht,rfl⟩:=hmm y hy;have hxt:=Na hl hc (hg x hx).wf (hg t (hpL t ht)).wf (Ac9 e);subst hxt
     rw[←e1,List.nodup_append]at hn
     exact hn.2.2 x ht x (by simp) rfl)
    refine⟨_,?_,p++[x],by simpa using e1,k3,?_⟩
    ·rw[Wg hN (by omega) (hg x hx).wf];simp only[Option.bind_some];rw[k2];simp only[Option.bind_some];rw[Nt k1,Mo k1];simp only[Option.bind_some];rw[M2 (by simp;omega),M2 (by simp;omega)];simp only[Option.bind_some];rw[M2 (by simp;omega)];rfl
    rw[List.map_append,List.map_cons,List.map_nil];refine List.Perm.trans ?_ (e3.append_right _);rw[List.append_assoc];refine(List.perm_append_comm.append_left _).trans ?_
    rw[←List.append_assoc,List.take_append_drop]) (l:=L) (s:=[]) ⟨[],rfl,List.Pairwise.nil,.refl _⟩
  rw[h1];simp only[Option.bind_some]
  rw[append_nil]at h2
  exact⟨s',rfl,h3,by rw[←h2];exact h4⟩
 ·intro m i x hx hi;have e:ar .add .i64 (i:Int) 1=i+1:=C5 (by omega) (by omega);have c1:cmp .lss (i:Int) (Ar.len L)=true:=AS (by rw[B1];exact hi);simp only[c1,if_true,C6,hx,Option.bind_some,e]
  cases Ai N l x with
  |none=>rfl
  | some q=>
   simp only[Option.bind_some]
   generalize (loopN
    (fun(s8:Int)=>
     (
      if cmp .gtr s8 0=true then
       (Rk (SO m (ar .sub .i64 s8 1))).bind fun _=>
       (B6 m (ar .sub .i64 s8 1)).bind fun x10=>
       (M0 N q x10).bind fun r11=>
       if cmp .lss r11 0=true then
        some (.inl (ar .sub .i64 s8 1))
       else
        some (.inr s8)
      else
       some (.inr s8)
      :Option ((Int) ⊕ (Int))))
    N (Ar.len m))=lo
   cases lo with
   |none=>rfl
   | some s9=>
    simp only[Option.bind_some]
    cases J5 m (some s9) none none with
    |none=>rfl
    | some a=>
     simp only[Option.bind_some]
     cases H9 [] a with
     |none=>rfl
     | some b=>
      simp only[Option.bind_some]
      cases J5 m none (some s9) none with
      |none=>rfl
      | some c=>
       simp only[Option.bind_some]
       cases H9 c [q]with
       |none=>rfl
       |some d=>
        simp only[Option.bind_some];cases H9 d b<;>rfl
 intro s;simp[C2,B1]
end
end Go.Ab
namespace Go.Ab
open Classical
noncomputable section
theorem Ft (p:A0):(A0.pres p.cR).length+1=p.pre.length:=by rw[A0.pre_eq p];simp
theorem WT {N:Nat} (hN:40000000≤N):∀(n:Nat) (p:A0),p.pre.length≤n→p.pre.length≤16777216→U5 N n p=some (evs p:Int):=by
 intro n
 induction n with
 |zero=>intro p h;have:=Ft p;omega
 | succ n ih=>
  intro p h hb;have hp:=Ft p;have hal:=BY p;unfold U5
  have h0:((if cmp .eql p.Op 0=true then some 1 else some 0:Option Int))=some (if p.Op=0 then 1 else 0):=by
   rw[B9]
   by_cases h:p.Op=0<;>simp[h]
  rw[h0];simp only[Option.bind_some];rw[F6 p.cR (by omega) (mk:=fun(s:Int) i=>(s,i)) (body:=fun s q=>(U5 N n q).bind fun r=>some (.inl (ar .add .i64 s r))) (fin:=fun s=>s) (s:=if p.Op=0 then 1 else 0) (by omega) ?_ ?_]
  ·obtain⟨s',h1,q,h2,h3⟩:=X6 (R:=Int) (step:=fun(s:Int) q=>(U5 N n q).bind fun r=>some (.inl (ar .add .i64 s r)))
    (fun r s=>∃q,q++r=p.cR∧s=((if p.Op=0 then 1 else 0:Int)+((A0.pres q).countP fun y=>decide (y.Op=0):Nat))) (fun x r s ⟨q,e1,e2⟩=>by
     have hx:x∈p.cR:=by rw[←e1];simp
     have hxl:=P2 hx
     have hq:(A0.pres q).length≤(A0.pres p.cR).length:=by rw[←e1,Cp];simp
     have hc:=List.countP_le_length (p:=fun y:A0=>decide (y.Op=0)) (l:=A0.pres q);have hc2:=List.countP_le_length (p:=fun y:A0=>decide (y.Op=0)) (l:=x.pre);rw[ih x (by omega) (by omega)];refine⟨_,rfl,q++[x],by simpa using e1,?_⟩;have he:(evs x:Int)=((x.pre.countP fun y=>decide (y.Op=0):Nat):Int):=rfl;rw[e2,Cp,List.countP_append]
     have:A0.pres [x]=x.pre:=by simp[A0.pres]
     rw[this,he,C5 (by split<;>omega) (by split<;>omega)]
     omega) (l:=p.cR) (s:=if p.Op=0 then 1 else 0) ⟨[],rfl,by simp[A0.pres]⟩
   rw[h1];simp only[Option.bind_some]
   rw[append_nil]at h2
   rw[h3,h2,FC]
   by_cases h:p.Op=0<;>simp[h]
  ·intro s i x hx hi;have e:ar .add .i64 (i:Int) 1=i+1:=C5 (by omega) (by omega);simp only[C2,B1,hi,decide_true,if_true,C6,hx,Option.bind_some,e];cases U5 N n x<;>rfl
  intro s;simp[C2,B1]
theorem Rz (f:A0→Bool):∀r:List A0,(A0.pres r).any f=r.any fun x=>x.pre.any f
 |[]=>rfl
 |a::r=>by simp only[A0.pres,List.any_append,any_cons,Rz f r]
theorem Ad6 {N:Nat} (hN:40000000≤N):∀(n:Nat) (p:A0),p.pre.length≤n→p.pre.length≤16777216→Ac N n p=some (p.pre.any fun y=>decide (y.Op=4)):=by
 intro n
 induction n with
 |zero=>intro p h;have:=Ft p;omega
 | succ n ih=>
  intro p h hb;have hp:=Ft p;have hal:=BY p;unfold Ac;rw[A0.pre_eq p,any_cons]
  by_cases h4:p.Op=4
  ·rw[if_pos (by rw[B9];exact decide_eq_true h4)];simp[h4]
  rw[if_neg (by rw[B9];simpa using h4)]
  rw [Cr (l:=p.cR) (fun x=>x.pre.any fun y=>decide (y.Op=4)) (by omega) (by omega) (fun i x hx hi=>by
      have hm:=List.mem_of_getElem? hx;have hxl:=P2 hm;have e:ar .add .i64 (i:Int) 1=i+1:=C5 (by omega) (by omega);simp only[C2,B1,hi,decide_true,if_true,C6,hx,Option.bind_some,e,ih x (by omega) (by omega)]
      split<;>rfl) (by simp[C2,B1])]
  rw[Rz];simp only[h4,decide_false,Bool.false_or]
  by_cases ha:(p.cR.any fun x=>x.pre.any fun y=>decide (y.Op=4))=true
  ·rw[if_pos ha,ha];rfl
  rw[if_neg ha]
  rw[Bool.not_eq_true]at ha
  rw[ha];rfl
theorem RA {N:Nat} (hN:40000000≤N) {b n:Nat} (hb:b≤20000000) (hn:n≤20000000):∃r,Cj N (b:Int) (n:Int) 1500=some r∧(r≤1500→r=((b ^ n:Nat):Int)):=by
 unfold Cj
 have key:∀(k i M:Nat) (out:Int),i+k=n→k<M→out=((b ^ i:Nat):Int)→out≤30000000000→∃r,loopN
  (fun(s1:Int×Int)=>
   (
    if an (cmp .lss s1.2 (n:Int)) (cmp .leq s1.1 1500)=true then
     some (.inl (ar .mul .i64 s1.1 (b:Int),ar .add .i64 s1.2 1))
    else
     some (.inr s1.1)
    :Option ((Int×Int) ⊕ (Int))))
  M (out,(i:Int))=some r∧(r≤1500→r=((b ^ n:Nat):Int)):=by
  intro k
  induction k with
  |zero=>
   intro i M out hi hM ho _;obtain⟨M,rfl⟩:∃m,M=m+1:=⟨M - 1,by omega⟩;refine⟨out,?_,fun _=>by rw[ho,show i=n by omega]⟩;unfold loopN
   dsimp only
   rw[if_neg (by simp only[M8,C2];simp;omega)]
  | succ k ih=>
   intro i M out hi hM ho hs;obtain⟨M,rfl⟩:∃m,M=m+1:=⟨M - 1,by omega⟩
   have h0:0≤out:=by rw[ho];omega
   by_cases hle:out≤1500
   ·have hmul:out*(b:Int)≤1500*20000000:=Int.mul_le_mul hle (by omega) (by omega) (by omega);have hmul0:0≤out*(b:Int):=Int.mul_nonneg h0 (by omega);have em:ar .mul .i64 out (b:Int)=out*(b:Int):=Bc (by omega) (by omega);have e:ar .add .i64 (i:Int) 1=i+1:=C5 (by omega) (by omega);obtain⟨r,h1,h2⟩:=ih (i+1) M (out*(b:Int)) (by omega) (by omega) (by rw[ho,Nat.pow_succ];simp) (by omega);refine⟨r,?_,h2⟩;unfold loopN
    dsimp only
    rw[if_pos (by simp only[M8,C2,CJ];simp;omega),em,e,show((i:Int)+1)=((i+1:Nat):Int) by omega];exact h1
   refine⟨out,?_,fun h=>absurd h hle⟩;unfold loopN
   dsimp only
   rw[if_neg (by simp only[M8,C2,CJ];simp;omega)]
 obtain⟨r,h1,h2⟩:=key n 0 N 1 (by omega) (by omega) (by simp) (by omega);have h0:((0:Nat):Int)=0:=rfl
 rw[h0]at h1
 exact⟨r,by rw[h1];rfl,h2⟩
theorem XO {N:Nat} (hN:40000000≤N) {p:A0} (hb:p.bulk≤16777216) {l:List A4} (hlb:l.length≤16777216):∃b,Dv N p l=some b∧(b=true→l.length≤10∧((evs p+1) ^ l.length≤1500∨(BO p∧l.length ^ evs p≤1500))):=by
 obtain⟨few,hf⟩:=few9 hN hb;have hpb:=Ez p;have hev:evs p≤p.pre.length:=List.countP_le_length;unfold Dv;rw[hf];simp only[Option.bind_some]
 by_cases h1:Ar.or (nt few) (cmp .gtr (Ar.len l) 10)=true
 ·rw[if_pos h1];exact⟨false,rfl,fun h=>by cases h⟩
 rw[if_neg h1]
 have hl:l.length≤10:=by
  simp only[G7,M6,N8,B1]at h1
  simp at h1
  omega
 rw[Cr (l:=l) (fun x=>cmp .gtr (Ar.len x.Values) 9) (by omega) (by omega) (fun i x hx hi=>by
  have e:ar .add .i64 (i:Int) 1=i+1:=C5 (by omega) (by omega);rw[if_pos (M7 hi),C6,hx];simp only[Option.bind_some,e]
  split<;>rfl) (by rw[if_neg P4])]
 simp only[Option.bind_some]
 by_cases h2:(l.any fun x=>cmp .gtr (Ar.len x.Values) 9)=true
 ·rw[if_pos h2];exact⟨false,rfl,fun h=>by cases h⟩
 rw[if_neg h2]
 dsimp only
 rw[WT hN N p (by omega) (by omega),Ad6 hN N p (by omega) (by omega)];simp only[Option.bind_some];obtain⟨r1,h3,h4⟩:=RA hN (b:=evs p+1) (n:=l.length) (by omega) (by omega);obtain⟨r2,h5,h6⟩:=RA hN (b:=l.length) (n:=evs p) (by omega) (by omega);rw[C5 (a:=(evs p:Int)) (by omega) (by omega),show((evs p:Int)+1)=((evs p+1:Nat):Int) by omega,B1,h3];simp only[Option.bind_some]
 by_cases h7:r1≤1500
 ·rw[if_pos (show cmp .leq r1 1500=true from decide_eq_true h7)];exact⟨true,rfl,fun _=>⟨hl,.inl (by have:=h4 h7;omega)⟩⟩
 rw[if_neg (show¬(cmp .leq r1 1500=true) by rw[CJ];simpa using h7)]
 cases hp:p.pre.any fun y=>decide (y.Op=4)with
 |true=>
  rw[if_neg (show¬nt true=true by decide)];exact⟨false,rfl,fun h=>by cases h⟩
 | false=>
  rw[if_pos (show nt false=true from rfl),h5];refine⟨decide (r2≤1500),rfl,fun h=>⟨hl,.inr ⟨fun y hy e=>?_,?_⟩⟩⟩
  ·rw[List.any_eq_false]at hp
   exact hp y hy (decide_eq_true e)
  have h8:=of_decide_eq_true h;have:=h6 h8;omega
theorem Ak2 {p:A0}{l:List A4}(hp:p.pre.length≤64)(hs:(evs p+1) ^ l.length≤1500∨(BO p∧l.length ^ evs p≤1500)):JC l.length p:=by
 rcases hs with h|⟨h1,h2⟩
 ·exact .inl h
 by_cases h3:2≤l.length
 ·exact .inr ⟨h1,h3,h2⟩
 left
 have hev:evs p≤p.pre.length:=List.countP_le_length
 have:l.length=0∨l.length=1:=by omega
 rcases this with h|h<;>rw[h]<;>simp<;>omega
theorem Yz {p:A0}{l:List A4}(hp:p.pre.length≤64)(hl:l.length≤10):mu l p 0≤1000:=by
 unfold mu;have:=Nat.mul_le_mul hp (show l.length+2≤12 by omega);omega
theorem MN (l:List A4):IN l [] ((0:Nat):Int):=⟨Gd.nil l,fun _ h=>absurd h List.not_mem_nil,by omega,by omega⟩
theorem Af0 {N:Nat} (hN:40000000≤N) {p:A0} (hb:p.bulk≤16777216) {l:List A4} (hl:l.length≤10) (hs:(evs p+1) ^ l.length≤1500∨(BO p∧l.length ^ evs p≤1500)):
 ∃r e,N2 N p l=some (r,e)∧AI N p l=some (r,e)∧(∀x∈r,x.cT.length≤10)∧r.length≤1500∧(e=0→Qh N p=0∧HX l=0∧SM r∧∃L:List (List PR),L.Nodup∧(∀s,s∈L↔Sm l p [] 0 s)∧r.Perm (L.map (U8 l)))∧(e≠0→r=[])∧Be N p l=some e:=by
 unfold N2 AI Be;rw[Wr hN hb,Wm hN hb];simp only[Option.bind_some]
 by_cases h1:Qh N p=0
 ·rw [if_neg (J1 h1),if_neg (J1 h1),ZY hN,Aa6 hN];simp only[Option.bind_some]
  by_cases h2:HX l=0
  ·rw[if_neg (J1 h2),if_neg (J1 h2)];obtain⟨hw,hp⟩:=VC hN hb h1;have hsm:=Ak2 hp hs;have hmu:=Yz hp hl;obtain⟨L1,a1,a2,a3⟩:=We hN hl 1000 p [] 0 N hmu (by omega) hp hw hsm (MN l);obtain⟨L2,b1,b2,b3⟩:=(Ak4 hN hl 1000 p [] 0 N hmu (by omega) hp hw hsm (MN l)).1;have hcL1:=FE hw hsm (MN l) a2 fun s h=>(a3 s).1 h;have hcL2:=KZ hw hsm (MN l) ⟨b2,fun s h=>(b3 s).1 h⟩;have hres:∀s∈L2,Kx l 0 s:=fun s h=>((b3 s).1 h).res hw (MN l);obtain⟨r,r1,r2,r3⟩:=Aa7 hN hl h2 hcL2 b2 (fun s h=>(hres s h).gd) b1
   have hperm:(L1.map H8).Perm L2:=by
    refine(List.perm_ext_iff_of_nodup ?_ b2).2 fun s=>?_
    ·rw[List.Nodup,List.pairwise_map];exact a2.imp fun hne e=>hne (Ik e)
    rw[b3,List.mem_map]
    constructor
    ·rintro⟨t,ht,rfl⟩;exact(a3 t).1 ht
    intro h;exact⟨s.map JO,(a3 _).2 (by rw[P9];exact h),P9 s⟩
   have hrl:r.length≤1500:=by have:=r3.length_eq;rw[List.length_map]at this;omega
   have hrb:∀x∈r,x.cT.length≤10:=fun x hx=>by
    obtain⟨t,ht,rfl⟩:=List.mem_map.1 (r3.mem_iff.1 hx);have:=(hres t ht).gd.len;rw[Jk];omega
   have h00:((0:Nat):Int)=0:=rfl
   rw[h00]at a1
   refine⟨r,0,?_,by rw[r1];rfl,hrb,hrl,fun _=>⟨h1,h2,r2,L2,b2,b3,r3⟩,fun h=>absurd rfl h,by rw[h2]⟩;rw[a1];simp only[Option.bind_some]
   rw[(CZ (L:=L1) (N:=N) (fun(m:List C4) i=>(i,m)) (fun m s=>m++[U8 l (H8 s)]) (fun m=>m) (fun i m=>m.length=i) (by omega) (by omega) rfl (fun m i s hs' hi hm e hl=>by
    have gs:=(((a3 s).1 hm).res hw (MN l)).gd;have hsl:=gs.len
    rw[List.length_map]at hsl
    rw[if_pos (M7 hi),C6,hs'];simp only[Option.bind_some]
    rw[(CZ (L:=s) (N:=N) (fun(m:C4) i=>(i,m)) (fun m x=>⟨m.cT++[⟨x.cX,Hs l x.at_⟩]⟩) (fun m=>m) (fun i m=>m.cT.length=i) (by omega) (by omega) rfl (fun m i x hx hi hm e hl=>by
     have hw:=gs.wf (pr x) (List.mem_map.2 ⟨x,hm,rfl⟩);obtain⟨e',h1,h2⟩:=UN (l:=l) (i:=x.at_) hw.2.1 hw.2.2;rw[if_pos (M7 hi),C6,hx];simp only[Option.bind_some];rw[h1];simp only[Option.bind_some,AK];rw[M2 (by simp;omega),e,h2]
     exact⟨rfl,by simp[hl]⟩) (fun m=>by dsimp only;rw[if_neg P4])).1,Jt]
    simp only[Option.bind_some,List.nil_append];rw[M2 (by simp;omega),e];refine⟨?_,by simp[hl]⟩;simp only[Option.bind_some,U8,H8,List.map_map]
    rfl) (fun m=>by dsimp only;rw[if_neg P4])).1]
   have hf:∀(L:List (List BD)) (m:List C4),L.foldl (fun m s=>m++[U8 l (H8 s)]) m=m++L.map fun s=>U8 l (H8 s):=fun L=>by
    induction L with
    |nil=>intro m;simp
    |cons a L ih=>intro m;rw[List.foldl_cons,ih];simp
   rw[hf,List.nil_append];simp only[Option.bind_some];rw[Ak1 hN (r:=r) ?_ r2 (fun x hx=>by have:=hrb x hx;omega) (by simp;omega)]
   ·rfl
   have:=(hperm.map (U8 l))
   rw[List.map_map]at this
   exact r3.trans this.symm
  rw[if_pos (J9 h2),if_pos (J9 h2)];exact⟨[],_,rfl,rfl,by simp,by simp,fun h=>absurd h h2,fun _=>rfl,rfl⟩
 simp only[J9 h1,if_true,Option.bind_some];exact⟨[],_,rfl,rfl,by simp,by simp,fun h=>absurd h h1,fun _=>rfl,rfl⟩
theorem Oi {N:Nat} (hN:40000000≤N) {r:List C4} (hr:r.length≤1000000) (hb:∀x∈r,x.cT.length≤1000000):Es N r r=some true:=by
 unfold Es;rw[if_neg (by rw[E5];simp)]
 rw [Cr (l:=r) (fun _=>false) (by omega) (by omega) (fun i x hx hi=>by
     have e:ar .add .i64 (i:Int) 1=i+1:=C5 (by omega) (by omega);have hm:=List.mem_of_getElem? hx;rw[if_pos (M7 hi),C6,hx];simp only[Option.bind_some];rw[LS hN (hb x hm) (hb x hm),PM];simp only[Option.bind_some,e]
     rfl) (by rw[if_neg P4])]
 simp
end
end Go.Ab
namespace Go.Ab
open Classical
noncomputable section
end
end Go.Ab
