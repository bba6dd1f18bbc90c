/- GTW7 GTW8 GTW9 GTX0 GTX1 GTX2 GTX3 GTX5 -/
import Derived.Test.YtanbgjgaafeplaaGreatDoorB18
set_option linter.all false
open List (Nodup any_cons append_nil)
open Go.Ab.Ar (an ar cmp nt)
namespace Go.Ab
open Classical
noncomputable section
theorem BH {α β A B:Type}{L:List α}{N:Nat}{step:Int→Option (List β×(Int ⊕ A))}{u:A}{f:A→Option (List β×B)}{y:B}{Q:α→β→Prop}{G:β→Prop}(hN:L.length<N)
 (hs:∀(i:Nat) x,L[i]? =some x→(i:Int)<L.length→x∈L→∃w,step (i:Int)=some (w,.inl ((i:Int)+1))∧∀s,s∈w↔Q x s) (he:step (L.length:Int)=some ([],.inr u)) (hf:f u=some ([],y)) (hG:∀s,(∃x∈L,Q x s)↔G s):∃W,N3 (V4 step N 0) f=some (W,y)∧∀s,s∈W↔G s:=by
 obtain⟨W,h1,h2⟩:=Oa hN hs he;exact⟨W++[],Fg h1 hf,fun s=>by rw[append_nil];exact(h2 s).trans (hG s)⟩
theorem JH {β:Type}{m:Option (List β×Unit)}{G:β→Prop}(h:∃W,m=some (W,())∧∀s,s∈W↔G s):∃R,(m.bind fun q=>some q.1)=some R∧∀s,s∈R↔G s:=by
 obtain⟨W,h1,h2⟩:=h;exact⟨W,by rw[h1];rfl,h2⟩
theorem Fo {β A:Type}{x:β}{o:A}{P:β→Prop}(h:∀s,s=x↔P s):∃w,N3 (some ([x],())) (fun _=>some ([],o))=some (w,o)∧∀s,s∈w↔P s:=⟨[x],rfl,fun s=>by rw[List.mem_singleton];exact h s⟩
section
variable {N:Nat}(hN:40000000≤N){l:List A4}(hl:l.length≤10)
include hN hl
theorem Ys {o u:List BD}{f:Int}(ho:OF l (G2 o) f)(r:PO l f (G2 u)):∃c,L4 N o u=some c∧G2 c=mrg (G2 o) (G2 u):=by
 have h1:=ho.gd.len;have h2:=r.gd.len
 rw[List.length_map]at h1 h2
 exact Lf (n:=l.length) (by omega) (by omega) (by omega) ho.gd.asc r.gd.asc (ho.apart r) ho.gd.wf.ins r.gd.wf.ins
theorem Yr {u t:List BD}{f g:Int}(r:PO l f (G2 u))(q:PO l g (G2 t))(hd:CA (G2 u) (G2 t)):∃c,L4 N u t=some c∧G2 c=mrg (G2 u) (G2 t):=by
 have h1:=r.gd.len;have h2:=q.gd.len
 rw[List.length_map]at h1 h2
 exact Lf (n:=l.length) (by omega) (by omega) (by omega) r.gd.asc q.gd.asc hd r.gd.wf.ins q.gd.wf.ins
theorem Yp {u:List BD}{f:Int}(r:PO l f (G2 u)):K7 N u=some (W0 (G2 u)):=by
 have h1:=r.gd.len
 rw[List.length_map]at h1
 exact Qv (fun e=>r.ne (by rw[e];rfl)) (by omega)
theorem Uc {q:A1} {o:List BD} {f:Int} {n:Nat} (wq:Ke q) (sq:NB l.length q) (ho:OF l (G2 o) f) (hq:Zm N n l q o f) {x5:List BD→Int→Option (List (List BD))} {Qr:List BD→List BD→Prop}
 (hr:∀u,Sm l q (G2 o) f (G2 u)→∀r9,G2 r9=mrg (G2 o) (G2 u)→∃T,x5 r9 (W0 (G2 u)+1)=some T∧T.length≤4096∧∀t,t∈T↔Qr u t) (hres:∀u t,Sm l q (G2 o) f (G2 u)→Qr u t→PO l (W0 (G2 u)+1) (G2 t)):
 ∃R,K8 N (n+2) ⟨l,false⟩ q o f x5=some R∧∀s,s∈R↔∃u t,Sm l q (G2 o) f (G2 u)∧Qr u t∧G2 s=mrg (G2 u) (G2 t):=by
 obtain⟨L,h1,h2,h3⟩:=hq;have hc:=Fc wq sq ho h2 fun s hs=>(h3 s).1 hs;unfold K8 N8;refine JH ?_;rw[h1];simp only[Option.bind_some];refine BH (L:=L) (u:=.inl ()) (Q:=fun u s=>∃t,Qr u t∧G2 s=mrg (G2 u) (G2 t)) (by omega) ?_ ?_ rfl ?_
 ·intro i u hu hi hm;have hsm:=(h3 u).1 hm;have r:=hsm.res wq ho;have hlst:=r.gd.lst r.ne;obtain⟨c,hc1,hc2⟩:=Ys hN hl ho r;obtain⟨T,t1,t2,t3⟩:=hr u hsm c hc2;have e:ar .add .i64 (i:Int) 1=i+1:=C4 (by omega) (by omega);rw[if_pos (T8 hi),D7,hu];simp only[Option.bind_some];rw[hc1,Yp hN hl r];simp only[Option.bind_some];rw[C4 (a:=W0 (G2 u)) (by omega) (by omega),t1];simp only[Option.bind_some,e];refine BH (L:=T) (u:=.inl ()) (Q:=fun t s=>G2 s=mrg (G2 u) (G2 t)) (by omega) ?_ ?_ rfl ?_
  ·intro j t ht hj hmt;have qr:=(t3 t).1 hmt;have rt:=hres u t hsm qr;obtain⟨d,d1,d2⟩:=Yr hN hl r rt (r.seq rt).2;have e:ar .add .i64 (j:Int) 1=j+1:=C4 (by omega) (by omega);rw[if_pos (T8 hj),D7,ht];simp only[Option.bind_some,Bool.false_eq_true,if_false,d1,e];exact Fo fun s=>⟨fun e=>by rw[e,d2],fun e=>Hr (e.trans d2.symm)⟩
  ·rw[if_neg X4]
  intro s
  constructor
  ·rintro⟨t,ht,e⟩;exact⟨t,(t3 t).1 ht,e⟩
  rintro⟨t,ht,e⟩;exact⟨t,(t3 t).2 ht,e⟩
 ·rw[if_neg X4]
 intro s
 constructor
 ·rintro⟨u,hu,t,ht,e⟩;exact⟨u,t,(h3 u).1 hu,ht,e⟩
 rintro⟨u,t,hu,ht,e⟩;exact⟨u,(h3 u).2 hu,t,ht,e⟩
def mu (l:List A4)(p:A1)(f:Nat):Nat:=p.pre.length*(l.length+2)+(l.length - f)
omit hN hl in
theorem FP {p q:A1}{f g:Nat}(h:q.pre.length<p.pre.length):mu l q g+1≤mu l p f:=by
 unfold mu;have:=Nat.mul_le_mul_right (l.length+2) (show q.pre.length+1≤p.pre.length from h)
 rw[Nat.add_mul]at this
 omega
omit hN hl in
theorem Aa8 {p:A1}{f g:Nat}(h:f<g)(hg:g≤l.length):mu l p g+1≤mu l p f:=by unfold mu;omega
def IHk (N:Nat)(l:List A4)(k:Nat):Prop:=∀(p:A1) (o:List BD) (f n:Nat),mu l p f≤k→8*k+8≤n→p.pre.length≤64→Ke p→NB l.length p→OF l (G2 o) f→Zm N n l p o f
omit hN hl in
theorem UC {u:List PR}{f:Int}(r:PO l f u)(h0:0≤f):∃g:Nat,W0 u+1=(g:Int)∧g≤l.length∧f<g:=by
 have:=r.gd.lst r.ne;obtain⟨x,_,hx,e⟩:=Y7 r.ne;have:=r.ge x hx;exact⟨(W0 u+1).toNat,by omega,by omega,by omega⟩
theorem Tu {p:A1}(hw:Ke p)(h0:p.Op=0){o:List BD}{f:Nat}(ho:OF l (G2 o) f)(n:Nat):∃R,Ei N n ⟨l,false⟩ p o f=some R∧∀s,s∈R↔Sm l p (G2 o) f (G2 s):=by
 have:=ho.f1;refine⟨_,by unfold Ei;rw[if_pos h0];exact VG hN hl hw.self.cond ho.gd false (by omega),fun s=>?_⟩;rw[UB,Sm.i0 h0]
 constructor
 ·rintro⟨j,h1,h2,h3,rfl⟩;exact⟨j,by omega,by omega,h3,rfl⟩
 rintro⟨j,h1,h2,h3,e⟩;exact⟨j,by omega,by omega,h3,Hr (e.trans rfl)⟩
theorem Vh {L:List (List BD)}(hL:L.length≤1000000):∃R,N6 N L=some R∧∀s,s∈R↔s∈L:=by
 unfold N6 E6;refine JH ?_;refine BH (L:=L) (u:=()) (Q:=fun x s=>s=x) (by omega) ?_ ?_ rfl ?_
 ·intro i u hu hi hm;have e:ar .add .i64 (i:Int) 1=i+1:=C4 (by omega) (by omega);rw[if_pos (T8 hi),D7,hu];simp only[Option.bind_some,e];exact Fo fun s=>Iff.rfl
 ·rw[if_neg X4]
 intro s;simp
theorem YK {k:Nat} (ih:IHk N l k) {p:A1} (hw:Ke p) (hp:p.pre.length≤64) (hs:NB l.length p) (h0:p.Op=1) {o:List BD} {f:Nat} (ho:OF l (G2 o) f) {n:Nat} (hmu:mu l p f≤k+1) (hn:8*k+15≤n):∃R,Ei N n ⟨l,false⟩ p o f=some R∧∀s,s∈R↔Sm l p (G2 o) f (G2 s):=by
 unfold Ei;rw[if_neg (by omega),if_pos h0];obtain⟨n,rfl⟩:∃m,n=m+1:=⟨n - 1,by omega⟩;unfold L7
 match ha:p.cQ with
 |[]=>exact absurd ha (hw.self.a1 (by omega) (by omega))
 |[q]=>
  have hq:q∈p.cQ:=by rw[ha];simp
  have:=FP (l:=l) (f:=f) (g:=f) (P2 hq);obtain⟨L,h1,h2,h3⟩:=ih q o f n (by omega) (by omega) (by have:=P2 hq;omega) (hw.arg hq) (hs.arg hq) ho;have hc:=Fc (hw.arg hq) (hs.arg hq) ho h2 fun s hs=>(h3 s).1 hs;obtain⟨R,h4,h5⟩:=Vh hN hl (L:=L) (by omega);rw[if_pos (show cmp .eql (Ar.len [q]) 1=true from rfl),Jj];simp only[Option.bind_some];rw[h1];simp only[Option.bind_some];rw[h4];exact⟨R,rfl,fun s=>(h5 s).trans ((h3 s).trans (Sm.i1 h0 ha).symm)⟩
 | q::q'::r=>
  have hq:q∈p.cQ:=by rw[ha];simp
  have hwr:Ke {p with cQ:=q'::r}:=hw.sub (by omega) (by omega) (fun x hx=>by rw[ha];exact List.mem_cons_of_mem _ hx) (by simp);have hsr:NB l.length {p with cQ:=q'::r}:=hs.tail ha;rw[if_neg (by rw[C1,B3];simp;omega),Lv,Jj];simp only[Option.bind_some];obtain⟨n,rfl⟩:∃m,n=m+2:=⟨n - 2,by omega⟩;have m1:=FP (l:=l) (f:=f) (g:=f) (P2 hq)
  obtain⟨R,h1,h2⟩:=Uc hN hl (hw.arg hq) (hs.arg hq) ho (ih q o f n (by omega) (by omega) (by have:=P2 hq;omega) (hw.arg hq) (hs.arg hq) ho) (x5:=fun y1 y2=>J9 N (n+2) y1 y2 ⟨l,false⟩ {p with cQ:=q'::r})
   (Qr:=fun u t=>Sm l {p with cQ:=q'::r} (mrg (G2 o) (G2 u)) (W0 (G2 u)+1) (G2 t)) (fun u hu r9 e9=>by
    have ru:=hu.res (hw.arg hq) ho;obtain⟨g,hg,hgl,hfg⟩:=UC ru ho.f0
    have ho':OF l (G2 r9) (g:Int):=by rw[e9,←hg];exact ho.next ru
    have m2:=FP (l:=l) (f:=f) (g:=g) (KW ha);obtain⟨T,t1,t2,t3⟩:=ih {p with cQ:=q'::r} r9 g (n+1) (by omega) (by omega) (by have:=KW ha;omega) hwr hsr ho';have hc:=Fc hwr hsr ho' t2 fun s hs=>(t3 s).1 hs;refine⟨T,?_,by omega,fun t=>?_⟩
    ·unfold J9;rw[hg,t1];rfl
    rw[t3,e9,hg]) (fun u t hu ht=>ht.res hwr (ho.next (hu.res (hw.arg hq) ho)))
  rw[h1];refine⟨R,rfl,fun s=>(h2 s).trans ?_⟩;rw[Sm.i1c h0 ha]
  constructor
  ·rintro⟨u,t,a,b,c⟩;exact⟨G2 u,G2 t,a,b,c⟩
  rintro⟨u,t,a,b,c⟩;exact⟨u.map IU,t.map IU,by rw[O8];exact a,by simp only[O8];exact b,by rw[O8,O8];exact c⟩
end
end
end Go.Ab
namespace Go.Ab
open Classical
noncomputable section
section
variable {N:Nat}(hN:40000000≤N){l:List A4}(hl:l.length≤10)
include hN hl
theorem YL {k:Nat} (ih:IHk N l k) {p:A1} (hw:Ke p) (hp:p.pre.length≤64) (hs:NB l.length p) (h0:p.Op=2) {o:List BD} {f:Nat} (ho:OF l (G2 o) f) {n:Nat} (hmu:mu l p f≤k+1) (hn:8*k+15≤n):∃R,Ei N n ⟨l,false⟩ p o f=some R∧∀s,s∈R↔Sm l p (G2 o) f (G2 s):=by
 unfold Ei;rw[if_neg (by omega),if_neg (by omega),if_pos h0];obtain⟨n,rfl⟩:∃m,n=m+2:=⟨n - 2,by omega⟩;unfold L8 P5;have hal:=Dp p;refine JH ?_;refine BH (L:=p.cQ) (u:=()) (Q:=fun q s=>Sm l q (G2 o) f (G2 s)) (by omega) ?_ ?_ rfl ?_
 ·intro i q hu hi hq;have:=FP (l:=l) (f:=f) (g:=f) (P2 hq);obtain⟨L,h1,h2,h3⟩:=ih q o f n (by omega) (by omega) (by have:=P2 hq;omega) (hw.arg hq) (hs.arg hq) ho;have hc:=Fc (hw.arg hq) (hs.arg hq) ho h2 fun s hs=>(h3 s).1 hs;have e:ar .add .i64 (i:Int) 1=i+1:=C4 (by omega) (by omega);rw[if_pos (T8 hi),D7,hu];simp only[Option.bind_some,e];rw[h1];simp only[Option.bind_some];refine BH (L:=L) (u:=()) (Q:=fun x s=>s=x) (by omega) ?_ ?_ rfl ?_
  ·intro j u hu hj hm;have e:ar .add .i64 (j:Int) 1=j+1:=C4 (by omega) (by omega);rw[if_pos (T8 hj),D7,hu];simp only[Option.bind_some,e];exact Fo fun s=>Iff.rfl
  ·rw[if_neg X4]
  intro s
  constructor
  ·rintro⟨x,hx,rfl⟩;exact(h3 _).1 hx
  intro h;exact⟨s,(h3 s).2 h,rfl⟩
 ·rw[if_neg X4]
 intro s;exact(Sm.i2 h0).symm
theorem Wu {k:Nat} (ih:IHk N l k) {p:A1} (hw:Ke p) (hp:p.pre.length≤64) (hs:NB l.length p) (h0:5≤p.Op) {o:List BD} {f:Nat} (ho:OF l (G2 o) f) {n:Nat} (hmu:mu l p f≤k+1) (hn:8*k+15≤n):∃R,Ei N n ⟨l,false⟩ p o f=some R∧∀s,s∈R↔Sm l p (G2 o) f (G2 s):=by
 unfold Ei;rw[if_neg (by omega),if_neg (by omega),if_neg (by omega),if_neg (by omega),if_neg (by omega)];obtain⟨n,rfl⟩:∃m,n=m+2:=⟨n - 2,by omega⟩;unfold E8 N9;obtain⟨q,ha⟩:=hw.self.a2 (by omega);have hop:=hw.self.op
 have hq:q∈p.cQ:=by rw[ha];simp
 have:=FP (l:=l) (f:=f) (g:=f) (P2 hq);obtain⟨L,h1,h2,h3⟩:=ih q o f n (by omega) (by omega) (by have:=P2 hq;omega) (hw.arg hq) (hs.arg hq) ho;have hc:=Fc (hw.arg hq) (hs.arg hq) ho h2 fun s hs=>(h3 s).1 hs;refine JH ?_;rw[ha,Jj];simp only[Option.bind_some];rw[h1];simp only[Option.bind_some];refine BH (L:=L) (u:=()) (Q:=fun x s=>keepsA l p (G2 o) (G2 x)=true∧s=x) (by omega) ?_ ?_ rfl ?_
 ·intro j u hu hj hm;have ru:=((h3 u).1 hm).res (hw.arg hq) ho;have e:ar .add .i64 (j:Int) 1=j+1:=C4 (by omega) (by omega);rw[if_pos (T8 hj),D7,hu];simp only[Option.bind_some,e];rw[Vp hN hl hw.self.cond ⟨h0,hop.2⟩ ho.gd ru.gd (fun e=>ru.ne (by rw[e];rfl)) (ho.apart ru)];simp only[Option.bind_some]
  by_cases hk:keepsA l p (G2 o) (G2 u)=true
  ·rw[if_pos hk];exact Fo fun s=>⟨fun e=>⟨hk,e⟩,fun e=>e.2⟩
  rw[if_neg hk];exact⟨[],rfl,fun s=>⟨fun h=>absurd h List.not_mem_nil,fun h=>absurd h.1 hk⟩⟩
 ·rw[if_neg X4]
 intro s;rw[Sm.i5 h0 hop.2 ha]
 constructor
 ·rintro⟨x,hx,hk,rfl⟩;exact⟨(h3 _).1 hx,hk⟩
 rintro⟨h,hk⟩;exact⟨s,(h3 s).2 h,hk,rfl⟩
theorem Wv {k:Nat} (ih:IHk N l k) {p:A1} (hw:Ke p) (hp:p.pre.length≤64) (hs:NB l.length p) (h0:p.Op=4) {o:List BD} {f:Nat} (ho:OF l (G2 o) f) {n:Nat} (hmu:mu l p f≤k+1) (hn:8*k+15≤n):∃R,Ei N n ⟨l,false⟩ p o f=some R∧∀s,s∈R↔Sm l p (G2 o) f (G2 s):=by
 unfold Ei;rw[if_neg (by omega),if_neg (by omega),if_neg (by omega),if_neg (by omega),if_pos h0];obtain⟨n,rfl⟩:∃m,n=m+2:=⟨n - 2,by omega⟩;unfold K9 O0;obtain⟨q,ha⟩:=hw.self.a2 (by omega)
 have hq:q∈p.cQ:=by rw[ha];simp
 have m1:=FP (l:=l) (f:=f) (g:=f) (P2 hq);obtain⟨L,h1,h2,h3⟩:=ih q o f n (by omega) (by omega) (by have:=P2 hq;omega) (hw.arg hq) (hs.arg hq) ho;have hc:=Fc (hw.arg hq) (hs.arg hq) ho h2 fun s hs=>(h3 s).1 hs
 have hi:B9 p.cQ 0=some q:=by rw[ha];rfl
 rw[hi];simp only[Option.bind_some];rw[h1];simp only[Option.bind_some];obtain⟨n,rfl⟩:∃m,n=m+2:=⟨n - 2,by omega⟩
 obtain⟨R,r1,r2⟩:=Uc hN hl (hw.arg hq) (hs.arg hq) ho (ih q o f n (by omega) (by omega) (by have:=P2 hq;omega) (hw.arg hq) (hs.arg hq) ho) (x5:=fun y1 y2=>G8 N (n+2) y1 y2 ⟨l,false⟩ p)
  (Qr:=fun u t=>Sm l p (mrg (G2 o) (G2 u)) (W0 (G2 u)+1) (G2 t)) (fun u hu r9 e9=>by
   have ru:=hu.res (hw.arg hq) ho;obtain⟨g,hg,hgl,hfg⟩:=UC ru ho.f0
   have ho':OF l (G2 r9) (g:Int):=by rw[e9,←hg];exact ho.next ru
   have m2:=Aa8 (p:=p) (show f<g by omega) hgl;obtain⟨T,t1,t2,t3⟩:=ih p r9 g (n+1) (by omega) (by omega) hp hw hs ho';have hc:=Fc hw hs ho' t2 fun s hs=>(t3 s).1 hs;refine⟨T,?_,by omega,fun t=>?_⟩
   ·unfold G8;rw[hg,t1];rfl
   rw[t3,e9,hg]) (fun u t hu ht=>ht.res hw (ho.next (hu.res (hw.arg hq) ho)))
 obtain ⟨W, w1,w2⟩:=Oa (L:=L) (N:=N) (A:=Unit ⊕ Unit) (u:=.inl ()) (Q:=fun x s=>s=x) (step:=fun(s3:Int)=>
         (
          if cmp .lss s3 (Ar.len L)=true then
           (B9 L s3).bind fun x9=>
           if(⟨l,false⟩:A8).full=true then
            some ([],.inr (.inr ()))
           else
            N3 (some ([x9],())) fun _=>
            some ([],.inl (ar .add .i64 s3 1))
          else
           some ([],.inr (.inl ()))
          :Option (List (List A0)×((Int) ⊕ (Unit ⊕ Unit))))) (by omega) (fun j u hu hj hm=>by
  have e:ar .add .i64 (j:Int) 1=j+1:=C4 (by omega) (by omega);rw[if_pos (T8 hj),D7,hu];simp only[Option.bind_some,e,Bool.false_eq_true,if_false]
  exact Fo fun s=>Iff.rfl) (by rw[if_neg X4])
 obtain ⟨V,v1,v2⟩:=LW (L:=R) (R:=Unit) (Q:=fun x s=>s=x) (body:=fun(_:Unit) (y15:(List A0))=>
         (
          N3 (some ([y15],())) fun _=>
          some ([],.inl ())
          :Option (List (List A0)×(Unit ⊕ Unit)))) fun x hx=>Fo fun s=>Iff.rfl
 refine⟨W++(V++[]),?_,fun s=>?_⟩
 ·refine(congrArg (fun m:Option (List (List BD)×Unit)=>m.bind fun q=>some q.1) (Fg (o:=()) (w':=V++[]) w1 ?_)).trans rfl
  dsimp only
  rw[r1];simp only[Option.bind_some];exact Fg v1 rfl
 rw[append_nil,List.mem_append,w2,v2,Sm.i4 h0 ha];refine or_congr ?_ ?_
 ·constructor
  ·rintro⟨x,hx,rfl⟩;exact(h3 _).1 hx
  intro h;exact⟨s,(h3 s).2 h,rfl⟩
 constructor
 ·rintro⟨x,hx,rfl⟩;obtain⟨u,t,a,b,c⟩:=(r2 _).1 hx;exact⟨G2 u,G2 t,a,b,c⟩
 rintro⟨u,t,a,b,c⟩;exact⟨s,(r2 s).2 ⟨u.map IU,t.map IU,by rw[O8];exact a,by simp only[O8];exact b,by rw[O8,O8];exact c⟩,rfl⟩
def WR :List (List (List BD))→List PR→List PR→Prop
 |[],w,s=>s=w
 |L::r,w,s=>∃u∈L,CA w (G2 u)∧WR r (mrg w (G2 u)) s
omit hN hl in
theorem WR.snoc :∀{P:List (List (List BD))} {L:List (List BD)} {w s:List PR},WR (P++[L]) w s↔∃t,WR P w t∧∃u∈L,CA t (G2 u)∧s=mrg t (G2 u)
 |[],L,w,s=>by simp[WR]
 |M::P,L,w,s=>by
  show(∃u∈M,CA w (G2 u)∧WR (P++[L]) (mrg w (G2 u)) s)↔_
  constructor
  ·rintro⟨u,hu,ha,h⟩;obtain⟨t,ht,h⟩:=WR.snoc.1 h;exact⟨t,⟨u,hu,ha,ht⟩,h⟩
  rintro⟨t,⟨u,hu,ha,ht⟩,h⟩;exact⟨u,hu,ha,WR.snoc.2 ⟨t,ht,h⟩⟩
theorem Rf {f:Int}:∀{P:List (List (List BD))} {w:List BD} {n:Nat},P.length<n→(∀L∈P,L.length≤4096∧∀u∈L,PO l f (G2 u))→Gd l (G2 w)→∃R,S4 N n P w=some R∧∀s,s∈R↔WR P (G2 w) (G2 s)
 |[],w,n,hn,_,_=>by
  obtain⟨n,rfl⟩:∃m,n=m+1:=⟨n - 1,by omega⟩;unfold S4;refine⟨[w],by rw[if_pos (show cmp .eql (Ar.len ([]:List (List (List BD)))) 0=true from rfl)];rfl,fun s=>?_⟩;rw[List.mem_singleton];exact⟨fun e=>by rw[e];rfl,fun e=>Hr e⟩
 | L::P,w,n,hn,hP,gw=>by
  obtain⟨n,rfl⟩:∃m,n=m+1:=⟨n - 1,by omega⟩;unfold S4;have hwl:=gw.len
  rw[List.length_map]at hwl
  obtain⟨hLl,hL⟩:=hP L (by simp);refine JH ?_;rw[if_neg (by rw[C1,B3];simp;omega),Jj];simp only[Option.bind_some];refine BH (L:=L) (u:=()) (Q:=fun u s=>CA (G2 w) (G2 u)∧WR P (mrg (G2 w) (G2 u)) (G2 s)) (by omega) ?_ ?_ rfl ?_
  ·intro i u hu hi hm;have ru:=hL u hm;have hul:=ru.gd.len
   rw[List.length_map]at hul
   have e:ar .add .i64 (i:Int) 1=i+1:=C4 (by omega) (by omega);rw[if_pos (T8 hi),D7,hu];simp only[Option.bind_some,e];rw[Vm hN (by omega) (by omega),Lv];simp only[Option.bind_some]
   by_cases ha:CA (G2 w) (G2 u)
   ·rw[NW.2 ha,if_pos (show nt false=true from rfl)];obtain⟨c,c1,c2⟩:=Lf (N:=N) (n:=l.length) (by omega) (by omega) (by omega) gw.asc ru.gd.asc ha gw.wf.ins ru.gd.wf.ins;obtain⟨R,r1,r2⟩:=Rf (P:=P) (w:=c) (n:=n) (by simp at hn;omega) (fun L hL=>hP L (by simp[hL])) (by rw[c2];exact gw.mrg ru.gd ha);rw[c1];simp only[Option.bind_some];rw[r1];refine⟨R++[],Fg rfl rfl,fun s=>?_⟩;rw[append_nil,r2,c2];exact⟨fun h=>⟨ha,h⟩,fun h=>h.2⟩
   have:JS (G2 w) (G2 u)=true:=by
    cases h:JS (G2 w) (G2 u)with
    |true=>rfl
    |false=>exact absurd (NW.1 h) ha
   rw[this,if_neg (show¬nt true=true by decide)];exact⟨[],rfl,fun s=>⟨fun h=>absurd h List.not_mem_nil,fun h=>absurd h.1 ha⟩⟩
  ·rw[if_neg X4]
  intro s
  constructor
  ·rintro⟨u,hu,ha,h⟩;exact⟨u,hu,ha,h⟩
  rintro⟨u,hu,ha,h⟩;exact⟨u,hu,ha,h⟩
omit hN hl in
theorem Aj9 {G:A1→List (List BD)} {b:List PR} {f:Int}:∀(n:Nat) {r:List A1} {p:A1},r.length≤n→p.Op=3→p.cQ=r→r≠[]→(∀q∈r,∀s,s∈G q↔Sm l q b f (G2 s))→∀s,WR (r.map G) [] s↔Sm l p b f s:=by
 intro n
 induction n with
 |zero=>intro r p hl _ _ hn;exact absurd (List.eq_nil_of_length_eq_zero (by omega)) hn
 | succ n ih=>
  intro r p hln h0 ha hn hG s
  rcases List.eq_nil_or_concat r with rfl|⟨m,q,rfl⟩
  ·exact absurd rfl hn
  rw[List.concat_eq_append]at *
  rw[List.map_append,List.map_cons,List.map_nil,WR.snoc]
  by_cases hm:m=[]
  ·subst hm;rw[Sm.i3 h0 ha]
   constructor
   ·rintro⟨t,ht,u,hu,_,e⟩;have ht:t=[]:=ht;rw[e,ht,Hz];exact(hG q (by simp) u).1 hu
   intro h;refine⟨[],rfl,s.map IU,(hG q (by simp) _).2 (by rw[O8];exact h),fun x hx=>absurd hx List.not_mem_nil,?_⟩;rw[O8,Hz]
  rw[Sm.i3c h0 ha hm];have ih':=fun t=>ih (r:=m) (p:={p with cQ:=m}) (by simp at hln;omega) h0 rfl hm (fun q hq=>hG q (by simp[hq])) t
  constructor
  ·rintro⟨t,ht,u,hu,hd,e⟩;exact⟨t,G2 u,(ih' t).1 ht,(hG q (by simp) u).1 hu,hd,e⟩
  rintro⟨t,u,ht,hu,hd,e⟩;exact⟨t,(ih' t).2 ht,u.map IU,(hG q (by simp) _).2 (by rw[O8];exact hu),by rw[O8];exact hd,by rw[O8];exact e⟩
theorem YM {k:Nat} (ih:IHk N l k) {p:A1} (hw:Ke p) (hp:p.pre.length≤64) (hs:NB l.length p) (h0:p.Op=3) {o:List BD} {f:Nat} (ho:OF l (G2 o) f) {n:Nat} (hmu:mu l p f≤k+1) (hn:8*k+15≤n):∃R,Ei N n ⟨l,false⟩ p o f=some R∧∀s,s∈R↔Sm l p (G2 o) f (G2 s):=by
 unfold Ei;rw[if_neg (by omega),if_neg (by omega),if_neg (by omega),if_pos h0];obtain⟨n,rfl⟩:∃m,n=m+2:=⟨n - 2,by omega⟩;unfold L9 P6;have hal:=Dp p
 let G:A1→List (List BD):=fun q=>(C3 N n ⟨l,false⟩ q o f).getD []
 have hG:∀q∈p.cQ,C3 N n ⟨l,false⟩ q o f=some (G q)∧(∀s,s∈G q↔Sm l q (G2 o) f (G2 s))∧(G q).length≤1500:=fun q hq=>by
  have:=FP (l:=l) (f:=f) (g:=f) (P2 hq);obtain⟨L,h1,h2,h3⟩:=ih q o f n (by omega) (by omega) (by have:=P2 hq;omega) (hw.arg hq) (hs.arg hq) ho;have hc:=Fc (hw.arg hq) (hs.arg hq) ho h2 fun s hs=>(h3 s).1 hs
  have e:G q=L:=by show(C3 N n ⟨l,false⟩ q o f).getD []=L;rw[h1];rfl
  exact⟨by rw[e];exact h1,by rw[e];exact h3,by rw[e];exact hc⟩
 have key:∀(k i M:Nat) (acc:List (List (List BD))),i+k=p.cQ.length→k<M→acc.length≤i→V4 (fun(s1:(List (List (List A0)))×Int)=>
  (
   if cmp .lss s1.2 (Ar.len p.cQ)=true then
    (B9 p.cQ s1.2).bind fun x8=>
    (C3 N n ⟨l,false⟩ x8 o f).bind fun r9=>
    (S1 s1.1 ([r9])).bind fun l11=>
    some ([],.inl (l11,ar .add .i64 s1.2 1))
   else
    some ([],.inr s1.1)
   :Option (List (List A0)×(((List (List (List A0)))×Int) ⊕ (((List (List (List A0))))))))) M (acc,(i:Int))=some ([],acc++(p.cQ.drop i).map G):=by
  intro k
  induction k with
  |zero=>
   intro i M acc hi hM _;obtain⟨M,rfl⟩:∃m,M=m+1:=⟨M - 1,by omega⟩;rw[List.drop_eq_nil_of_le (by omega)];unfold V4
   dsimp only
   rw[if_neg (Bz (by rw[B3];omega))];simp
  |succ k ihk=>
   intro i M acc hi hM hacc;obtain⟨M,rfl⟩:∃m,M=m+1:=⟨M - 1,by omega⟩
   have hlt:i<p.cQ.length:=by omega
   have e:ar .add .i64 (i:Int) 1=i+1:=C4 (by omega) (by omega);rw[List.drop_eq_getElem_cons hlt];unfold V4
   dsimp only
   rw[if_pos (T8 (by omega)),D7,List.getElem?_eq_getElem hlt];simp only[Option.bind_some];rw[(hG _ (List.getElem_mem hlt)).1];simp only[Option.bind_some];rw[Ad (by simp;omega)];simp only[Option.bind_some,e];rw[show((i:Int)+1)=((i+1:Nat):Int) by omega,ihk (i+1) M _ (by omega) (by omega) (by simp;omega),List.map_cons,List.append_assoc];rfl
 have hk:=key p.cQ.length 0 N [] (by omega) (by omega) (by simp)
 simp only[List.drop_zero,List.nil_append]at hk
 have hk':((0:Nat):Int)=0:=rfl
 rw[hk']at hk
 obtain⟨R,r1,r2⟩:=Rf hN hl (f:=f) (P:=p.cQ.map G) (w:=[]) (n:=N) (by simp;omega) (fun L hL=>by
  obtain⟨q,hq,rfl⟩:=List.mem_map.1 hL;obtain⟨_,h2,h3⟩:=hG q hq
  exact⟨by omega,fun u hu=>((h2 u).1 hu).res (hw.arg hq) ho⟩) (Gd.nil l)
 refine JH ⟨[]++(R++[]),Fg hk ?_,fun s=>?_⟩
 ·rw[if_pos (show nt (⟨l,false⟩:A8).full=true from rfl),r1];simp only[Option.bind_some];exact Fg rfl rfl
 rw[List.nil_append,append_nil,r2];exact Aj9 _ (Nat.le_refl _) h0 rfl (hw.self.a1 (by omega) (by omega)) (fun q hq=>(hG q hq).2.1) _
theorem VK :∀k,IHk N l k:=by
 intro k
 induction k with
 |zero=>
  intro p o f n hmu;exfalso;have h1:=A1.pre_eq p
  have:1≤p.pre.length:=by rw[h1];simp
  unfold mu at hmu
  have:=Nat.mul_le_mul_right (l.length+2) this;omega
 | succ k ih=>
  intro p o f n hmu hn hp hw hs ho;obtain⟨n,rfl⟩:∃m,n=m+1:=⟨n - 1,by omega⟩;have hop:=hw.self.op
  have hf:∃R,Ei N n ⟨l,false⟩ p o f=some R∧∀s,s∈R↔Sm l p (G2 o) f (G2 s):=by
   by_cases h0:p.Op=0
   ·exact Tu hN hl hw h0 ho n
   by_cases h1:p.Op=1
   ·exact YK hN hl ih hw hp hs h1 ho hmu (by omega)
   by_cases h2:p.Op=2
   ·exact YL hN hl ih hw hp hs h2 ho hmu (by omega)
   by_cases h3:p.Op=3
   ·exact YM hN hl ih hw hp hs h3 ho hmu (by omega)
   by_cases h4:p.Op=4
   ·exact Wv hN hl ih hw hp hs h4 ho hmu (by omega)
   exact Wu hN hl ih hw hp hs (by omega) ho hmu (by omega)
  obtain⟨R,h1,h2⟩:=hf;exact Ai2 hN hl hw hs ho h1 h2
end
end
end Go.Ab
namespace Go.Ab
open Classical
noncomputable section
def add1 (out:List (List PR))(s:List PR):List (List PR):=if s∈out then out else out++[s]
def Nd (P:List PR→Prop)(out:List (List PR)):Prop:=out.Nodup∧∀s∈out,P s
theorem Nd.nil (P:List PR→Prop):Nd P []:=⟨List.nodup_nil,fun _ h=>absurd h List.not_mem_nil⟩
theorem Nd.add {P:List PR→Prop}{out:List (List PR)}{s:List PR}(h:Nd P out)(hs:P s):Nd P (add1 out s):=by
 unfold add1
 split
 ·exact h
 rename_i hin;refine⟨List.nodup_append.2 ⟨h.1,by simp,fun a ha b hb e=>hin (by rw[←List.mem_singleton.1 hb,←e];exact ha)⟩,fun x hx=>?_⟩
 rcases List.mem_append.1 hx with hx|hx
 ·exact h.2 x hx
 rw[List.mem_singleton.1 hx];exact hs
def Ah2 (r:Option (List (List PR)))(l:List A4)(p:A1)(b:List PR)(f:Int):Prop:=∃L,r=some L∧L.Nodup∧∀s,s∈L↔Sm l p b f s
theorem Ah2.mk {x:Option (List (List PR))}{l:List A4}{p:A1}{b:List PR}{f:Int}(h:∃L,x=some L∧L.Nodup∧∀s,s∈L↔Sm l p b f s):Ah2 (x.bind fun s=>some s) l p b f:=by
 obtain⟨L,rfl,h⟩:=h;exact⟨L,rfl,h⟩
section
variable {N:Nat}(hN:40000000≤N){l:List A4}(hl:l.length≤10)
include hN hl
end
end
end Go.Ab
namespace Go.Ab
open Classical
noncomputable section
def M6 :List Int→List Int→Int
 |[],[]=>0
 |[],_::_=> -1
 |_::_,[]=>1
 |x::a,y::b=>if x<y then -1 else if y<x then 1 else M6 a b
theorem Ft :∀a:List Int,M6 a a=0
 |[]=>rfl
 |x::a=>by simp[M6,Ft a]
theorem UH :∀{a b:List Int},M6 a b=0→a=b
 |[],[],_=>rfl
 |[],_::_,h=>by simp[M6]at h
 |_::_,[],h=>by simp[M6]at h
 |x::a,y::b,h=>by
  unfold M6 at h
  split at h
  ·cases h
  split at h
  ·cases h
  rw[UH h];congr 1;omega
theorem Rj :∀a b:List Int,M6 b a= - M6 a b
 |[],[]=>rfl
 |[],_::_=>rfl
 |_::_,[]=>rfl
 |x::a,y::b=>by
  unfold M6;rw[Rj a b]
  split<;>split<;>first|omega|rfl
theorem Iw :∀{a b c:List Int},M6 a b<0→M6 b c<0→M6 a c<0
 |[],[],_,h,_=>by simp[M6]at h
 |_::_,[],_,h,_=>by simp[M6]at h
 |_,_::_,[],_,h=>by simp[M6]at h
 |[],_::_,_::_,_,_=>by simp[M6]
 | x::a,y::b,z::c,h1,h2=>by
  unfold M6 at h1 h2 ⊢
  by_cases h3:x<z
  ·rw[if_pos h3];decide
  rw[if_neg h3]
  by_cases h4:x<y
  ·by_cases h5:y<z
   ·omega
   rw[if_neg h5]at h2
   have:z<y:=by omega
   rw[if_pos this]at h2;cases h2
  rw[if_neg h4]at h1
  by_cases h5:y<x
  ·rw[if_pos h5]at h1;cases h1
  rw[if_neg h5]at h1
  by_cases h6:y<z
  ·omega
  rw[if_neg h6]at h2
  by_cases h7:z<y
  ·rw[if_pos h7]at h2;cases h2
  rw[if_neg h7]at h2
  rw[if_neg (by omega)];exact Iw h1 h2
def Zz (a b:Int):Int:=if a<b then -1 else if b<a then 1 else 0
theorem FC (N:Nat)(a b:Int):J2 N a b=some (Zz a b):=by
 unfold J2 BC Zz;simp only[Option.bind_some,G9,C0,Bh,decide_true,Bool.not_true,Bool.false_eq_true,if_false,decide_eq_true_eq]
 split
 ·rfl
 split<;>rfl
theorem or_eq {N:Nat} (hN:40000000≤N) {l:List Int} (hl:l.length≤1000):BN N l=some (T9 id l):=by
 unfold BN;rw[I9 l (by omega) (mk:=fun(_:Unit) i=>i) (body:=Az fun x=>some x) (fin:=fun _=>.inl ()) (s:=()) (by omega) ?_ ?_]
 ·rw[X2 (F:=fun x=>some x) (f:=id) fun x _=>rfl]
  by_cases h:T9 id l=0
  ·rw[if_pos h,h];rfl
  rw[if_neg h];rfl
 ·intro s i x hx hi;have e:ar .add .i64 (i:Int) 1=i+1:=C4 (by omega) (by omega);simp only[C0,B3,hi,decide_true,if_true,D7,hx,Option.bind_some,e,Az]
  split<;>rfl
 intro s;simp[C0,B3]
def Nr (r:Af):List Int:=[r.Time,r.Source,r.Seq]
def Ck (x:D6):List Int:=[x.Ref.Time,x.Ref.Source,x.Ref.Seq,x.Var]
theorem lex3 (a1 a2 a3 b1 b2 b3:Int):M6 [a1,a2,a3] [b1,b2,b3]=T9 id [Zz a1 b1,Zz a2 b2,Zz a3 b3]:=by
 simp only[M6,T9,Zz,id]
 repeat' split
 all_goals first|rfl|omega
theorem lex4 (a1 a2 a3 a4 b1 b2 b3 b4:Int):M6 [a1,a2,a3,a4] [b1,b2,b3,b4]=T9 id [M6 [a1,a2,a3] [b1,b2,b3],Zz a4 b4]:=by
 simp only[M6,T9,Zz,id]
 repeat' split
 all_goals first|rfl|omega
theorem ZO {N:Nat}(hN:40000000≤N)(a b:Af):Ea N a b=some (M6 (Nr a) (Nr b)):=by
 unfold Ea;rw[FC,FC,FC];simp only[Option.bind_some];rw[or_eq hN (by simp),Nr,Nr,lex3];rfl
theorem QV (N:Nat)(a b:Af):BT N a b=some (M6 (Nr a) (Nr b)):=by
 unfold BT Nr;simp only[G9,C0,Bh,M6,decide_eq_true_eq,Bool.not_eq_true',decide_eq_false_iff_not]
 repeat' split
 all_goals first|rfl|omega
theorem YQ {N:Nat}(hN:40000000≤N)(a b:A4):BB N a b=some (M6 [a.Time,a.Source,a.Seq] [b.Time,b.Source,b.Seq]):=by
 unfold BB Av;simp only[Option.bind_some,FC];rw[or_eq hN (by simp),←lex3];simp only[M8,C1,Bool.and_true,Bool.and_eq_true,decide_eq_true_eq,Option.bind_some]
 by_cases h:a.Time=b.Time∧a.Source=b.Source∧a.Seq=b.Seq
 ·rw[if_pos h,h.1,h.2.1,h.2.2,Ft]
 rw[if_neg h]
theorem YZ {N:Nat}(hN:40000000≤N)(a b:D6):W1 N a b=some (M6 (Ck a) (Ck b)):=by
 unfold W1;rw[ZO hN,FC];simp only[Option.bind_some];rw[or_eq hN (by simp),Ck,Ck,lex4];rfl
theorem VM (N:Nat) (a b:D6):Dd N a b=some (M6 (Ck a) (Ck b)):=by
 unfold Dd;rw[QV,Ck,Ck,lex4];simp only[Option.bind_some,T9,id,Nr,G9,C0,Bh,Zz]
 by_cases h:M6 [a.Ref.Time,a.Ref.Source,a.Ref.Seq] [b.Ref.Time,b.Ref.Source,b.Ref.Seq]=0
 ·simp only[h,decide_true,Bool.not_true,Bool.false_eq_true,if_false,if_true,decide_eq_true_eq]
  repeat' split
  all_goals first|rfl|omega
 simp[h]
def mO :List D6→List D6→Int
 |[],[]=>0
 |[],_::_=> -1
 |_::_,[]=>1
 |x::a,y::b=>if M6 (Ck x) (Ck y)≠0 then M6 (Ck x) (Ck y)else mO a b
def Ns (m:List D6):List Int:=m.flatMap Ck
theorem UG :∀{a b:List Int} (c d:List Int),a.length=b.length→M6 (a++c) (b++d)=if M6 a b≠0 then M6 a b else M6 c d
 |[],[],c,d,_=>by simp[M6]
 |[],_::_,_,_,h=>by simp at h
 |_::_,[],_,_,h=>by simp at h
 |x::a,y::b,c,d,h=>by
  simp only[List.cons_append,M6];have ih:=UG (a:=a) (b:=b) c d (by simpa using h)
  by_cases h1:x<y
  ·simp[h1]
  by_cases h2:y<x
  ·simp[h1,h2]
  simp only[h1,h2,if_false];exact ih
theorem NZ :∀a b:List D6,mO a b=M6 (Ns a) (Ns b)
 |[],[]=>rfl
 |[],y::b=>by simp[mO,Ns,Ck,M6]
 |x::a,[]=>by simp[mO,Ns,Ck,M6]
 |x::a,y::b=>by
  simp only[mO,Ns,List.flatMap_cons];rw[UG _ _ (by simp[Ck])];have:=NZ a b;rw[this];rfl
theorem UD {N:Nat} {a b:List D6} {step:Int→Option (Int ⊕ (Unit ⊕ Int))} {k:Unit ⊕ Int→Option Int} (hN:a.length<N) (hl:a.length≤1000000)
 (hs:∀(i:Nat) (h1:i<a.length) (h2:i<b.length),step (i:Int)=if cmp .neq (M6 (Ck a[i]) (Ck b[i])) 0=true then some (.inr (.inr (M6 (Ck a[i]) (Ck b[i]))))else some (.inl (ar .add .i64 (i:Int) 1)))
 (he:∀i:Nat,i≤a.length→i≤b.length→i=a.length∨i=b.length→∃r,step (i:Int)=some (.inr r)∧k r=some (if a.length<b.length then -1 else if b.length<a.length then 1 else 0)) (hk:∀c,k (.inr c)=some c):(loopN step N 0).bind k=some (mO a b):=by
 have key:∀(d i N:Nat),i+d=a.length→d<N→i≤b.length→(loopN step N (i:Int)).bind k=some (mO (a.drop i) (b.drop i)):=by
  have hend:∀(i N:Nat),i≤a.length→i≤b.length→i=a.length∨i=b.length→(loopN step (N+1) (i:Int)).bind k=some (mO (a.drop i) (b.drop i)):=fun i N h1 h2 h=>by
   obtain⟨r,e1,e2⟩:=he i h1 h2 h;simp only[loopN,e1,Option.bind_some,e2]
   by_cases ha:i<a.length
   ·rw[List.drop_eq_getElem_cons ha,List.drop_eq_nil_of_le (show b.length≤i by omega),if_neg (by omega),if_pos (by omega)];rfl
   rw[List.drop_eq_nil_of_le (show a.length≤i by omega)]
   by_cases hb:i<b.length
   ·rw[List.drop_eq_getElem_cons hb,if_pos (by omega)];rfl
   rw[List.drop_eq_nil_of_le (show b.length≤i by omega),if_neg (by omega),if_neg (by omega)];rfl
  intro d
  induction d with
  |zero=>
   intro i N hi hN hb;obtain⟨N,rfl⟩:∃m,N=m+1:=⟨N - 1,by omega⟩;exact hend i N (by omega) hb (by omega)
  |succ d ih=>
   intro i N hi hN hb;obtain⟨N,rfl⟩:∃m,N=m+1:=⟨N - 1,by omega⟩
   by_cases h:i=b.length
   ·exact hend i N (by omega) hb (.inr h)
   have ha:i<a.length:=by omega
   have hb:i<b.length:=by omega
   rw[List.drop_eq_getElem_cons ha,List.drop_eq_getElem_cons hb,mO];unfold loopN;rw[hs i ha hb,C4 (by omega) (by omega)]
   by_cases hz:M6 (Ck a[i]) (Ck b[i])=0
   ·rw[if_neg (show¬(cmp .neq (M6 (Ck a[i]) (Ck b[i])) 0=true)from P7 hz),if_neg (by simpa using hz)];exact ih (i+1) N (by omega) (by omega) (by omega)
   rw[if_pos (show cmp .neq (M6 (Ck a[i]) (Ck b[i])) 0=true from T7 hz),if_pos hz];exact hk _
 simpa using key a.length 0 N (by omega) hN (by omega)
theorem Pn {N:Nat} (hN:40000000≤N) {x y:B6} (hx:x.cR.length≤1000000) (hy:y.cR.length≤1000000):X3 N x y=some (mO x.cR y.cR):=by
 obtain⟨a⟩:=x;obtain⟨b⟩:=y
 dsimp only at hx hy ⊢
 unfold X3 E1
 dsimp only
 refine congrArg (fun o:Option Int=>o.bind fun r1=>some r1) (UD (a:=a) (b:=b) (by omega) hx (fun i h1 h2=>?_) (fun i h1 h2 h=>?_) fun _=>rfl)
 ·rw[if_pos (T8 (by omega)),D7,List.getElem?_eq_getElem h1];simp only[Option.bind_some];rw[if_neg (by rw[Q8,B3];simp;omega),D7,List.getElem?_eq_getElem h2];simp only[Option.bind_some];rw[YZ hN];rfl
 by_cases ha:i<a.length
 ·refine⟨.inr 1,?_,?_⟩
  ·rw[if_pos (T8 (by omega)),D7,List.getElem?_eq_getElem ha];simp only[Option.bind_some];rw[if_pos (by rw[Q8,B3];simp;omega)]
  rw[if_neg (show¬a.length<b.length by omega),if_pos (show b.length<a.length by omega)]
 refine⟨.inl (),by rw[if_neg (Bz (by rw[B3];omega))],?_⟩
 dsimp only
 by_cases hb:a.length<b.length
 ·rw[if_pos (EG (by rw[B3,B3];omega)),if_pos hb]
 rw[if_neg (Bz (by rw[B3,B3];omega)),if_neg hb,if_neg (show¬b.length<a.length by omega)]
theorem Uk {N:Nat}(hN:40000000≤N){x y:B6}(hx:x.cR.length≤1000000)(hy:y.cR.length≤1000000):Ap N x y=some (mO x.cR y.cR):=by
 obtain⟨a⟩:=x;obtain⟨b⟩:=y
 dsimp only at hx hy ⊢
 unfold Ap;refine UD (a:=a) (b:=b) (by omega) hx (fun i h1 h2=>?_) (fun i h1 h2 h=>⟨.inl (),by rw[if_neg (by simp only[M8,C0,B3];simp;omega)],?_⟩) fun _=>rfl
 ·rw[if_pos (by simp only[M8,C0,B3];simp;omega),D7,List.getElem?_eq_getElem h1,D7,List.getElem?_eq_getElem h2];simp only[Option.bind_some];rw[VM];rfl
 dsimp only
 by_cases hb:a.length<b.length
 ·rw[if_pos (EG (by rw[B3,B3];omega)),if_pos hb]
 rw[if_neg (Bz (by rw[B3,B3];omega)),if_neg hb]
 by_cases hc:b.length<a.length
 ·rw[if_pos (AB (by rw[B3,B3];omega)),if_pos hc]
 rw[if_neg (V5 (by rw[B3,B3];omega)),if_neg hc]
end
end Go.Ab
namespace Go.Ab
open Classical
noncomputable section
def Aa (e:A4):List Int:=[e.Time,e.Source,e.Seq]
def FL (e:A4):Bool:=(an (an (an (an (an (cmp .geq e.Time 0) (cmp .leq e.Time 1099511627776)) (cmp .geq e.Source 0)) (cmp .lss e.Source 8)) (cmp .geq e.Seq 0)) (cmp .leq e.Seq 1099511627776))
def Cb (a b:A4):Bool:=decide (a.Source=b.Source)&&decide (a.Seq=b.Seq)
def Kd (l:List A4)(i:Nat):Int:=
 match l[i]? with
 |none=>0
 |some e=>if FL e=false then 2 else if 0<i∧0≤M6 (Aa ((l[i - 1]?).getD e)) (Aa e)then 14 else if(l.take i).any (fun x=>Cb x e)=true then 7 else 0
def Hf (l:List A4):Int:=if 4096<l.length then 5 else T9 (Kd l) (List.range l.length)
theorem Xn {N : Nat} (hN:40000000≤N) {l:List A4} (hl:l.length≤4096) {i:Nat} (hi:i<l.length):(loopN
                    (fun(s10:Int)=>
                     (
                      if cmp .lss s10 (i:Int)=true then
                       (B9 l s10).bind fun x12=>
                       (CE N x12 l[i]).bind fun r14=>
                       if r14=true then
                        some (.inr (.inr ()))
                       else
                        some (.inl (ar .add .i64 s10 1))
                      else
                       some (.inr (.inl ()))
                      :Option ((Int) ⊕ (Unit ⊕ Unit))))
                    N 0)=some (if(l.take i).any (fun x=>Cb x l[i])=true then .inr ()else .inl ()):=by
 have hlen:(l.take i).length=i:=by rw[List.length_take];omega
 rw [Fs (l:=l.take i) (fun x=>Cb x l[i]) (by omega) (by omega) (fun j x hx hj=>by
     have hji:j<i:=by omega
     have e:ar .add .i64 (j:Int) 1=j+1:=C4 (by omega) (by omega)
     rw[List.getElem?_take_of_lt hji]at hx
     rw[if_pos (EG (by omega)),D7,hx];simp only[Option.bind_some,e,CE,C1,M8];unfold Cb
     split<;>rfl) (by rw[hlen,if_neg (Bz (Int.lt_irrefl _))])]
theorem ZQ {N:Nat} (hN:40000000≤N) {l:List A4}:Di N l=some (Hf l):=by
 unfold Di Hf
 by_cases h1:4096<l.length
 ·rw[if_pos (AB (by rw[B3];omega)),if_pos h1]
 rw[if_neg (V5 (by rw[B3];omega)),if_neg h1];have hr:(List.range l.length).length=l.length:=List.length_range;rw[I9 (List.range l.length) (by omega) (mk:=fun(_:Unit) i=>i) (body:=Az fun i=>some (Kd l i)) (fin:=fun _=>.inl ()) (s:=()) (by omega) ?_ ?_]
 ·rw[X2 (F:=fun i=>some (Kd l i)) (f:=Kd l) fun x _=>rfl]
  by_cases h:T9 (Kd l) (List.range l.length)=0
  ·rw[if_pos h,h];rfl
  rw[if_neg h];rfl
 ·intro s i x hx hi
  have hil:i<l.length:=by omega
  rw[List.getElem?_range hil]at hx
  cases hx;have e:ar .add .i64 (i:Int) 1=i+1:=C4 (by omega) (by omega);rw[if_pos (T8 (by omega)),Gb hil];simp only[Option.bind_some];rw[Xn hN (by omega) hil]
  have hbs:Kd l i=if FL l[i]=false then 2 else if 0<i∧0≤M6 (Aa ((l[i - 1]?).getD l[i])) (Aa l[i])then 14 else if(l.take i).any (fun x=>Cb x l[i])=true then 7 else 0:=by
   unfold Kd;rw[List.getElem?_eq_getElem hil]
  unfold DF Aq Az;simp only[Option.bind_some,e];rw[hbs];have hp:(an (an (an (an (an (cmp .geq l[i].Time 0) (cmp .leq l[i].Time 1099511627776)) (cmp .geq l[i].Source 0)) (cmp .lss l[i].Source 8)) (cmp .geq l[i].Seq 0)) (cmp .leq l[i].Seq 1099511627776))=FL l[i]:=rfl;rw[hp]
  cases FL l[i]with
  |false=>rfl
  | true=>
   rw[if_neg (show¬(nt true=true) by decide),if_neg (show¬(true=false) by decide)]
   by_cases h0:0<i
   ·rw[if_pos (AB (by omega))]
    have e1:ar .sub .i64 (i:Int) 1=((i - 1:Nat):Int):=by rw[Ho (by omega) (by omega)];omega
    have hi1:i - 1<l.length:=by omega
    rw[e1,Gb hi1,List.getElem?_eq_getElem hi1];simp only[Option.bind_some,QV,Option.getD_some];have hk:M6 (Nr ⟨l[i - 1].Time,l[i - 1].Source,l[i - 1].Seq⟩) (Nr ⟨l[i].Time,l[i].Source,l[i].Seq⟩)=M6 (Aa l[i - 1]) (Aa l[i]):=rfl;rw[hk]
    by_cases h2:0≤M6 (Aa l[i - 1]) (Aa l[i])
    ·rw[if_pos (show cmp .geq (M6 (Aa l[i - 1]) (Aa l[i])) 0=true by rw[Q8];exact decide_eq_true h2),if_pos (show 0<i∧0≤M6 (Aa l[i - 1]) (Aa l[i])from⟨h0,h2⟩)];rfl
    rw[if_neg (show¬(cmp .geq (M6 (Aa l[i - 1]) (Aa l[i])) 0=true) by rw[Q8];simpa using h2),if_neg (show¬(0<i∧0≤M6 (Aa l[i - 1]) (Aa l[i]))from fun h=>h2 h.2)];cases(l.take i).any fun x=>Cb x l[i]<;>rfl
   rw[if_neg (V5 (by omega)),if_neg (show¬(0<i∧0≤M6 (Aa ((l[i - 1]?).getD l[i])) (Aa l[i]))from fun h=>h0 h.1)];cases(l.take i).any fun x=>Cb x l[i]<;>rfl
 intro s;rw[hr,if_neg X4]
def Ef (p:List A4):List (C9×Bool):=p.map fun e=>(⟨e.Source,e.Seq⟩,true)
theorem Wq (p:List A4) (e:A4):∃b,ID (Ef p) ⟨e.Source,e.Seq⟩ false=some (p.any fun x=>Cb x e,b):=by
 unfold ID Ef
 induction p with
 |nil=>exact⟨false,by simp⟩
 | cons x p ih=>
  obtain⟨b,ih⟩:=ih;rw[List.map_cons,List.find?_cons,any_cons]
  by_cases h:(⟨x.Source,x.Seq⟩:C9)=⟨e.Source,e.Seq⟩
  ·have ht:Cb x e=true:=by
    simp only[C9.mk.injEq]at h
    simp[Cb,h.1,h.2]
   exact⟨true,by simp[h,ht]⟩
  have ht:Cb x e=false:=by
   simp only[C9.mk.injEq]at h
   simp only[Cb,Bool.and_eq_false_iff,decide_eq_false_iff_not]
   by_cases h1:x.Source=e.Source
   ·exact .inr fun h2=>h ⟨h1,h2⟩
   exact .inl h1
  refine⟨b,?_⟩;simp only[h,decide_false,ht,Bool.false_or];exact ih
theorem VI {p:List A4}{e:A4}(h:(p.any fun x=>Cb x e)=false):HI (Ef p) ⟨e.Source,e.Seq⟩ true=some (Ef (p++[e])):=by
 unfold HI;rw[if_neg]
 ·simp[Ef]
 intro c
 rw[List.any_eq_true]at c
 obtain⟨q,hq,he⟩:=c
 simp only[Ef,List.mem_map]at hq
 obtain⟨x,hx,rfl⟩:=hq
 rw[List.any_eq_false]at h
 refine h x hx ?_
 simp only[decide_eq_true_eq,C9.mk.injEq]at he
 simp[Cb,he.1,he.2]
theorem Yj {B:Type} {N n:Nat} {M:Nat→B} {step:(Int×B)→Option ((Int×B) ⊕ (B ⊕ (Int×B)))} (f:Nat→Int) {k:B ⊕ (Int×B)→Option Int} (hN:n<N) (hn:n<1000000000)
 (hs:∀i:Nat,i<n→ar .add .i64 (i:Int) 1=i+1→step ((i:Int),M i)=some (if f i=0 then .inl ((i:Int)+1,M (i+1))else .inr (.inr (f i,M i)))) (he:step ((n:Int),M n)=some (.inr (.inl (M n)))) (h0:∀m,k (.inl m)=some 0) (h1:∀c m,k (.inr (c,m))=some c):(loopN step N (0,M 0)).bind k=some (T9 f (List.range n)):=by
 have key:∀(d i N:Nat),i+d=n→d<N→(loopN step N ((i:Int),M i)).bind k=some (T9 f (List.range' i d)):=by
  intro d
  induction d with
  |zero=>
   intro i N hi hN;obtain⟨N,rfl⟩:∃m,N=m+1:=⟨N - 1,by omega⟩;obtain rfl:i=n:=hi;simp only[loopN,he,Option.bind_some,h0];rfl
  |succ d ih=>
   intro i N hi hN;obtain⟨N,rfl⟩:∃m,N=m+1:=⟨N - 1,by omega⟩;rw[List.range'_succ]
   by_cases hf:f i=0
   ·simp only[loopN,hs i (by omega) (C4 (by omega) (by omega)),T9,hf,if_true];exact ih (i+1) N (by omega) (by omega)
   simp only[loopN,hs i (by omega) (C4 (by omega) (by omega)),T9,hf,if_false,Option.bind_some,h1]
 rw[List.range_eq_range'];exact key n 0 N (by omega) hN
theorem ZK {N:Nat} (hN:40000000≤N) {l:List A4}:AZ N l=some (Hf l):=by
 unfold AZ Hf
 by_cases h1:4096<l.length
 ·rw[if_pos (AB (by rw[B3];omega)),if_pos h1]
 rw[if_neg (V5 (by rw[B3];omega)),if_neg h1];refine Yj (M:=fun i=>Ef (l.take i)) (Kd l) (by omega) (by omega) (fun i hil e=>?_) (by dsimp only;rw[if_neg X4]) (fun _=>rfl) (fun _ _=>rfl);obtain⟨b,hb⟩:=Wq (l.take i) l[i];have hp:CS N l[i]=some (FL l[i]):=rfl;have hst:CB N l[i]=some ⟨l[i].Source,l[i].Seq⟩:=rfl
 dsimp only
 rw[if_pos (T8 (by omega)),Gb hil];simp only[Option.bind_some];unfold Kd;rw[hp,hst,List.getElem?_eq_getElem hil];simp only[Option.bind_some,hb,e]
 cases FL l[i]with
 |false=>rfl
 | true=>
  rw[if_neg (show¬(nt true=true) by decide),if_neg (show¬(true=false) by decide)]
  have ht:(if(l.take i).any (fun x=>Cb x l[i])=true then some (.inr (.inr (7,Ef (l.take i))))else(HI (Ef (l.take i)) ⟨l[i].Source,l[i].Seq⟩ true).bind fun l15=>some (.inl ((i:Int)+1,l15)):Option ((Int×(List (C9×Bool))) ⊕ (((List (C9×Bool))) ⊕ (Int×(List (C9×Bool))))))=some (if(if(l.take i).any (fun x=>Cb x l[i])=true then(7:Int)else 0)=0 then .inl ((i:Int)+1,Ef (l.take (i+1)))else .inr (.inr (if(l.take i).any (fun x=>Cb x l[i])=true then(7:Int)else 0,Ef (l.take i)))):=by
   by_cases h7:(l.take i).any (fun x=>Cb x l[i])=true
   ·simp only[h7,if_true];rfl
   rw[if_neg h7,if_neg h7,VI (by simpa using h7),List.take_succ_eq_append_getElem hil];rfl
  by_cases h0:0<i
  ·have hi1:i - 1<l.length:=by omega
   rw[if_pos (AB (by omega)),show ar .sub .i64 (i:Int) 1=((i - 1:Nat):Int) by rw[Ho (by omega) (by omega)];omega,Gb hi1,List.getElem?_eq_getElem hi1];simp only[Option.bind_some,YQ hN,Option.getD_some];have hk:M6 [l[i - 1].Time,l[i - 1].Source,l[i - 1].Seq] [l[i].Time,l[i].Source,l[i].Seq]=M6 (Aa l[i - 1]) (Aa l[i]):=rfl;rw[hk]
   by_cases h2:0≤M6 (Aa l[i - 1]) (Aa l[i])
   ·rw[if_pos (show cmp .geq (M6 (Aa l[i - 1]) (Aa l[i])) 0=true by rw[Q8];exact decide_eq_true h2),if_pos (show 0<i∧0≤M6 (Aa l[i - 1]) (Aa l[i])from⟨h0,h2⟩)];rfl
   rw[if_neg (show¬(cmp .geq (M6 (Aa l[i - 1]) (Aa l[i])) 0=true) by rw[Q8];simpa using h2),if_neg (show¬(0<i∧0≤M6 (Aa l[i - 1]) (Aa l[i]))from fun h=>h2 h.2)];exact ht
  rw[if_neg (V5 (by omega)),if_neg (show¬(0<i∧0≤M6 (Aa ((l[i - 1]?).getD l[i])) (Aa l[i]))from fun h=>h0 h.1)];exact ht
theorem PG {l:List A4} (hl:l.length≤10) (h:Hf l=0):∀(d i:Nat),i+d+1<l.length→∀(h1:i<l.length) (h2:i+d+1<l.length),M6 (Aa l[i]) (Aa l[i+d+1])<0:=by
 have hc:∀i,i<l.length→Kd l i=0:=by
  unfold Hf at h
  rw[if_neg (by omega)]at h
  exact fun i hi=>BY.1 h i (List.mem_range.2 hi)
 have h1:∀i,∀(h2:i+1<l.length),M6 (Aa l[i]) (Aa l[i+1])<0:=fun i h2=>by
  have:=hc (i+1) h2
  unfold Kd at this
  rw[List.getElem?_eq_getElem h2]at this
  dsimp only at this
  split at this
  ·cases this
  split at this
  ·cases this
  rename_i hh
  have hi:i<l.length:=by omega
  simp only[Nat.add_sub_cancel,List.getElem?_eq_getElem hi,Option.getD_some,not_and]at hh
  have:=hh (by omega);omega
 intro d
 induction d with
 |zero=>intro i _ _ h2;exact h1 i h2
 |succ d ih=>
  intro i _ hi h2;exact Iw (ih i (by omega) hi (by omega)) (h1 (i+d+1) h2)
end
end Go.Ab
namespace Go.Ab
open Classical
noncomputable section
def V9 (l:List A4)(i:Int):Af:=match l[i.toNat]? with|some e=>⟨e.Time,e.Source,e.Seq⟩|none=>⟨0,0,0⟩
def S5 (l:List A4)(s:List PR):B6:=⟨s.map fun x=>⟨x.Var,V9 l x.At⟩⟩
theorem Tb (l:List A4)(s:List PR):(S5 l s).cR.length=s.length:=by simp[S5]
theorem ZP {l:List A4}{i:Int}(h0:0≤i)(h1:i<l.length):∃e,B9 l i=some e∧(⟨e.Time,e.Source,e.Seq⟩:Af)=V9 l i:=by
 obtain⟨i,rfl⟩:=Int.eq_ofNat_of_zero_le h0
 have hi:i<l.length:=by omega
 exact⟨l[i],Gb hi,by simp[V9,hi]⟩
theorem Pb {l:List A4} (hl:l.length≤10) (hc:Hf l=0) {i j:Int} (hi:0≤i∧i<l.length) (hj:0≤j∧j<l.length) (h:V9 l i=V9 l j):i=j:=by
 obtain⟨i,rfl⟩:=Int.eq_ofNat_of_zero_le hi.1;obtain⟨j,rfl⟩:=Int.eq_ofNat_of_zero_le hj.1
 have hi':i<l.length:=by omega
 have hj':j<l.length:=by omega
 have hk:Aa l[i]=Aa l[j]:=by
  simp only[V9,Int.toNat_natCast,List.getElem?_eq_getElem hi',List.getElem?_eq_getElem hj',Af.mk.injEq]at h
  simp[Aa,h.1,h.2.1,h.2.2]
 rcases Nat.lt_trichotomy i j with e|e|e
 ·obtain⟨d,rfl⟩:∃d,j=i+d+1:=⟨j - i - 1,by omega⟩;have:=PG hl hc d i hj' hi' hj'
  rw[hk,Ft]at this;omega
 ·omega
 obtain⟨d,rfl⟩:∃d,i=j+d+1:=⟨i - j - 1,by omega⟩;have:=PG hl hc d j hi' hj' hi'
 rw[hk,Ft]at this;omega
theorem Mo {l:List A4} (hl:l.length≤10) (hc:Hf l=0):∀{a b:List PR},Va l a→Va l b→(S5 l a).cR=(S5 l b).cR→a=b
 |[],[],_,_,_=>rfl
 |[],_::_,_,_,h=>by simp[S5]at h
 |_::_,[],_,_,h=>by simp[S5]at h
 | x::a,y::b,ha,hb,h=>by
  simp only[S5,List.map_cons,List.cons.injEq,D6.mk.injEq]at h
  have e:=Pb hl hc (ha x (by simp)).2 (hb y (by simp)).2 h.1.2
  have hxy:x=y:=by
   cases x;cases y
   simp only[M1.mk.injEq]at *
   exact⟨h.1.1,e⟩
  rw[hxy,Mo hl hc (fun z hz=>ha z (by simp[hz])) (fun z hz=>hb z (by simp[hz])) h.2]
theorem Rm :∀{a b:List D6},Ns a=Ns b→a=b
 |[],[],_=>rfl
 |[],_::_,h=>by simp[Ns,Ck]at h
 |_::_,[],h=>by simp[Ns,Ck]at h
 | x::a,y::b,h=>by
  simp only[Ns,List.flatMap_cons,Ck,List.cons_append,List.nil_append,List.cons.injEq]at h
  obtain⟨h1,h2,h3,h4,h5⟩:=h
  have hxy:x=y:=by
   obtain⟨v,t,s,q⟩:=x;obtain⟨v',t',s',q'⟩:=y
   simp only at h1 h2 h3 h4
   rw[h1,h2,h3,h4]
  rw[hxy,Rm h5]
theorem Lc {a b:List D6}(h:mO a b=0):a=b:=Rm (UH (by rw[←NZ];exact h))
theorem Ld (a:List D6):mO a a=0:=by rw[NZ,Ft]
theorem Tc (a b:List D6):mO b a= - mO a b:=by rw[NZ,NZ,Rj]
theorem Yi {a b c:List D6}(h1:mO a b<0)(h2:mO b c<0):mO a c<0:=by rw[NZ]at *;exact Iw h1 h2
def TV (r:List B6):Prop:=r.Pairwise fun a b=>mO a.cR b.cR<0
theorem Ai3 {N:Nat} (hN:40000000≤N) {L r:List B6} (hp:r.Perm L) (ha:TV r) (hb:∀x∈r,x.cR.length≤1000000) (hl:L.length≤1000000):Gg (fun y1 y2=>X3 N y1 y2) L=some r:=by
 refine Qs hp (BP.2 ⟨fun a h=>?_,?_⟩) (by omega)
 ·unfold Zt
  dsimp only
  rw[Pn hN (hb a h) (hb a h),Ld];rfl
 refine List.Pairwise.imp_of_mem (fun{x y} hx hy hlt=>?_) ha
 constructor
 ·unfold Po
  dsimp only
  rw[Pn hN (hb x hx) (hb y hy)];exact decide_eq_true hlt
 unfold Zt
 dsimp only
 rw[Pn hN (hb y hy) (hb x hx),Tc];exact decide_eq_true (by omega)
theorem MF {α:Type}{f:α→D6}:∀(s:List α) (m:B6),s.foldl (fun m x=>⟨m.cR++[f x]⟩) m=⟨m.cR++s.map f⟩
 |[],⟨a⟩=>by simp
 |x::s,m=>by rw[List.foldl_cons,MF s];simp
theorem Lu {α:Type}{l:List α}{k:Nat}(h:k≤l.length):Y2 l none (some (k:Int)) none=some (l.take k):=by
 unfold Y2;rw[if_pos (by simp;omega)];simp
theorem TB {α:Type}{l:List α}{k:Nat}(h:k≤l.length):Y2 l (some (k:Int)) none none=some (l.drop k):=by
 unfold Y2;rw[if_pos (by simp;omega)];simp only[Option.getD_some,Option.getD_none,Int.toNat_natCast];rw[List.take_of_length_le (by simp)]
end
end Go.Ab
namespace Go.Ab
open Classical
noncomputable section
theorem EQ (p:A1):(A1.pres p.cQ).length+1=p.pre.length:=by rw[A1.pre_eq p];simp
theorem Wy {N:Nat} (hN:40000000≤N):∀(n:Nat) (p:A1),p.pre.length≤n→p.pre.length≤16777216→T3 N n p=some (evs p:Int):=by
 intro n
 induction n with
 |zero=>intro p h;have:=EQ p;omega
 | succ n ih=>
  intro p h hb;have hp:=EQ p;have hal:=Dp p;unfold T3
  have h0:((if cmp .eql p.Op 0=true then some 1 else some 0:Option Int))=some (if p.Op=0 then 1 else 0):=by
   rw[C1]
   by_cases h:p.Op=0<;>simp[h]
  rw[h0];simp only[Option.bind_some];rw[I9 p.cQ (by omega) (mk:=fun(s:Int) i=>(s,i)) (body:=fun s q=>(T3 N n q).bind fun r=>some (.inl (ar .add .i64 s r))) (fin:=fun s=>s) (s:=if p.Op=0 then 1 else 0) (by omega) ?_ ?_]
  ·obtain⟨s',h1,q,h2,h3⟩:=Y5 (R:=Int) (step:=fun(s:Int) q=>(T3 N n q).bind fun r=>some (.inl (ar .add .i64 s r)))
    (fun r s=>∃q,q++r=p.cQ∧s=((if p.Op=0 then 1 else 0:Int)+((A1.pres q).countP fun y=>decide (y.Op=0):Nat))) (fun x r s ⟨q,e1,e2⟩=>by
     have hx:x∈p.cQ:=by rw[←e1];simp
     have hxl:=P2 hx
     have hq:(A1.pres q).length≤(A1.pres p.cQ).length:=by rw[←e1,Dk];simp
     have hc:=List.countP_le_length (p:=fun y:A1=>decide (y.Op=0)) (l:=A1.pres q);have hc2:=List.countP_le_length (p:=fun y:A1=>decide (y.Op=0)) (l:=x.pre);rw[ih x (by omega) (by omega)];refine⟨_,rfl,q++[x],by simpa using e1,?_⟩;have he:(evs x:Int)=((x.pre.countP fun y=>decide (y.Op=0):Nat):Int):=rfl;rw[e2,Dk,List.countP_append]
     have:A1.pres [x]=x.pre:=by simp[A1.pres]
     rw[this,he,C4 (by split<;>omega) (by split<;>omega)]
     omega) (l:=p.cQ) (s:=if p.Op=0 then 1 else 0) ⟨[],rfl,by simp[A1.pres]⟩
   rw[h1];simp only[Option.bind_some]
   rw[append_nil]at h2
   rw[h3,h2,FU]
   by_cases h:p.Op=0<;>simp[h]
  ·intro s i x hx hi;have e:ar .add .i64 (i:Int) 1=i+1:=C4 (by omega) (by omega);simp only[C0,B3,hi,decide_true,if_true,D7,hx,Option.bind_some,e];cases T3 N n x<;>rfl
  intro s;simp[C0,B3]
theorem QR (f:A1→Bool):∀r:List A1,(A1.pres r).any f=r.any fun x=>x.pre.any f
 |[]=>rfl
 |a::r=>by simp only[A1.pres,List.any_append,any_cons,QR f r]
theorem Ab8 {N:Nat} (hN:40000000≤N):∀(n:Nat) (p:A1),p.pre.length≤n→p.pre.length≤16777216→Y3 N n p=some (p.pre.any fun y=>decide (y.Op=4)):=by
 intro n
 induction n with
 |zero=>intro p h;have:=EQ p;omega
 | succ n ih=>
  intro p h hb;have hp:=EQ p;have hal:=Dp p;unfold Y3;rw[A1.pre_eq p,any_cons]
  by_cases h4:p.Op=4
  ·rw[if_pos (by rw[C1];exact decide_eq_true h4)];simp[h4]
  rw[if_neg (by rw[C1];simpa using h4)]
  rw [Fs (l:=p.cQ) (fun x=>x.pre.any fun y=>decide (y.Op=4)) (by omega) (by omega) (fun i x hx hi=>by
      have hm:=List.mem_of_getElem? hx;have hxl:=P2 hm;have e:ar .add .i64 (i:Int) 1=i+1:=C4 (by omega) (by omega);simp only[C0,B3,hi,decide_true,if_true,D7,hx,Option.bind_some,e,ih x (by omega) (by omega)]
      split<;>rfl) (by simp[C0,B3])]
  rw[QR];simp only[h4,decide_false,Bool.false_or]
  by_cases ha:(p.cQ.any fun x=>x.pre.any fun y=>decide (y.Op=4))=true
  ·rw[if_pos ha,ha];rfl
  rw[if_neg ha]
  rw[Bool.not_eq_true]at ha
  rw[ha];rfl
theorem QS {N:Nat} (hN:40000000≤N) {b n:Nat} (hb:b≤20000000) (hn:n≤20000000):∃r,BQ N (b:Int) (n:Int) 1500=some r∧(r≤1500→r=((b ^ n:Nat):Int)):=by
 unfold BQ
 have key:∀(k i M:Nat) (out:Int),i+k=n→k<M→out=((b ^ i:Nat):Int)→out≤30000000000→∃r,loopN
  (fun(s1:Int×Int)=>
   (
    if an (cmp .lss s1.2 (n:Int)) (cmp .leq s1.1 1500)=true then
     some (.inl (ar .mul .i64 s1.1 (b:Int),ar .add .i64 s1.2 1))
    else
     some (.inr s1.1)
    :Option ((Int×Int) ⊕ (Int))))
  M (out,(i:Int))=some r∧(r≤1500→r=((b ^ n:Nat):Int)):=by
  intro k
  induction k with
  |zero=>
   intro i M out hi hM ho _;obtain⟨M,rfl⟩:∃m,M=m+1:=⟨M - 1,by omega⟩;refine⟨out,?_,fun _=>by rw[ho,show i=n by omega]⟩;unfold loopN
   dsimp only
   rw[if_neg (by simp only[M8,C0];simp;omega)]
  | succ k ih=>
   intro i M out hi hM ho hs;obtain⟨M,rfl⟩:∃m,M=m+1:=⟨M - 1,by omega⟩
   have h0:0≤out:=by rw[ho];omega
   by_cases hle:out≤1500
   ·have hmul:out*(b:Int)≤1500*20000000:=Int.mul_le_mul hle (by omega) (by omega) (by omega);have hmul0:0≤out*(b:Int):=Int.mul_nonneg h0 (by omega);have em:ar .mul .i64 out (b:Int)=out*(b:Int):=CY (by omega) (by omega);have e:ar .add .i64 (i:Int) 1=i+1:=C4 (by omega) (by omega);obtain⟨r,h1,h2⟩:=ih (i+1) M (out*(b:Int)) (by omega) (by omega) (by rw[ho,Nat.pow_succ];simp) (by omega);refine⟨r,?_,h2⟩;unfold loopN
    dsimp only
    rw[if_pos (by simp only[M8,C0,DH];simp;omega),em,e,show((i:Int)+1)=((i+1:Nat):Int) by omega];exact h1
   refine⟨out,?_,fun h=>absurd h hle⟩;unfold loopN
   dsimp only
   rw[if_neg (by simp only[M8,C0,DH];simp;omega)]
 obtain⟨r,h1,h2⟩:=key n 0 N 1 (by omega) (by omega) (by simp) (by omega);have h0:((0:Nat):Int)=0:=rfl
 rw[h0]at h1
 exact⟨r,by rw[h1];rfl,h2⟩
theorem Xu {N:Nat} (hN:40000000≤N) {p:A1} (hb:p.bulk≤16777216) {l:List A4} (hlb:l.length≤16777216):∃b,Db N p l=some b∧(b=true→l.length≤10∧((evs p+1) ^ l.length≤1500∨(AU p∧l.length ^ evs p≤1500))):=by
 obtain⟨few,hf⟩:=few9 hN hb;have hpb:=DY p;have hev:evs p≤p.pre.length:=List.countP_le_length;unfold Db;rw[hf];simp only[Option.bind_some]
 by_cases h1:Ar.or (nt few) (cmp .gtr (Ar.len l) 10)=true
 ·rw[if_pos h1];exact⟨false,rfl,fun h=>by cases h⟩
 rw[if_neg h1]
 have hl:l.length≤10:=by
  simp only[Q3,Y6,Bh,B3]at h1
  simp at h1
  omega
 rw[Fs (l:=l) (fun x=>cmp .gtr (Ar.len x.Values) 9) (by omega) (by omega) (fun i x hx hi=>by
  have e:ar .add .i64 (i:Int) 1=i+1:=C4 (by omega) (by omega);rw[if_pos (T8 hi),D7,hx];simp only[Option.bind_some,e]
  split<;>rfl) (by rw[if_neg X4])]
 simp only[Option.bind_some]
 by_cases h2:(l.any fun x=>cmp .gtr (Ar.len x.Values) 9)=true
 ·rw[if_pos h2];exact⟨false,rfl,fun h=>by cases h⟩
 rw[if_neg h2]
 dsimp only
 rw[Wy hN N p (by omega) (by omega),Ab8 hN N p (by omega) (by omega)];simp only[Option.bind_some];obtain⟨r1,h3,h4⟩:=QS hN (b:=evs p+1) (n:=l.length) (by omega) (by omega);obtain⟨r2,h5,h6⟩:=QS hN (b:=l.length) (n:=evs p) (by omega) (by omega);rw[C4 (a:=(evs p:Int)) (by omega) (by omega),show((evs p:Int)+1)=((evs p+1:Nat):Int) by omega,B3,h3];simp only[Option.bind_some]
 by_cases h7:r1≤1500
 ·rw[if_pos (show cmp .leq r1 1500=true from decide_eq_true h7)];exact⟨true,rfl,fun _=>⟨hl,.inl (by have:=h4 h7;omega)⟩⟩
 rw[if_neg (show¬(cmp .leq r1 1500=true) by rw[DH];simpa using h7)]
 cases hp:p.pre.any fun y=>decide (y.Op=4)with
 |true=>
  rw[if_neg (show¬nt true=true by decide)];exact⟨false,rfl,fun h=>by cases h⟩
 | false=>
  rw[if_pos (show nt false=true from rfl),h5];refine⟨decide (r2≤1500),rfl,fun h=>⟨hl,.inr ⟨fun y hy e=>?_,?_⟩⟩⟩
  ·rw[List.any_eq_false]at hp
   exact hp y hy (decide_eq_true e)
  have h8:=of_decide_eq_true h;have:=h6 h8;omega
theorem Ai4 {p:A1}{l:List A4}(hp:p.pre.length≤64)(hs:(evs p+1) ^ l.length≤1500∨(AU p∧l.length ^ evs p≤1500)):NB l.length p:=by
 rcases hs with h|⟨h1,h2⟩
 ·exact .inl h
 by_cases h3:2≤l.length
 ·exact .inr ⟨h1,h3,h2⟩
 left
 have hev:evs p≤p.pre.length:=List.countP_le_length
 have:l.length=0∨l.length=1:=by omega
 rcases this with h|h<;>rw[h]<;>simp<;>omega
theorem Ye {p:A1}{l:List A4}(hp:p.pre.length≤64)(hl:l.length≤10):mu l p 0≤1000:=by
 unfold mu;have:=Nat.mul_le_mul hp (show l.length+2≤12 by omega);omega
theorem XP (l:List A4):OF l [] ((0:Nat):Int):=⟨Gd.nil l,fun _ h=>absurd h List.not_mem_nil,by omega,by omega⟩
theorem VL {N:Nat} (hN:40000000≤N) {r:List B6} (hr:r.length≤1000000) (hb:∀x∈r,x.cR.length≤1000000):CC N r r=some true:=by
 unfold CC;rw[if_neg (by rw[G9];simp)]
 rw [Fs (l:=r) (fun _=>false) (by omega) (by omega) (fun i x hx hi=>by
     have e:ar .add .i64 (i:Int) 1=i+1:=C4 (by omega) (by omega);have hm:=List.mem_of_getElem? hx;rw[if_pos (T8 hi),D7,hx];simp only[Option.bind_some];rw[Uk hN (hb x hm) (hb x hm),Ld];simp only[Option.bind_some,e]
     rfl) (by rw[if_neg X4])]
 simp
end
end Go.Ab
namespace Go.Ab
open Classical
noncomputable section
theorem Zd (L:List B6) (hn:L.Nodup):∃r:List B6,r.Perm L∧TV r:=by
 have hp:=List.mergeSort_perm L fun a b=>decide (mO a.cR b.cR≤0);refine⟨_,hp,?_⟩
 have h1:=List.pairwise_mergeSort (le:=fun a b:B6=>decide (mO a.cR b.cR≤0)) (fun a b c hab hbc=>by
  have hab:=of_decide_eq_true hab;have hbc:=of_decide_eq_true hbc;apply decide_eq_true
  by_cases e1:mO a.cR b.cR=0
  ·rw[Lc e1];exact hbc
  ·by_cases e2:mO b.cR c.cR=0
   ·rw[←Lc e2];exact hab
   have:=Yi (a:=a.cR) (b:=b.cR) (c:=c.cR) (by omega) (by omega)
   omega) (fun a b=>by
  have:=Tc a.cR b.cR
  by_cases h:mO a.cR b.cR≤0
  ·simp[h]
  have:mO b.cR a.cR≤0:=by omega
  simp[this]) L
 have h2:(L.mergeSort fun a b=>decide (mO a.cR b.cR≤0)).Nodup:=hp.nodup_iff.2 hn;refine(h1.and h2).imp fun{a b} h=>?_;have h3:=of_decide_eq_true h.1;have h4:mO a.cR b.cR≠0:=fun e=>h.2 (by cases a;cases b;have:=Lc e;dsimp only at this;rw[this]);omega
theorem ZU {N:Nat} (hN:40000000≤N) {p:A1} (hb:p.bulk≤16777216) {l:List A4} (hl:l.length≤10) (hs:(evs p+1) ^ l.length≤1500∨(AU p∧l.length ^ evs p≤1500)) (h1:Nx N p=0) (h2:Hf l=0):
 ∃r,I7 N p l=some (r,0)∧TV r∧(∃L:List (List PR),L.Nodup∧(∀s,s∈L↔Sm l p [] 0 s)∧r.Perm (L.map (S5 l)))∧(∀x∈r,x.cR.length≤10)∧r.length≤1500:=by
 unfold I7;rw[VT hN hb];simp only[Option.bind_some];rw[if_neg (P7 h1),ZK hN];simp only[Option.bind_some];rw[if_neg (P7 h2)];obtain⟨hw,hp⟩:=NH hN hb h1;have hsm:=Ai4 hp hs;have hmu:=Ye hp hl;obtain⟨L1,a1,a2,a3⟩:=VK hN hl 1000 p [] 0 N hmu (by omega) hp hw hsm (XP l);have hcL1:=Fc hw hsm (XP l) a2 fun s h=>(a3 s).1 h
 have b2:(L1.map G2).Nodup:=by
  rw[Nodup,List.pairwise_map];exact a2.imp fun hne e=>hne (Hr e)
 have b3:∀s,s∈L1.map G2↔Sm l p [] 0 s:=fun s=>by
  rw[List.mem_map]
  constructor
  ·rintro⟨t,ht,rfl⟩;exact(a3 t).1 ht
  intro h;exact⟨s.map IU,(a3 _).2 (by rw[O8];exact h),O8 s⟩
 have hres:∀s∈L1.map G2,PO l 0 s:=fun s h=>((b3 s).1 h).res hw (XP l)
 obtain⟨r,r3,r2⟩:=Zd ((L1.map G2).map (S5 l)) (by
  rw[Nodup,List.pairwise_map]
  exact List.Pairwise.imp_of_mem (fun{x y} hx hy hne e=>hne (Mo hl h2 (hres x hx).gd.wf (hres y hy).gd.wf (congrArg B6.cR e))) b2)
 have hrl:r.length≤1500:=by have:=r3.length_eq;simp only[List.length_map]at this;omega
 have hrb:∀x∈r,x.cR.length≤10:=fun x hx=>by
  obtain⟨t,ht,rfl⟩:=List.mem_map.1 (r3.mem_iff.1 hx);have:=(hres t ht).gd.len;rw[Tb];omega
 have h00:((0:Nat):Int)=0:=rfl
 rw[h00]at a1
 refine⟨r,?_,r2,⟨L1.map G2,b2,b3,r3⟩,hrb,hrl⟩;rw[a1];simp only[Option.bind_some]
 rw[(JU (L:=L1) (N:=N) (fun(m:List B6) i=>(i,m)) (fun m s=>m++[S5 l (G2 s)]) (fun m=>m) (fun i m=>m.length=i) (by omega) (by omega) rfl (fun m i s hs' hi hm e hl=>by
  have gs:=(((a3 s).1 hm).res hw (XP l)).gd;have hsl:=gs.len
  rw[List.length_map]at hsl
  rw[if_pos (T8 hi),D7,hs'];simp only[Option.bind_some]
  rw[(JU (L:=s) (N:=N) (fun(m:B6) i=>(i,m)) (fun m x=>⟨m.cR++[⟨x.cV,V9 l x.at_⟩]⟩) (fun m=>m) (fun i m=>m.cR.length=i) (by omega) (by omega) rfl (fun m i x hx hi hm e hl=>by
   have hw:=gs.wf (pr x) (List.mem_map.2 ⟨x,hm,rfl⟩);obtain⟨e',h1,h2⟩:=ZP (l:=l) (i:=x.at_) hw.2.1 hw.2.2;rw[if_pos (T8 hi),D7,hx];simp only[Option.bind_some];rw[h1];simp only[Option.bind_some,Av];rw[Ad (by simp;omega),e,h2]
   exact⟨rfl,by simp[hl]⟩) (fun m=>by dsimp only;rw[if_neg X4])).1,MF]
  simp only[Option.bind_some,List.nil_append];rw[Ad (by simp;omega),e];refine⟨?_,by simp[hl]⟩;simp only[Option.bind_some,S5,G2,List.map_map]
  rfl) (fun m=>by dsimp only;rw[if_neg X4])).1]
 have hf:∀(L:List (List BD)) (m:List B6),L.foldl (fun m s=>m++[S5 l (G2 s)]) m=m++L.map fun s=>S5 l (G2 s):=fun L=>by
  induction L with
  |nil=>intro m;simp
  |cons a L ih=>intro m;rw[List.foldl_cons,ih];simp
 rw[hf,List.nil_append];simp only[Option.bind_some];rw[Ai3 hN (r:=r) ?_ r2 (fun x hx=>by have:=hrb x hx;omega) (by simp;omega)]
 ·rfl
 rw[List.map_map]at r3
 exact r3
end
end Go.Ab
