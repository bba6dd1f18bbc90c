/- GHW8 GHW9 GHX0 GHX1 GHX2 GHX3 GHX5 GHJ1 GHJ2 GHJ3 GHJ4 GHJ5 -/
import Derived.Test.YtmfdlklcmoklhaaGreatDoorB18
set_option linter.all false
open List (Nodup)
open Go.Ab.Ar (an ar cmp nt)
namespace Go.Ab
open Classical
noncomputable section
section
variable {N:Nat}(hN:40000000≤N){l:List B3}(hl:l.length≤10)
include hN hl
theorem AE2 {k:Nat} (ih:IHk N l k) {p:A0} (hw:Pp p) (hp:p.pre.length≤64) (hs:TS l.length p) (h0:p.Op=2) {o:List BD} {f:Nat} (ho:TV l (L8 o) f) {n:Nat} (hmu:mu l p f≤k+1) (hn:8*k+15≤n):∃R,Ik N n ⟨l,false⟩ p o f=some R∧∀s,s∈R↔Sm l p (L8 o) f (L8 s):=by
 unfold Ik;rw[A1 (by omega),A1 (by omega),A2 h0];obtain⟨n,rfl⟩:∃m,n=m+2:=⟨n - 2,by omega⟩;unfold U0 Y7;have hal:=It p;refine Py ?_;refine ED (L:=p.dD) (u:=()) (Q:=fun q s=>Sm l q (L8 o) f (L8 s)) (by omega) ?_ ?_ rfl ?_
 ·intro i q hu hi hq;have:=Kp (l:=l) (f:=f) (g:=f) (Ag hq);obtain⟨L,h1,h2,h3⟩:=ih q o f n (by omega) (by omega) (by have:=Ag hq;omega) (hw.arg hq) (hs.arg hq) ho;have hc:=JH (hw.arg hq) (hs.arg hq) ho h2 fun s hs=>(h3 s).1 hs;have e:ar .add .i64 (i:Int) 1=i+1:=E9 (by omega) (by omega);rw[A2 (Bi hi),G2,hu];simp only[A4,e];rw[h1];simp only[A4];refine ED (L:=L) (u:=()) (Q:=fun x s=>s=x) (by omega) ?_ ?_ rfl ?_
  ·intro j u hu hj hm;have e:ar .add .i64 (j:Int) 1=j+1:=E9 (by omega) (by omega);rw[A2 (Bi hj),G2,hu];simp only[A4,e];exact JT fun s=>EO
  ·rw[A1 EG]
  intro s
  constructor
  ·rintro⟨x,hx,rfl⟩;exact(h3 _).1 hx
  intro h;exact⟨s,(h3 s).2 h,rfl⟩
 ·rw[A1 EG]
 intro s;exact(Sm.i2 h0).symm
theorem Ar3 {k:Nat} (ih:IHk N l k) {p:A0} (hw:Pp p) (hp:p.pre.length≤64) (hs:TS l.length p) (h0:5≤p.Op) {o:List BD} {f:Nat} (ho:TV l (L8 o) f) {n:Nat} (hmu:mu l p f≤k+1) (hn:8*k+15≤n):∃R,Ik N n ⟨l,false⟩ p o f=some R∧∀s,s∈R↔Sm l p (L8 o) f (L8 s):=by
 unfold Ik;rw[A1 (by omega),A1 (by omega),A1 (by omega),A1 (by omega),A1 (by omega)];obtain⟨n,rfl⟩:∃m,n=m+2:=⟨n - 2,by omega⟩;unfold J9 X3;obtain⟨q,ha⟩:=hw.self.a2 (by omega);have hop:=hw.self.op
 have hq:q∈p.dD:=by rw[ha];simp
 have:=Kp (l:=l) (f:=f) (g:=f) (Ag hq);obtain⟨L,h1,h2,h3⟩:=ih q o f n (by omega) (by omega) (by have:=Ag hq;omega) (hw.arg hq) (hs.arg hq) ho;have hc:=JH (hw.arg hq) (hs.arg hq) ho h2 fun s hs=>(h3 s).1 hs;refine Py ?_;rw[ha,OR];simp only[A4];rw[h1];simp only[A4];refine ED (L:=L) (u:=()) (Q:=fun x s=>Mc l p (L8 o) (L8 x)=true∧s=x) (by omega) ?_ ?_ rfl ?_
 ·intro j u hu hj hm;have ru:=((h3 u).1 hm).res (hw.arg hq) ho;have e:ar .add .i64 (j:Int) 1=j+1:=E9 (by omega) (by omega);rw[A2 (Bi hj),G2,hu];simp only[A4,e];rw[Al2 hN hl hw.self.cond ⟨h0,hop.2⟩ ho.gd ru.gd (fun e=>ru.ne (by rw[e];rfl)) (ho.apart ru)];simp only[A4]
  by_cases hk:Mc l p (L8 o) (L8 u)=true
  ·rw[A2 hk];exact JT fun s=>⟨fun e=>⟨hk,e⟩,fun e=>e.2⟩
  rw[A1 hk];exact⟨[],rfl,fun s=>⟨fun h=>absurd h EA,fun h=>absurd h.1 hk⟩⟩
 ·rw[A1 EG]
 intro s;rw[Sm.i5 h0 hop.2 ha]
 constructor
 ·rintro⟨x,hx,hk,rfl⟩;exact⟨(h3 _).1 hx,hk⟩
 rintro⟨h,hk⟩;exact⟨s,(h3 s).2 h,hk,rfl⟩
theorem Ar4 {k:Nat} (ih:IHk N l k) {p:A0} (hw:Pp p) (hp:p.pre.length≤64) (hs:TS l.length p) (h0:p.Op=4) {o:List BD} {f:Nat} (ho:TV l (L8 o) f) {n:Nat} (hmu:mu l p f≤k+1) (hn:8*k+15≤n):∃R,Ik N n ⟨l,false⟩ p o f=some R∧∀s,s∈R↔Sm l p (L8 o) f (L8 s):=by
 unfold Ik;rw[A1 (by omega),A1 (by omega),A1 (by omega),A1 (by omega),A2 h0];obtain⟨n,rfl⟩:∃m,n=m+2:=⟨n - 2,by omega⟩;unfold S2 X4;obtain⟨q,ha⟩:=hw.self.a2 (by omega)
 have hq:q∈p.dD:=by rw[ha];simp
 have m1:=Kp (l:=l) (f:=f) (g:=f) (Ag hq);obtain⟨L,h1,h2,h3⟩:=ih q o f n (by omega) (by omega) (by have:=Ag hq;omega) (hw.arg hq) (hs.arg hq) ho;have hc:=JH (hw.arg hq) (hs.arg hq) ho h2 fun s hs=>(h3 s).1 hs
 have hi:C5 p.dD 0=some q:=by rw[ha];rfl
 rw[hi];simp only[A4];rw[h1];simp only[A4];obtain⟨n,rfl⟩:∃m,n=m+2:=⟨n - 2,by omega⟩
 obtain⟨R,r1,r2⟩:=Ae0 hN hl (hw.arg hq) (hs.arg hq) ho (ih q o f n (by omega) (by omega) (by have:=Ag hq;omega) (hw.arg hq) (hs.arg hq) ho) (x5:=fun y1 y2=>N5 N (n+2) y1 y2 ⟨l,false⟩ p)
  (Qr:=fun u t=>Sm l p (mrg (L8 o) (L8 u)) (EH (L8 u)+1) (L8 t)) (fun u hu r9 e9=>by
   have ru:=hu.res (hw.arg hq) ho;obtain⟨g,hg,hgl,hfg⟩:=Ag4 ru ho.f0
   have ho':TV l (L8 r9) (g:Int):=by rw[e9,←hg];exact ho.next ru
   have m2:=AM4 (p:=p) (show f<g by omega) hgl;obtain⟨T,t1,t2,t3⟩:=ih p r9 g (n+1) (by omega) (by omega) hp hw hs ho';have hc:=JH hw hs ho' t2 fun s hs=>(t3 s).1 hs;refine⟨T,?_,by omega,fun t=>?_⟩
   ·unfold N5;rw[hg,t1];rfl
   rw[t3,e9,hg]) (fun u t hu ht=>ht.res hw (ho.next (hu.res (hw.arg hq) ho)))
 obtain ⟨W, w1,w2⟩:=Uz (L:=L) (N:=N) (A:=Unit⊕Unit) (u:=.inl ()) (Q:=fun x s=>s=x) (step:=fun(s3:Int)=>
         (
          if cmp .lss s3 (Ar.len L)=true then
           (C5 L s3).bind fun x9=>
           if(⟨l,false⟩:B7).full=true then
            some ([],.inr (.inr ()))
           else
            J2 (some ([x9],())) fun _=>
            some ([],.inl (ar .add .i64 s3 1))
          else
           some ([],.inr (.inl ()))
          :Option (List (List A3)×((Int)⊕(Unit⊕Unit))))) (by omega) (fun j u hu hj hm=>by
  have e:ar .add .i64 (j:Int) 1=j+1:=E9 (by omega) (by omega);rw[A2 (Bi hj),G2,hu];simp only[A4,e,F6,E4]
  exact JT fun s=>EO) (by rw[A1 EG])
 obtain ⟨V,v1,v2⟩:=Sq (L:=R) (R:=Unit) (Q:=fun x s=>s=x) (body:=fun(_:Unit) (y15:(List A3))=>
         (
          J2 (some ([y15],())) fun _=>
          some ([],.inl ())
          :Option (List (List A3)×(Unit⊕Unit)))) fun x hx=>JT fun s=>EO
 refine⟨W++(V++[]),?_,fun s=>?_⟩
 ·refine(J5 (fun m:Option (List (List BD)×Unit)=>m.bind fun q=>some q.1) (JJ (o:=()) (w':=V++[]) w1 ?_)).trans rfl
  dsimp only
  rw[r1];simp only[A4];exact JJ v1 rfl
 rw[F2,Az,w2,v2,Sm.i4 h0 ha];refine or_congr ?_ ?_
 ·constructor
  ·rintro⟨x,hx,rfl⟩;exact(h3 _).1 hx
  intro h;exact⟨s,(h3 s).2 h,rfl⟩
 constructor
 ·rintro⟨x,hx,rfl⟩;obtain⟨u,t,a,b,c⟩:=(r2 _).1 hx;exact⟨L8 u,L8 t,a,b,c⟩
 rintro⟨u,t,a,b,c⟩;exact⟨s,(r2 s).2 ⟨u.map Ov,t.map Ov,by rw[Y1];exact a,by simp only[Y1];exact b,by rw[Y1,Y1];exact c⟩,rfl⟩
def MxQ :List (List (List BD))→List PR→List PR→Prop
 |[],w,s=>s=w
 |L::r,w,s=>∃u∈L,FW w (L8 u)∧MxQ r (mrg w (L8 u)) s
omit hN hl in
theorem MxQ.snoc :∀{P:List (List (List BD))} {L:List (List BD)} {w s:List PR},MxQ (P++[L]) w s↔∃t,MxQ P w t∧∃u∈L,FW t (L8 u)∧s=mrg t (L8 u)
 |[],L,w,s=>by simp[MxQ]
 |M::P,L,w,s=>by
  show(∃u∈M,FW w (L8 u)∧MxQ (P++[L]) (mrg w (L8 u)) s)↔_
  constructor
  ·rintro⟨u,hu,ha,h⟩;obtain⟨t,ht,h⟩:=MxQ.snoc.1 h;exact⟨t,⟨u,hu,ha,ht⟩,h⟩
  rintro⟨t,⟨u,hu,ha,ht⟩,h⟩;exact⟨u,hu,ha,MxQ.snoc.2 ⟨t,ht,h⟩⟩
theorem XH {f:Int}:∀{P:List (List (List BD))} {w:List BD} {n:Nat},P.length<n→(∀L∈P,L.length≤4096∧∀u∈L,TU l f (L8 u))→Gd l (L8 w)→∃R,AC N n P w=some R∧∀s,s∈R↔MxQ P (L8 w) (L8 s)
 |[],w,n,hn,_,_=>by
  obtain⟨n,rfl⟩:∃m,n=m+1:=⟨n - 1,by omega⟩;unfold AC;refine⟨[w],by rw[A2 (show cmp .eql (Ar.len ([]:List (List (List BD)))) 0=true from rfl)];rfl,fun s=>?_⟩;rw[GO];exact⟨fun e=>by rw[e];rfl,fun e=>ME e⟩
 | L::P,w,n,hn,hP,gw=>by
  obtain⟨n,rfl⟩:∃m,n=m+1:=⟨n - 1,by omega⟩;unfold AC;have hwl:=gw.len
  rw[G5]at hwl
  obtain⟨hLl,hL⟩:=hP L (by simp);refine Py ?_;rw[A1 (by rw[C8,B5];simp;omega),OR];simp only[A4];refine ED (L:=L) (u:=()) (Q:=fun u s=>FW (L8 w) (L8 u)∧MxQ P (mrg (L8 w) (L8 u)) (L8 s)) (by omega) ?_ ?_ rfl ?_
  ·intro i u hu hi hm;have ru:=hL u hm;have hul:=ru.gd.len
   rw[G5]at hul
   have e:ar .add .i64 (i:Int) 1=i+1:=E9 (by omega) (by omega);rw[A2 (Bi hi),G2,hu];simp only[A4,e];rw[Ak8 hN (by omega) (by omega),RM];simp only[A4]
   by_cases ha:FW (L8 w) (L8 u)
   ·rw[Ut.2 ha,A2 (show nt false=true from rfl)];obtain⟨c,c1,c2⟩:=Rx (N:=N) (n:=l.length) (by omega) (by omega) (by omega) gw.asc ru.gd.asc ha gw.wf.ins ru.gd.wf.ins;obtain⟨R,r1,r2⟩:=XH (P:=P) (w:=c) (n:=n) (by simp at hn;omega) (fun L hL=>hP L (by simp[hL])) (by rw[c2];exact gw.mrg ru.gd ha);rw[c1];simp only[A4];rw[r1];refine⟨R++[],JJ rfl rfl,fun s=>?_⟩;rw[F2,r2,c2];exact⟨fun h=>⟨ha,h⟩,fun h=>h.2⟩
   have:PM (L8 w) (L8 u)=true:=by
    cases h:PM (L8 w) (L8 u)with
    |true=>rfl
    |false=>exact absurd (Ut.1 h) ha
   rw[this,A1 (show¬nt true=true by decide)];exact⟨[],rfl,fun s=>⟨fun h=>absurd h EA,fun h=>absurd h.1 ha⟩⟩
  ·rw[A1 EG]
  intro s
  constructor
  ·rintro⟨u,hu,ha,h⟩;exact⟨u,hu,ha,h⟩
  rintro⟨u,hu,ha,h⟩;exact⟨u,hu,ha,h⟩
omit hN hl in
theorem AV4 {G:A0→List (List BD)} {b:List PR} {f:Int}:∀(n:Nat) {r:List A0} {p:A0},r.length≤n→p.Op=3→p.dD=r→r≠[]→(∀q∈r,∀s,s∈G q↔Sm l q b f (L8 s))→∀s,MxQ (r.map G) [] s↔Sm l p b f s:=by
 intro n
 induction n with
 |zero=>intro r p hl _ _ hn;exact absurd (Dx (by omega)) hn
 | succ n ih=>
  intro r p hln h0 ha hn hG s
  rcases Dw r with rfl|⟨m,q,rfl⟩
  ·exact absurd rfl hn
  rw[Dv]at *
  rw[Z5,D8,H7,MxQ.snoc]
  by_cases hm:m=[]
  ·subst hm;rw[Sm.i3 h0 ha]
   constructor
   ·rintro⟨t,ht,u,hu,_,e⟩;have ht:t=[]:=ht;rw[e,ht,OJ];exact(hG q (by simp) u).1 hu
   intro h;refine⟨[],rfl,s.map Ov,(hG q (by simp) _).2 (by rw[Y1];exact h),fun x hx=>absurd hx EA,?_⟩;rw[Y1,OJ]
  rw[Sm.i3c h0 ha hm];have ih':=fun t=>ih (r:=m) (p:={p with dD:=m}) (by simp at hln;omega) h0 rfl hm (fun q hq=>hG q (by simp[hq])) t
  constructor
  ·rintro⟨t,ht,u,hu,hd,e⟩;exact⟨t,L8 u,(ih' t).1 ht,(hG q (by simp) u).1 hu,hd,e⟩
  rintro⟨t,u,ht,hu,hd,e⟩;exact⟨t,(ih' t).2 ht,u.map Ov,(hG q (by simp) _).2 (by rw[Y1];exact hu),by rw[Y1];exact hd,by rw[Y1];exact e⟩
theorem AE3 {k:Nat} (ih:IHk N l k) {p:A0} (hw:Pp p) (hp:p.pre.length≤64) (hs:TS l.length p) (h0:p.Op=3) {o:List BD} {f:Nat} (ho:TV l (L8 o) f) {n:Nat} (hmu:mu l p f≤k+1) (hn:8*k+15≤n):∃R,Ik N n ⟨l,false⟩ p o f=some R∧∀s,s∈R↔Sm l p (L8 o) f (L8 s):=by
 unfold Ik;rw[A1 (by omega),A1 (by omega),A1 (by omega),A2 h0];obtain⟨n,rfl⟩:∃m,n=m+2:=⟨n - 2,by omega⟩;unfold U1 Y8;have hal:=It p
 let G:A0→List (List BD):=fun q=>(E8 N n ⟨l,false⟩ q o f).getD []
 have hG:∀q∈p.dD,E8 N n ⟨l,false⟩ q o f=some (G q)∧(∀s,s∈G q↔Sm l q (L8 o) f (L8 s))∧(G q).length≤1500:=fun q hq=>by
  have:=Kp (l:=l) (f:=f) (g:=f) (Ag hq);obtain⟨L,h1,h2,h3⟩:=ih q o f n (by omega) (by omega) (by have:=Ag hq;omega) (hw.arg hq) (hs.arg hq) ho;have hc:=JH (hw.arg hq) (hs.arg hq) ho h2 fun s hs=>(h3 s).1 hs
  have e:G q=L:=by show(E8 N n ⟨l,false⟩ q o f).getD []=L;rw[h1];rfl
  exact⟨by rw[e];exact h1,by rw[e];exact h3,by rw[e];exact hc⟩
 have key:∀(k i M:Nat) (acc:List (List (List BD))),i+k=p.dD.length→k<M→acc.length≤i→W2 (fun(s1:(List (List (List A3)))×Int)=>
  (
   if cmp .lss s1.2 (Ar.len p.dD)=true then
    (C5 p.dD s1.2).bind fun x8=>
    (E8 N n ⟨l,false⟩ x8 o f).bind fun r9=>
    (N6 s1.1 ([r9])).bind fun l11=>
    some ([],.inl (l11,ar .add .i64 s1.2 1))
   else
    some ([],.inr s1.1)
   :Option (List (List A3)×(((List (List (List A3)))×Int)⊕(((List (List (List A3))))))))) M (acc,(i:Int))=some ([],acc++(p.dD.drop i).map G):=by
  intro k
  induction k with
  |zero=>
   intro i M acc hi hM _;obtain⟨M,rfl⟩:∃m,M=m+1:=⟨M - 1,by omega⟩;rw[CA (by omega)];unfold W2
   dsimp only
   rw[A1 (Cb (by rw[B5];omega))];simp
  |succ k ihk=>
   intro i M acc hi hM hacc;obtain⟨M,rfl⟩:∃m,M=m+1:=⟨M - 1,by omega⟩
   have hlt:i<p.dD.length:=by omega
   have e:ar .add .i64 (i:Int) 1=i+1:=E9 (by omega) (by omega);rw[R9 hlt];unfold W2
   dsimp only
   rw[A2 (Bi (by omega)),G2,E2 hlt];simp only[A4];rw[(hG _ (O9 hlt)).1];simp only[A4];rw[U8 (by simp;omega)];simp only[A4,e];rw[show((i:Int)+1)=((i+1:Nat):Int) by omega,ihk (i+1) M _ (by omega) (by omega) (by simp;omega),D8,D4];rfl
 have hk:=key p.dD.length 0 N [] (by omega) (by omega) (by simp)
 simp only[IG,J1]at hk
 have hk':((0:Nat):Int)=0:=rfl
 rw[hk']at hk
 obtain⟨R,r1,r2⟩:=XH hN hl (f:=f) (P:=p.dD.map G) (w:=[]) (n:=N) (by simp;omega) (fun L hL=>by
  obtain⟨q,hq,rfl⟩:=List.mem_map.1 hL;obtain⟨_,h2,h3⟩:=hG q hq
  exact⟨by omega,fun u hu=>((h2 u).1 hu).res (hw.arg hq) ho⟩) (Gd.nil l)
 refine Py ⟨[]++(R++[]),JJ hk ?_,fun s=>?_⟩
 ·rw[A2 (show nt (⟨l,false⟩:B7).full=true from rfl),r1];simp only[A4];exact JJ rfl rfl
 rw[J1,F2,r2];exact AV4 _ (C4 _) h0 rfl (hw.self.a1 (by omega) (by omega)) (fun q hq=>(hG q hq).2.1) _
theorem An2 :∀k,IHk N l k:=by
 intro k
 induction k with
 |zero=>
  intro p o f n hmu;exfalso;have h1:=A0.pre_eq p
  have:1≤p.pre.length:=by rw[h1];simp
  unfold mu at hmu
  have:=H5 (l.length+2) this;omega
 | succ k ih=>
  intro p o f n hmu hn hp hw hs ho;obtain⟨n,rfl⟩:∃m,n=m+1:=⟨n - 1,by omega⟩;have hop:=hw.self.op
  have hf:∃R,Ik N n ⟨l,false⟩ p o f=some R∧∀s,s∈R↔Sm l p (L8 o) f (L8 s):=by
   by_cases h0:p.Op=0
   ·exact ZZ hN hl hw h0 ho n
   by_cases h1:p.Op=1
   ·exact AE1 hN hl ih hw hp hs h1 ho hmu (by omega)
   by_cases h2:p.Op=2
   ·exact AE2 hN hl ih hw hp hs h2 ho hmu (by omega)
   by_cases h3:p.Op=3
   ·exact AE3 hN hl ih hw hp hs h3 ho hmu (by omega)
   by_cases h4:p.Op=4
   ·exact Ar4 hN hl ih hw hp hs h4 ho hmu (by omega)
   exact Ar3 hN hl ih hw hp hs (by omega) ho hmu (by omega)
  obtain⟨R,h1,h2⟩:=hf;exact AT5 hN hl hw hs ho h1 h2
end
end
end Go.Ab
namespace Go.Ab
open Classical
noncomputable section
def add1 (out:List (List PR))(s:List PR):List (List PR):=if s∈out then out else out++[s]
def Nd (P:List PR→Prop)(out:List (List PR)):Prop:=out.Nodup∧∀s∈out,P s
theorem Nd.nil (P:List PR→Prop):Nd P []:=⟨List.nodup_nil,fun _ h=>absurd h List.not_mem_nil⟩
theorem Nd.add {P:List PR→Prop}{out:List (List PR)}{s:List PR}(h:Nd P out)(hs:P s):Nd P (add1 out s):=by
 unfold add1
 split
 ·exact h
 rename_i hin;refine⟨List.nodup_append.2 ⟨h.1,by simp,fun a ha b hb e=>hin (by rw[←List.mem_singleton.1 hb,←e];exact ha)⟩,fun x hx=>?_⟩
 rcases List.mem_append.1 hx with hx|hx
 ·exact h.2 x hx
 rw[List.mem_singleton.1 hx];exact hs
def AS5 (r:Option (List (List PR)))(l:List B3)(p:A0)(b:List PR)(f:Int):Prop:=∃L,r=some L∧L.Nodup∧∀s,s∈L↔Sm l p b f s
theorem AS5.mk {x:Option (List (List PR))}{l:List B3}{p:A0}{b:List PR}{f:Int}(h:∃L,x=some L∧L.Nodup∧∀s,s∈L↔Sm l p b f s):AS5 (x.bind fun s=>some s) l p b f:=by
 obtain⟨L,rfl,h⟩:=h;exact⟨L,rfl,h⟩
section
variable {N:Nat}(hN:40000000≤N){l:List B3}(hl:l.length≤10)
include hN hl
end
end
end Go.Ab
namespace Go.Ab
open Classical
noncomputable section
def U9 :List Int→List Int→Int
 |[],[]=>0
 |[],_::_=> -1
 |_::_,[]=>1
 |x::a,y::b=>if x<y then -1 else if y<x then 1 else U9 a b
theorem JV :∀a:List Int,U9 a a=0
 |[]=>rfl
 |x::a=>by simp[U9,JV a]
theorem Ah0 :∀{a b:List Int},U9 a b=0→a=b
 |[],[],_=>rfl
 |[],_::_,h=>by simp[U9]at h
 |_::_,[],h=>by simp[U9]at h
 |x::a,y::b,h=>by
  unfold U9 at h
  split at h
  ·cases h
  split at h
  ·cases h
  rw[Ah0 h];congr 1;omega
theorem XP :∀a b:List Int,U9 b a= - U9 a b
 |[],[]=>rfl
 |[],_::_=>rfl
 |_::_,[]=>rfl
 |x::a,y::b=>by
  unfold U9;rw[XP a b]
  split<;>split<;>first|omega|rfl
theorem NM :∀{a b c:List Int},U9 a b<0→U9 b c<0→U9 a c<0
 |[],[],_,h,_=>by simp[U9]at h
 |_::_,[],_,h,_=>by simp[U9]at h
 |_,_::_,[],_,h=>by simp[U9]at h
 |[],_::_,_::_,_,_=>by simp[U9]
 | x::a,y::b,z::c,h1,h2=>by
  unfold U9 at h1 h2 ⊢
  by_cases h3:x<z
  ·rw[A2 h3];decide
  rw[A1 h3]
  by_cases h4:x<y
  ·by_cases h5:y<z
   ·omega
   rw[A1 h5]at h2
   have:z<y:=by omega
   rw[A2 this]at h2;cases h2
  rw[A1 h4]at h1
  by_cases h5:y<x
  ·rw[A2 h5]at h1;cases h1
  rw[A1 h5]at h1
  by_cases h6:y<z
  ·omega
  rw[A1 h6]at h2
  by_cases h7:z<y
  ·rw[A2 h7]at h2;cases h2
  rw[A1 h7]at h2
  rw[A1 (by omega)];exact NM h1 h2
def tri (a b:Int):Int:=if a<b then -1 else if b<a then 1 else 0
theorem Ka (N:Nat)(a b:Int):P2 N a b=some (tri a b):=by
 unfold P2 Eu tri;simp only[A4,H8,D1,CM,I6,W5,F6,E4,D9]
 split
 ·rfl
 split<;>rfl
theorem or_eq {N:Nat} (hN:40000000≤N) {l:List Int} (hl:l.length≤1000):EM N l=some (Av id l):=by
 unfold EM;rw[P6 l (by omega) (mk:=fun(_:Unit) i=>i) (body:=Ex fun x=>some x) (fin:=fun _=>.inl ()) (s:=()) (by omega) ?_ ?_]
 ·rw[CW (F:=fun x=>some x) (f:=id) fun x _=>rfl]
  by_cases h:Av id l=0
  ·rw[A2 h,h];rfl
  rw[A1 h];rfl
 ·intro s i x hx hi;have e:ar .add .i64 (i:Int) 1=i+1:=E9 (by omega) (by omega);simp only[D1,B5,hi,I6,C7,G2,hx,A4,e,Ex]
  split<;>rfl
 intro s;simp[D1,B5]
def TG (r:Kb):List Int:=[r.Time,r.Source,r.Seq]
def FA (x:G7):List Int:=[x.Ref.Time,x.Ref.Source,x.Ref.Seq,x.Var]
theorem lex3 (a1 a2 a3 b1 b2 b3:Int):U9 [a1,a2,a3] [b1,b2,b3]=Av id [tri a1 b1,tri a2 b2,tri a3 b3]:=by
 simp only[U9,Av,tri,id]
 repeat' split
 all_goals first|rfl|omega
theorem lex4 (a1 a2 a3 a4 b1 b2 b3 b4:Int):U9 [a1,a2,a3,a4] [b1,b2,b3,b4]=Av id [U9 [a1,a2,a3] [b1,b2,b3],tri a4 b4]:=by
 simp only[U9,Av,tri,id]
 repeat' split
 all_goals first|rfl|omega
theorem AJ6 {N:Nat}(hN:40000000≤N)(a b:Kb):Ie N a b=some (U9 (TG a) (TG b)):=by
 unfold Ie;rw[Ka,Ka,Ka];simp only[A4];rw[or_eq hN (by simp),TG,TG,lex3];rfl
theorem Xv (N:Nat)(a b:Kb):Fg N a b=some (U9 (TG a) (TG b)):=by
 unfold Fg TG;simp only[H8,D1,CM,U9,D9,Z7,Bd]
 repeat' split
 all_goals first|rfl|omega
theorem AE7 {N:Nat}(hN:40000000≤N)(a b:B3):Et N a b=some (U9 [a.Time,a.Source,a.Seq] [b.Time,b.Source,b.Seq]):=by
 unfold Et Gq;simp only[A4,Ka];rw[or_eq hN (by simp),←lex3];simp only[N7,C8,ET,F3,D9,A4]
 by_cases h:a.Time=b.Time∧a.Source=b.Source∧a.Seq=b.Seq
 ·rw[A2 h,h.1,h.2.1,h.2.2,JV]
 rw[A1 h]
theorem AF6 {N:Nat}(hN:40000000≤N)(a b:G7):Br N a b=some (U9 (FA a) (FA b)):=by
 unfold Br;rw[AJ6 hN,Ka];simp only[A4];rw[or_eq hN (by simp),FA,FA,lex4];rfl
theorem An6 (N:Nat) (a b:G7):GU N a b=some (U9 (FA a) (FA b)):=by
 unfold GU;rw[Xv,FA,FA,lex4];simp only[A4,Av,id,TG,H8,D1,CM,tri]
 by_cases h:U9 [a.Ref.Time,a.Ref.Source,a.Ref.Seq] [b.Ref.Time,b.Ref.Source,b.Ref.Seq]=0
 ·simp only[h,I6,W5,F6,E4,C7,D9]
  repeat' split
  all_goals first|rfl|omega
 simp[h]
def mO :List G7→List G7→Int
 |[],[]=>0
 |[],_::_=> -1
 |_::_,[]=>1
 |x::a,y::b=>if U9 (FA x) (FA y)≠0 then U9 (FA x) (FA y)else mO a b
def TH (m:List G7):List Int:=m.flatMap FA
theorem Ag9 :∀{a b:List Int} (c d:List Int),a.length=b.length→U9 (a++c) (b++d)=if U9 a b≠0 then U9 a b else U9 c d
 |[],[],c,d,_=>by simp[U9]
 |[],_::_,_,_,h=>by simp at h
 |_::_,[],_,_,h=>by simp at h
 |x::a,y::b,c,d,h=>by
  simp only[Cx,U9];have ih:=Ag9 (a:=a) (b:=b) c d (by simpa using h)
  by_cases h1:x<y
  ·simp[h1]
  by_cases h2:y<x
  ·simp[h1,h2]
  simp only[h1,h2,E4];exact ih
theorem Uu :∀a b:List G7,mO a b=U9 (TH a) (TH b)
 |[],[]=>rfl
 |[],y::b=>by simp[mO,TH,FA,U9]
 |x::a,[]=>by simp[mO,TH,FA,U9]
 |x::a,y::b=>by
  simp only[mO,TH,BL];rw[Ag9 _ _ (by simp[FA])];have:=Uu a b;rw[this];rfl
theorem Ag5 {N:Nat} {a b:List G7} {step:Int→Option (Int⊕(Unit⊕Int))} {k:Unit⊕Int→Option Int} (hN:a.length<N) (hl:a.length≤1000000)
 (hs:∀(i:Nat) (h1:i<a.length) (h2:i<b.length),step (i:Int)=if cmp .neq (U9 (FA a[i]) (FA b[i])) 0=true then some (.inr (.inr (U9 (FA a[i]) (FA b[i]))))else some (.inl (ar .add .i64 (i:Int) 1)))
 (he:∀i:Nat,i≤a.length→i≤b.length→i=a.length∨i=b.length→∃r,step (i:Int)=some (.inr r)∧k r=some (if a.length<b.length then -1 else if b.length<a.length then 1 else 0)) (hk:∀c,k (.inr c)=some c):(loopN step N 0).bind k=some (mO a b):=by
 have key:∀(d i N:Nat),i+d=a.length→d<N→i≤b.length→(loopN step N (i:Int)).bind k=some (mO (a.drop i) (b.drop i)):=by
  have hend:∀(i N:Nat),i≤a.length→i≤b.length→i=a.length∨i=b.length→(loopN step (N+1) (i:Int)).bind k=some (mO (a.drop i) (b.drop i)):=fun i N h1 h2 h=>by
   obtain⟨r,e1,e2⟩:=he i h1 h2 h;simp only[loopN,e1,A4,e2]
   by_cases ha:i<a.length
   ·rw[R9 ha,CA (show b.length≤i by omega),A1 (by omega),A2 (by omega)];rfl
   rw[CA (show a.length≤i by omega)]
   by_cases hb:i<b.length
   ·rw[R9 hb,A2 (by omega)];rfl
   rw[CA (show b.length≤i by omega),A1 (by omega),A1 (by omega)];rfl
  intro d
  induction d with
  |zero=>
   intro i N hi hN hb;obtain⟨N,rfl⟩:∃m,N=m+1:=⟨N - 1,by omega⟩;exact hend i N (by omega) hb (by omega)
  |succ d ih=>
   intro i N hi hN hb;obtain⟨N,rfl⟩:∃m,N=m+1:=⟨N - 1,by omega⟩
   by_cases h:i=b.length
   ·exact hend i N (by omega) hb (.inr h)
   have ha:i<a.length:=by omega
   have hb:i<b.length:=by omega
   rw[R9 ha,R9 hb,mO];unfold loopN;rw[hs i ha hb,E9 (by omega) (by omega)]
   by_cases hz:U9 (FA a[i]) (FA b[i])=0
   ·rw[A1 (show¬(cmp .neq (U9 (FA a[i]) (FA b[i])) 0=true)from T5 hz),A1 (by simpa using hz)];exact ih (i+1) N (by omega) (by omega) (by omega)
   rw[A2 (show cmp .neq (U9 (FA a[i]) (FA b[i])) 0=true from W0 hz),A2 hz];exact hk _
 simpa using key a.length 0 N (by omega) hN (by omega)
theorem VM {N:Nat} (hN:40000000≤N) {x y:G6} (hx:x.dF.length≤1000000) (hy:y.dF.length≤1000000):CX N x y=some (mO x.dF y.dF):=by
 obtain⟨a⟩:=x;obtain⟨b⟩:=y
 dsimp only at hx hy ⊢
 unfold CX J0
 dsimp only
 refine J5 (fun o:Option Int=>o.bind fun r1=>some r1) (Ag5 (a:=a) (b:=b) (by omega) hx (fun i h1 h2=>?_) (fun i h1 h2 h=>?_) fun _=>rfl)
 ·rw[A2 (Bi (by omega)),G2,E2 h1];simp only[A4];rw[A1 (by rw[R6,B5];simp;omega),G2,E2 h2];simp only[A4];rw[AF6 hN];rfl
 by_cases ha:i<a.length
 ·refine⟨.inr 1,?_,?_⟩
  ·rw[A2 (Bi (by omega)),G2,E2 ha];simp only[A4];rw[A2 (by rw[R6,B5];simp;omega)]
  rw[A1 (show¬a.length<b.length by omega),A2 (show b.length<a.length by omega)]
 refine⟨.inl (),by rw[A1 (Cb (by rw[B5];omega))],?_⟩
 dsimp only
 by_cases hb:a.length<b.length
 ·rw[A2 (Ez (by rw[B5,B5];omega)),A2 hb]
 rw[A1 (Cb (by rw[B5,B5];omega)),A1 hb,A1 (show¬b.length<a.length by omega)]
theorem VA {N:Nat}(hN:40000000≤N){x y:G6}(hx:x.dF.length≤1000000)(hy:y.dF.length≤1000000):AS N x y=some (mO x.dF y.dF):=by
 obtain⟨a⟩:=x;obtain⟨b⟩:=y
 dsimp only at hx hy ⊢
 unfold AS;refine Ag5 (a:=a) (b:=b) (by omega) hx (fun i h1 h2=>?_) (fun i h1 h2 h=>⟨.inl (),by rw[A1 (by simp only[N7,D1,B5];simp;omega)],?_⟩) fun _=>rfl
 ·rw[A2 (by simp only[N7,D1,B5];simp;omega),G2,E2 h1,G2,E2 h2];simp only[A4];rw[An6];rfl
 dsimp only
 by_cases hb:a.length<b.length
 ·rw[A2 (Ez (by rw[B5,B5];omega)),A2 hb]
 rw[A1 (Cb (by rw[B5,B5];omega)),A1 hb]
 by_cases hc:b.length<a.length
 ·rw[A2 (BX (by rw[B5,B5];omega)),A2 hc]
 rw[A1 (An (by rw[B5,B5];omega)),A1 hc]
end
end Go.Ab
namespace Go.Ab
open Classical
noncomputable section
def CJ (e:B3):List Int:=[e.Time,e.Source,e.Seq]
def MF (e:B3):Bool:=(an (an (an (an (an (cmp .geq e.Time 0) (cmp .leq e.Time 1099511627776)) (cmp .geq e.Source 0)) (cmp .lss e.Source 8)) (cmp .geq e.Seq 0)) (cmp .leq e.Seq 1099511627776))
def FQ (a b:B3):Bool:=decide (a.Source=b.Source)&&decide (a.Seq=b.Seq)
def Tn (l:List B3)(i:Nat):Int:=
 match l[i]? with
 |none=>0
 |some e=>if MF e=false then 2 else if 0<i∧0≤U9 (CJ ((l[i - 1]?).getD e)) (CJ e)then 14 else if(l.take i).any (fun x=>FQ x e)=true then 7 else 0
def TO (l:List B3):Int:=if 4096<l.length then 5 else Av (Tn l) (List.range l.length)
theorem Av7 {N : Nat} (hN:40000000≤N) {l:List B3} (hl:l.length≤4096) {i:Nat} (hi:i<l.length):(loopN
                    (fun(s10:Int)=>
                     (
                      if cmp .lss s10 (i:Int)=true then
                       (C5 l s10).bind fun x12=>
                       (Gg N x12 l[i]).bind fun r14=>
                       if r14=true then
                        some (.inr (.inr ()))
                       else
                        some (.inl (ar .add .i64 s10 1))
                      else
                       some (.inr (.inl ()))
                      :Option ((Int)⊕(Unit⊕Unit))))
                    N 0)=some (if(l.take i).any (fun x=>FQ x l[i])=true then .inr ()else .inl ()):=by
 have hlen:(l.take i).length=i:=by rw[GK];omega
 rw [Ux (l:=l.take i) (fun x=>FQ x l[i]) (by omega) (by omega) (fun j x hx hj=>by
     have hji:j<i:=by omega
     have e:ar .add .i64 (j:Int) 1=j+1:=E9 (by omega) (by omega)
     rw[List.getElem?_take_of_lt hji]at hx
     rw[A2 (Ez (by omega)),G2,hx];simp only[A4,e,Gg,C8,N7];unfold FQ
     split<;>rfl) (by rw[hlen,A1 (Cb (Int.lt_irrefl _))])]
theorem AK0 {N:Nat} (hN:40000000≤N) {l:List B3}:GY N l=some (TO l):=by
 unfold GY TO
 by_cases h1:4096<l.length
 ·rw[A2 (BX (by rw[B5];omega)),A2 h1]
 rw[A1 (An (by rw[B5];omega)),A1 h1];have hr:(List.range l.length).length=l.length:=Ds;rw[P6 (List.range l.length) (by omega) (mk:=fun(_:Unit) i=>i) (body:=Ex fun i=>some (Tn l i)) (fin:=fun _=>.inl ()) (s:=()) (by omega) ?_ ?_]
 ·rw[CW (F:=fun i=>some (Tn l i)) (f:=Tn l) fun x _=>rfl]
  by_cases h:Av (Tn l) (List.range l.length)=0
  ·rw[A2 h,h];rfl
  rw[A1 h];rfl
 ·intro s i x hx hi
  have hil:i<l.length:=by omega
  rw[EB hil]at hx
  cases hx;have e:ar .add .i64 (i:Int) 1=i+1:=E9 (by omega) (by omega);rw[A2 (Bi (by omega)),KB hil];simp only[A4];rw[Av7 hN (by omega) hil]
  have hbs:Tn l i=if MF l[i]=false then 2 else if 0<i∧0≤U9 (CJ ((l[i - 1]?).getD l[i])) (CJ l[i])then 14 else if(l.take i).any (fun x=>FQ x l[i])=true then 7 else 0:=by
   unfold Tn;rw[E2 hil]
  unfold Hx CV Ex;simp only[A4,e];rw[hbs];have hp:(an (an (an (an (an (cmp .geq l[i].Time 0) (cmp .leq l[i].Time 1099511627776)) (cmp .geq l[i].Source 0)) (cmp .lss l[i].Source 8)) (cmp .geq l[i].Seq 0)) (cmp .leq l[i].Seq 1099511627776))=MF l[i]:=rfl;rw[hp]
  cases MF l[i]with
  |false=>rfl
  | true=>
   rw[A1 (show¬(nt true=true) by decide),A1 (show¬(true=false) by decide)]
   by_cases h0:0<i
   ·rw[A2 (BX (by omega))]
    have e1:ar .sub .i64 (i:Int) 1=((i - 1:Nat):Int):=by rw[Kh (by omega) (by omega)];omega
    have hi1:i - 1<l.length:=by omega
    rw[e1,KB hi1,E2 hi1];simp only[A4,Xv,V8];have hk:U9 (TG ⟨l[i - 1].Time,l[i - 1].Source,l[i - 1].Seq⟩) (TG ⟨l[i].Time,l[i].Source,l[i].Seq⟩)=U9 (CJ l[i - 1]) (CJ l[i]):=rfl;rw[hk]
    by_cases h2:0≤U9 (CJ l[i - 1]) (CJ l[i])
    ·rw[A2 (show cmp .geq (U9 (CJ l[i - 1]) (CJ l[i])) 0=true by rw[R6];exact D5 h2),A2 (show 0<i∧0≤U9 (CJ l[i - 1]) (CJ l[i])from⟨h0,h2⟩)];rfl
    rw[A1 (show¬(cmp .geq (U9 (CJ l[i - 1]) (CJ l[i])) 0=true) by rw[R6];simpa using h2),A1 (show¬(0<i∧0≤U9 (CJ l[i - 1]) (CJ l[i]))from fun h=>h2 h.2)];cases(l.take i).any fun x=>FQ x l[i]<;>rfl
   rw[A1 (An (by omega)),A1 (show¬(0<i∧0≤U9 (CJ ((l[i - 1]?).getD l[i])) (CJ l[i]))from fun h=>h0 h.1)];cases(l.take i).any fun x=>FQ x l[i]<;>rfl
 intro s;rw[hr,A1 EG]
def Ii (p:List B3):List (G0×Bool):=p.map fun e=>(⟨e.Source,e.Seq⟩,true)
theorem Aq8 (p:List B3) (e:B3):∃b,NW (Ii p) ⟨e.Source,e.Seq⟩ false=some (p.any fun x=>FQ x e,b):=by
 unfold NW Ii
 induction p with
 |nil=>exact⟨false,by simp⟩
 | cons x p ih=>
  obtain⟨b,ih⟩:=ih;rw[D8,List.find?_cons,IB]
  by_cases h:(⟨x.Source,x.Seq⟩:G0)=⟨e.Source,e.Seq⟩
  ·have ht:FQ x e=true:=by
    simp only[G0.mk.injEq]at h
    simp[FQ,h.1,h.2]
   exact⟨true,by simp[h,ht]⟩
  have ht:FQ x e=false:=by
   simp only[G0.mk.injEq]at h
   simp only[FQ,Lt,Bd]
   by_cases h1:x.Source=e.Source
   ·exact .inr fun h2=>h ⟨h1,h2⟩
   exact .inl h1
  refine⟨b,?_⟩;simp only[h,ES,ht,Dz];exact ih
theorem An0 {p:List B3}{e:B3}(h:(p.any fun x=>FQ x e)=false):MS (Ii p) ⟨e.Source,e.Seq⟩ true=some (Ii (p++[e])):=by
 unfold MS;rw[A1]
 ·simp[Ii]
 intro c
 rw[Dr]at c
 obtain⟨q,hq,he⟩:=c
 simp only[Ii,BI]at hq
 obtain⟨x,hx,rfl⟩:=hq
 rw[Lf]at h
 refine h x hx ?_
 simp only[D9,G0.mk.injEq]at he
 simp[FQ,he.1,he.2]
theorem AB2 {B:Type} {N n:Nat} {M:Nat→B} {step:(Int×B)→Option ((Int×B)⊕(B⊕(Int×B)))} (f:Nat→Int) {k:B⊕(Int×B)→Option Int} (hN:n<N) (hn:n<1000000000)
 (hs:∀i:Nat,i<n→ar .add .i64 (i:Int) 1=i+1→step ((i:Int),M i)=some (if f i=0 then .inl ((i:Int)+1,M (i+1))else .inr (.inr (f i,M i)))) (he:step ((n:Int),M n)=some (.inr (.inl (M n)))) (h0:∀m,k (.inl m)=some 0) (h1:∀c m,k (.inr (c,m))=some c):(loopN step N (0,M 0)).bind k=some (Av f (List.range n)):=by
 have key:∀(d i N:Nat),i+d=n→d<N→(loopN step N ((i:Int),M i)).bind k=some (Av f (List.range' i d)):=by
  intro d
  induction d with
  |zero=>
   intro i N hi hN;obtain⟨N,rfl⟩:∃m,N=m+1:=⟨N - 1,by omega⟩;obtain rfl:i=n:=hi;simp only[loopN,he,A4,h0];rfl
  |succ d ih=>
   intro i N hi hN;obtain⟨N,rfl⟩:∃m,N=m+1:=⟨N - 1,by omega⟩;rw[EX]
   by_cases hf:f i=0
   ·simp only[loopN,hs i (by omega) (E9 (by omega) (by omega)),Av,hf,C7];exact ih (i+1) N (by omega) (by omega)
   simp only[loopN,hs i (by omega) (E9 (by omega) (by omega)),Av,hf,E4,A4,h1]
 rw[IU];exact key n 0 N (by omega) hN
theorem AJ4 {N:Nat} (hN:40000000≤N) {l:List B3}:Fq N l=some (TO l):=by
 unfold Fq TO
 by_cases h1:4096<l.length
 ·rw[A2 (BX (by rw[B5];omega)),A2 h1]
 rw[A1 (An (by rw[B5];omega)),A1 h1];refine AB2 (M:=fun i=>Ii (l.take i)) (Tn l) (by omega) (by omega) (fun i hil e=>?_) (by dsimp only;rw[A1 EG]) (fun _=>rfl) (fun _ _=>rfl);obtain⟨b,hb⟩:=Aq8 (l.take i) l[i];have hp:GB N l[i]=some (MF l[i]):=rfl;have hst:Gc N l[i]=some ⟨l[i].Source,l[i].Seq⟩:=rfl
 dsimp only
 rw[A2 (Bi (by omega)),KB hil];simp only[A4];unfold Tn;rw[hp,hst,E2 hil];simp only[A4,hb,e]
 cases MF l[i]with
 |false=>rfl
 | true=>
  rw[A1 (show¬(nt true=true) by decide),A1 (show¬(true=false) by decide)]
  have ht:(if(l.take i).any (fun x=>FQ x l[i])=true then some (.inr (.inr (7,Ii (l.take i))))else(MS (Ii (l.take i)) ⟨l[i].Source,l[i].Seq⟩ true).bind fun l15=>some (.inl ((i:Int)+1,l15)):Option ((Int×(List (G0×Bool)))⊕(((List (G0×Bool)))⊕(Int×(List (G0×Bool))))))=some (if(if(l.take i).any (fun x=>FQ x l[i])=true then(7:Int)else 0)=0 then .inl ((i:Int)+1,Ii (l.take (i+1)))else .inr (.inr (if(l.take i).any (fun x=>FQ x l[i])=true then(7:Int)else 0,Ii (l.take i)))):=by
   by_cases h7:(l.take i).any (fun x=>FQ x l[i])=true
   ·simp only[h7,C7];rfl
   rw[A1 h7,A1 h7,An0 (by simpa using h7),Kc hil];rfl
  by_cases h0:0<i
  ·have hi1:i - 1<l.length:=by omega
   rw[A2 (BX (by omega)),show ar .sub .i64 (i:Int) 1=((i - 1:Nat):Int) by rw[Kh (by omega) (by omega)];omega,KB hi1,E2 hi1];simp only[A4,AE7 hN,V8];have hk:U9 [l[i - 1].Time,l[i - 1].Source,l[i - 1].Seq] [l[i].Time,l[i].Source,l[i].Seq]=U9 (CJ l[i - 1]) (CJ l[i]):=rfl;rw[hk]
   by_cases h2:0≤U9 (CJ l[i - 1]) (CJ l[i])
   ·rw[A2 (show cmp .geq (U9 (CJ l[i - 1]) (CJ l[i])) 0=true by rw[R6];exact D5 h2),A2 (show 0<i∧0≤U9 (CJ l[i - 1]) (CJ l[i])from⟨h0,h2⟩)];rfl
   rw[A1 (show¬(cmp .geq (U9 (CJ l[i - 1]) (CJ l[i])) 0=true) by rw[R6];simpa using h2),A1 (show¬(0<i∧0≤U9 (CJ l[i - 1]) (CJ l[i]))from fun h=>h2 h.2)];exact ht
  rw[A1 (An (by omega)),A1 (show¬(0<i∧0≤U9 (CJ ((l[i - 1]?).getD l[i])) (CJ l[i]))from fun h=>h0 h.1)];exact ht
theorem Aj1 {l:List B3} (hl:l.length≤10) (h:TO l=0):∀(d i:Nat),i+d+1<l.length→∀(h1:i<l.length) (h2:i+d+1<l.length),U9 (CJ l[i]) (CJ l[i+d+1])<0:=by
 have hc:∀i,i<l.length→Tn l i=0:=by
  unfold TO at h
  rw[A1 (by omega)]at h
  exact fun i hi=>Fk.1 h i (List.mem_range.2 hi)
 have h1:∀i,∀(h2:i+1<l.length),U9 (CJ l[i]) (CJ l[i+1])<0:=fun i h2=>by
  have:=hc (i+1) h2
  unfold Tn at this
  rw[E2 h2]at this
  dsimp only at this
  split at this
  ·cases this
  split at this
  ·cases this
  rename_i hh
  have hi:i<l.length:=by omega
  simp only[Nat.add_sub_cancel,E2 hi,V8,not_and]at hh
  have:=hh (by omega);omega
 intro d
 induction d with
 |zero=>intro i _ _ h2;exact h1 i h2
 |succ d ih=>
  intro i _ hi h2;exact NM (ih i (by omega) hi (by omega)) (h1 (i+d+1) h2)
end
end Go.Ab
namespace Go.Ab
open Classical
noncomputable section
def Sg (l:List B3)(i:Int):Kb:=match l[i.toNat]? with|some e=>⟨e.Time,e.Source,e.Seq⟩|none=>⟨0,0,0⟩
def Fz (l:List B3)(s:List PR):G6:=⟨s.map fun x=>⟨x.Var,Sg l x.At⟩⟩
theorem ZJ (l:List B3)(s:List PR):(Fz l s).dF.length=s.length:=by simp[Fz]
theorem AJ8 {l:List B3}{i:Int}(h0:0≤i)(h1:i<l.length):∃e,C5 l i=some e∧(⟨e.Time,e.Source,e.Seq⟩:Kb)=Sg l i:=by
 obtain⟨i,rfl⟩:=BN h0
 have hi:i<l.length:=by omega
 exact⟨l[i],KB hi,by simp[Sg,hi]⟩
theorem AJ7 {l:List B3} (hl:l.length≤10) (hc:TO l=0) {i j:Int} (hi:0≤i∧i<l.length) (hj:0≤j∧j<l.length) (h:Sg l i=Sg l j):i=j:=by
 obtain⟨i,rfl⟩:=BN hi.1;obtain⟨j,rfl⟩:=BN hj.1
 have hi':i<l.length:=by omega
 have hj':j<l.length:=by omega
 have hk:CJ l[i]=CJ l[j]:=by
  simp only[Sg,Z8,E2 hi',E2 hj',Kb.mk.injEq]at h
  simp[CJ,h.1,h.2.1,h.2.2]
 rcases Lh i j with e|e|e
 ·obtain⟨d,rfl⟩:∃d,j=i+d+1:=⟨j - i - 1,by omega⟩;have:=Aj1 hl hc d i hj' hi' hj'
  rw[hk,JV]at this;omega
 ·omega
 obtain⟨d,rfl⟩:∃d,i=j+d+1:=⟨i - j - 1,by omega⟩;have:=Aj1 hl hc d j hi' hj' hi'
 rw[hk,JV]at this;omega
theorem SC {l:List B3} (hl:l.length≤10) (hc:TO l=0):∀{a b:List PR},WfS l a→WfS l b→(Fz l a).dF=(Fz l b).dF→a=b
 |[],[],_,_,_=>rfl
 |[],_::_,_,_,h=>by simp[Fz]at h
 |_::_,[],_,_,h=>by simp[Fz]at h
 | x::a,y::b,ha,hb,h=>by
  simp only[Fz,D8,T6,G7.mk.injEq]at h
  have e:=AJ7 hl hc (ha x (by simp)).2 (hb y (by simp)).2 h.1.2
  have hxy:x=y:=by
   cases x;cases y
   simp only[Eg.mk.injEq]at *
   exact⟨h.1.1,e⟩
  rw[hxy,SC hl hc (fun z hz=>ha z (by simp[hz])) (fun z hz=>hb z (by simp[hz])) h.2]
theorem XS :∀{a b:List G7},TH a=TH b→a=b
 |[],[],_=>rfl
 |[],_::_,h=>by simp[TH,FA]at h
 |_::_,[],h=>by simp[TH,FA]at h
 | x::a,y::b,h=>by
  simp only[TH,BL,FA,Cx,J1,T6]at h
  obtain⟨h1,h2,h3,h4,h5⟩:=h
  have hxy:x=y:=by
   obtain⟨v,t,s,q⟩:=x;obtain⟨v',t',s',q'⟩:=y
   simp only at h1 h2 h3 h4
   rw[h1,h2,h3,h4]
  rw[hxy,XS h5]
theorem Rt {a b:List G7}(h:mO a b=0):a=b:=XS (Ah0 (by rw[←Uu];exact h))
theorem Ru (a:List G7):mO a a=0:=by rw[Uu,JV]
theorem ZK (a b:List G7):mO b a= - mO a b:=by rw[Uu,Uu,XP]
theorem OK {a b c:List G7}(h1:mO a b<0)(h2:mO b c<0):mO a c<0:=by rw[Uu]at *;exact NM h1 h2
def Ps (r:List G6):Prop:=r.Pairwise fun a b=>mO a.dF b.dF<0
theorem AT6 {N:Nat} (hN:40000000≤N) {L r:List G6} (hp:r.Perm L) (ha:Ps r) (hb:∀x∈r,x.dF.length≤1000000) (hl:L.length≤1000000):LG (fun y1 y2=>CX N y1 y2) L=some r:=by
 refine WL hp (Fa.2 ⟨fun a h=>?_,?_⟩) (by omega)
 ·unfold geC
  dsimp only
  rw[VM hN (hb a h) (hb a h),Ru];rfl
 refine Lx (fun{x y} hx hy hlt=>?_) ha
 constructor
 ·unfold Uv
  dsimp only
  rw[VM hN (hb x hx) (hb y hy)];exact D5 hlt
 unfold geC
 dsimp only
 rw[VM hN (hb y hy) (hb x hx),ZK];exact D5 (by omega)
theorem ST {α:Type}{f:α→G7}:∀(s:List α) (m:G6),s.foldl (fun m x=>⟨m.dF++[f x]⟩) m=⟨m.dF++s.map f⟩
 |[],⟨a⟩=>by simp
 |x::s,m=>by rw[EV,ST s];simp
theorem Za {α:Type}{l:List α}{k:Nat}(h:k≤l.length):Bg l none (some (k:Int)) none=some (l.take k):=by
 unfold Bg;rw[A2 (by simp;omega)];simp
theorem Aa7 {α:Type}{l:List α}{k:Nat}(h:k≤l.length):Bg l (some (k:Int)) none none=some (l.drop k):=by
 unfold Bg;rw[A2 (by simp;omega)];simp only[V8,IK,Z8];rw[T8 (by simp)]
end
end Go.Ab
namespace Go.Ab
open Classical
noncomputable section
theorem AT7 {p:A0}{l:List B3}(hp:p.pre.length≤64)(hs:(Mn p+1) ^ l.length≤1500∨(Hn p∧l.length ^ Mn p≤1500)):TS l.length p:=by
 rcases hs with h|⟨h1,h2⟩
 ·exact .inl h
 by_cases h3:2≤l.length
 ·exact .inr ⟨h1,h3,h2⟩
 left
 have hev:Mn p≤p.pre.length:=Qj
 have:l.length=0∨l.length=1:=by omega
 rcases this with h|h<;>rw[h]<;>simp<;>omega
theorem AA7 {p:A0}{l:List B3}(hp:p.pre.length≤64)(hl:l.length≤10):mu l p 0≤1000:=by
 unfold mu;have:=Ba hp (show l.length+2≤12 by omega);omega
theorem AL2 (l:List B3):TV l [] ((0:Nat):Int):=⟨Gd.nil l,fun _ h=>absurd h EA,by omega,by omega⟩
theorem An3 {N:Nat} (hN:40000000≤N) {r:List G6} (hr:r.length≤1000000) (hb:∀x∈r,x.dF.length≤1000000):HR N r r=some true:=by
 unfold HR;rw[A1 (by rw[H8];simp)]
 rw [Ux (l:=r) (fun _=>false) (by omega) (by omega) (fun i x hx hi=>by
     have e:ar .add .i64 (i:Int) 1=i+1:=E9 (by omega) (by omega);have hm:=EC hx;rw[A2 (Bi hi),G2,hx];simp only[A4];rw[VA hN (hb x hm) (hb x hm),Ru];simp only[A4,e]
     rfl) (by rw[A1 EG])]
 simp
end
end Go.Ab
namespace Go.Ab
open Classical
noncomputable section
theorem AF9 (L:List G6) (hn:L.Nodup):∃r:List G6,r.Perm L∧Ps r:=by
 have hp:=List.mergeSort_perm L fun a b=>decide (mO a.dF b.dF≤0);refine⟨_,hp,?_⟩
 have h1:=Qo (le:=fun a b:G6=>decide (mO a.dF b.dF≤0)) (fun a b c hab hbc=>by
  have hab:=Le hab;have hbc:=Le hbc;apply D5
  by_cases e1:mO a.dF b.dF=0
  ·rw[Rt e1];exact hbc
  ·by_cases e2:mO b.dF c.dF=0
   ·rw[←Rt e2];exact hab
   have:=OK (a:=a.dF) (b:=b.dF) (c:=c.dF) (by omega) (by omega)
   omega) (fun a b=>by
  have:=ZK a.dF b.dF
  by_cases h:mO a.dF b.dF≤0
  ·simp[h]
  have:mO b.dF a.dF≤0:=by omega
  simp[this]) L
 have h2:(L.mergeSort fun a b=>decide (mO a.dF b.dF≤0)).Nodup:=hp.nodup_iff.2 hn;refine(h1.and h2).imp fun{a b} h=>?_;have h3:=Le h.1;have h4:mO a.dF b.dF≠0:=fun e=>h.2 (by cases a;cases b;have:=Rt e;dsimp only at this;rw[this]);omega
theorem AK9 {N:Nat} (hN:40000000≤N) {p:A0} (hb:p.bulk≤16777216) {l:List B3} (hl:l.length≤10) (hs:(Mn p+1) ^ l.length≤1500∨(Hn p∧l.length ^ Mn p≤1500)) (h1:Wf N p=0) (h2:TO l=0):
 ∃r,Bw N p l=some (r,0)∧Ps r∧(∃L:List (List PR),L.Nodup∧(∀s,s∈L↔Sm l p [] 0 s)∧r.Perm (L.map (Fz l)))∧(∀x∈r,x.dF.length≤10)∧r.length≤1500:=by
 unfold Bw;rw[Ur hN hb];simp only[A4];rw[A1 (T5 h1),AJ4 hN];simp only[A4];rw[A1 (T5 h2)];obtain⟨hw,hp⟩:=Ub hN hb h1;have hsm:=AT7 hp hs;have hmu:=AA7 hp hl;obtain⟨L1,a1,a2,a3⟩:=An2 hN hl 1000 p [] 0 N hmu (by omega) hp hw hsm (AL2 l);have hcL1:=JH hw hsm (AL2 l) a2 fun s h=>(a3 s).1 h
 have b2:(L1.map L8).Nodup:=by
  rw[Nodup,GM];exact a2.imp fun hne e=>hne (ME e)
 have b3:∀s,s∈L1.map L8↔Sm l p [] 0 s:=fun s=>by
  rw[BI]
  constructor
  ·rintro⟨t,ht,rfl⟩;exact(a3 t).1 ht
  intro h;exact⟨s.map Ov,(a3 _).2 (by rw[Y1];exact h),Y1 s⟩
 have hres:∀s∈L1.map L8,TU l 0 s:=fun s h=>((b3 s).1 h).res hw (AL2 l)
 obtain⟨r,r3,r2⟩:=AF9 ((L1.map L8).map (Fz l)) (by
  rw[Nodup,GM]
  exact Lx (fun{x y} hx hy hne e=>hne (SC hl h2 (hres x hx).gd.wf (hres y hy).gd.wf (J5 G6.dF e))) b2)
 have hrl:r.length≤1500:=by have:=r3.length_eq;simp only[G5]at this;omega
 have hrb:∀x∈r,x.dF.length≤10:=fun x hx=>by
  obtain⟨t,ht,rfl⟩:=List.mem_map.1 (r3.mem_iff.1 hx);have:=(hres t ht).gd.len;rw[ZJ];omega
 have h00:((0:Nat):Int)=0:=rfl
 rw[h00]at a1
 refine⟨r,?_,r2,⟨L1.map L8,b2,b3,r3⟩,hrb,hrl⟩;rw[a1];simp only[A4]
 rw[(Uw (L:=L1) (N:=N) (fun(m:List G6) i=>(i,m)) (fun m s=>m++[Fz l (L8 s)]) (fun m=>m) (fun i m=>m.length=i) (by omega) (by omega) rfl (fun m i s hs' hi hm e hl=>by
  have gs:=(((a3 s).1 hm).res hw (AL2 l)).gd;have hsl:=gs.len
  rw[G5]at hsl
  rw[A2 (Bi hi),G2,hs'];simp only[A4]
  rw[(Uw (L:=s) (N:=N) (fun(m:G6) i=>(i,m)) (fun m x=>⟨m.dF++[⟨x.dI,Sg l x.at_⟩]⟩) (fun m=>m) (fun i m=>m.dF.length=i) (by omega) (by omega) rfl (fun m i x hx hi hm e hl=>by
   have hw:=gs.wf (pr x) (List.mem_map.2 ⟨x,hm,rfl⟩);obtain⟨e',h1,h2⟩:=AJ8 (l:=l) (i:=x.at_) hw.2.1 hw.2.2;rw[A2 (Bi hi),G2,hx];simp only[A4];rw[h1];simp only[A4,Gq];rw[U8 (by simp;omega),e,h2]
   exact⟨rfl,by simp[hl]⟩) (fun m=>by dsimp only;rw[A1 EG])).1,ST]
  simp only[A4,J1];rw[U8 (by simp;omega),e];refine⟨?_,by simp[hl]⟩;simp only[A4,Fz,L8,Co]
  rfl) (fun m=>by dsimp only;rw[A1 EG])).1]
 have hf:∀(L:List (List BD)) (m:List G6),L.foldl (fun m s=>m++[Fz l (L8 s)]) m=m++L.map fun s=>Fz l (L8 s):=fun L=>by
  induction L with
  |nil=>intro m;simp
  |cons a L ih=>intro m;rw[EV,ih];simp
 rw[hf,J1];simp only[A4];rw[AT6 hN (r:=r) ?_ r2 (fun x hx=>by have:=hrb x hx;omega) (by simp;omega)]
 ·rfl
 rw[Co]at r3
 exact r3
end
end Go.Ab
namespace Go.Ab
open Classical
noncomputable section
theorem YW {N:Nat} (hN:40000000≤N) {x:A0} (hb:x.bulk≤16777216) (h:Wf N x=0):∀y∈x.pre,(y.Op=3→2≤y.dD.length)∧(y.Op=6→0≤y.Span):=by
 unfold Wf at h
 by_cases hr:N8 N x=0
 ·obtain⟨hp,hd,hg⟩:=JQ hr;intro y hy;have h1:=Kq x y hy;have h2:=It y
  have hyb:y.bulk≤16777216:=by omega
  have hyl:y.dD.length≤64:=by omega
  obtain⟨ho,s,ng,hs,hc⟩:=NI hN hyb hyl (hg y hy);have hz:=Ui hN N y.dE (⟨0,[],0,0,0,(⟨0,0,⟨#[]⟩⟩:A7)⟩:B0) (by omega) (by omega);have h1:=Gs hN (by omega) ho.1 ho.2 hs hz
  rw[(Gl hN hyb hyl).2,hg y hy]at h1
  have h1:=AA h1;have ht:=hs.tab
  by_cases har:s.dK≤y.dD.length∧(y.dD.length:Int)≤s.most
  ·rw[A2 har]at h1
   unfold LU at h1
   constructor
   ·intro h3
    rw[h3]at ht
    have hm:s.dK=2:=by cases ht;rfl
    omega
   intro h6
   rw[h6]at ht
   have hm:s.span=true:=by cases ht;rfl
   by_cases e1:EN s.typed y.Typ 15=true
   ·rw[A2 e1]at h1;cases h1
   rw[A1 e1]at h1
   by_cases e2:EN s.typed y.Var 15=true
   ·rw[A2 e2]at h1;cases h1
   rw[A1 e2]at h1
   by_cases e3:EN s.scope y.dG 63=true
   ·rw[A2 e3]at h1;cases h1
   rw[A1 e3]at h1
   by_cases e4:EN s.span y.Span 1099511627776=true
   ·rw[A2 e4]at h1;cases h1
   rw[hm]at e4
   unfold EN at e4
   simp at e4
   omega
  rw[A1 har]at h1;cases h1
 rw[A2 (show N8 N x≠0 from hr)]at h;exact absurd h hr
end
end Go.Ab
namespace Go.Ab
open Classical
noncomputable section
def chkO (l:List B3)(s:List PR)(c:B0):Bool:=BP (JF l s l.length) (-1) ⟨0,0,0,0,[]⟩ c
def okE (l:List B3)(e:D7):Bool:=match l[0]? with|some x=>decide (x.Typ=e.Typ)&&BP (JF l [] 0) e.Var x e.dE|none=>false
def Hit (l:List B3)(y:Pr)(s:List PR):Prop:=y.2.done=true∧s=[⟨y.1.Var,0⟩]∧okE l y.1=true∧∀c∈y.1.dH,chkO l s c=true
theorem Ae7 {l:List B3} (hl:l.length=1) {s:List PR} (h:TU l 0 s):∃v,s=[⟨v,0⟩]:=by
 have h1:=h.gd.len;have h2:=List.length_pos_iff.2 h.ne
 match s,h1,h2 with
 |[x],_,_=>
  have h3:=(h.gd.wf x (by simp)).2;obtain⟨v,a⟩:=x;refine⟨v,?_⟩
  have:a=0:=by simp only at h3;omega
  rw[this]
 |x::y::r,h1,_=>simp at h1;omega
theorem Af5 {l:List B3}(hl:l.length=1){f:Int}(hf:1≤f){s:List PR}(h:TU l f s):False:=by
 obtain⟨x,r,rfl⟩:=List.exists_cons_of_ne_nil h.ne;have h1:=(h.gd.wf x (by simp)).2;have h2:=h.ge x (by simp);omega
theorem AL1 (l:List B3):TV l [] 0:=⟨Gd.nil l,fun _ h=>absurd h EA,by omega,by omega⟩
theorem Ms (r:A6) (more:List A0):(KO r more).done=true↔r.done=true∧more=[]:=by
 unfold KO
 by_cases h:r.done=true
 ·rw[A2 h]
  cases more with
  |nil=>simp[Ym,h]
  |cons a m=>simp[h]
 rw[A1 h];simp[h]
theorem MN {q:A0}{r:List A0}:((q::r).map raw).headD []=raw q:=rfl
theorem Vk {l:List B3} (hl:l.length=1):∀(d:Nat) (p:A0),p.dep≤d→Pp p→(∀y∈p.pre,(y.Op=3→2≤y.dD.length)∧(y.Op=6→0≤y.Span))→∀s,Sm l p [] 0 s↔∃y∈raw p,Hit l y s
 |0,p,hd,hw,hx,s=>by
  have:=A0.dep_eq p;omega
 | d +1,p,hd,hw,hx,s=>by
  have ho:=AL1 l;have arg:∀q∈p.dD,∀s,Sm l q [] 0 s↔∃y∈raw q,Hit l y s:=fun q hq s=>Vk hl d q (by have:=Jp hq;omega) (hw.arg hq) (fun y hy=>hx y (by rw[A0.pre_eq];exact Q1 _ (BA.2 ⟨q,hq,hy⟩))) s;have hop:=hw.self.op;have hself:=hx p (LJ p);rw[Si];unfold Ab6
  by_cases h0:p.Op=0
  ·rw[A2 h0,Sm.i0 h0]
   constructor
   ·rintro⟨j,_,hj,ht,rfl⟩
    obtain rfl:j=0:=by omega
    refine⟨_,List.mem_singleton.2 rfl,rfl,rfl,?_,by simp⟩
    unfold RK at ht
    unfold okE;exact ht
   rintro⟨y,hy,_,hs,hk,_⟩
   rw[List.mem_singleton.1 hy]at hs hk
   refine⟨0,by omega,by omega,?_,hs⟩;unfold RK
   unfold okE at hk
   exact hk
  rw[A1 h0]
  by_cases h1:p.Op=1
  ·rw[A2 h1]
   match ha:p.dD with
   |[]=>exact absurd ha (hw.self.a1 (by omega) (by omega))
   |[q]=>
    rw[Sm.i1 h1 ha,arg q (by rw[ha];simp),MN]
    constructor
    ·rintro⟨y,hy,k1,k2⟩;exact⟨_,List.mem_map.2 ⟨y,hy,rfl⟩,(Ms _ _).2 ⟨k1,rfl⟩,k2⟩
    rintro⟨z,hz,k1,k2⟩;obtain⟨y,hy,rfl⟩:=List.mem_map.1 hz;exact⟨y,hy,((Ms _ _).1 k1).1,k2⟩
   |q::q'::r=>
    rw[Sm.i1c h1 ha,MN]
    constructor
    ·rintro⟨u,t,hu,ht,rfl⟩;exfalso;have ru:=hu.res (hw.arg (by rw[ha];simp)) ho;have rt:=ht.res (hw.sub (by omega) (by omega) (fun x hx=>by rw[ha];exact Q1 _ hx) (by simp)) (ho.next ru);have:=ru.gd.lst ru.ne;exact Af5 hl (by omega) rt
    rintro⟨z,hz,k1,k2⟩;obtain⟨y,hy,rfl⟩:=List.mem_map.1 hz;have:=((Ms _ _).1 k1).2
    simp at this
  rw[A1 h1]
  by_cases h2:p.Op=2
  ·rw[A2 h2,Sm.i2 h2]
   constructor
   ·rintro⟨q,hq,hs⟩;obtain⟨y,hy,k⟩:=(arg q hq s).1 hs;obtain⟨i,hi,rfl⟩:=List.mem_iff_getElem.1 hq;refine⟨y,List.mem_flatMap.2 ⟨i,List.mem_range.2 hi,?_⟩,k⟩;rw[Mj hi];exact hy
   rintro⟨y,hy,k⟩;obtain⟨i,hi,hy⟩:=List.mem_flatMap.1 hy;obtain⟨a,ha,hy⟩:=FC hy;exact⟨a,ha,(arg a ha s).2 ⟨y,hy,k⟩⟩
  rw[A1 h2]
  by_cases h3:p.Op=3
  ·rw[A2 h3]
   constructor
   ·intro hs;exfalso;have h2':=hself.1 h3
    rcases Dw p.dD with ha|⟨r,q,ha⟩
    ·rw[ha]at h2';simp at h2'
    rw[Dv]at ha
    have hr:r≠[]:=by rintro rfl;rw[ha]at h2';simp at h2'
    obtain⟨u,t,hu,ht,hap,_⟩:=(Sm.i3c h3 ha hr).1 hs;have ru:=hu.res (hw.sub (by omega) (by omega) (fun x hx=>by rw[ha];simp[hx]) hr) ho;have rt:=ht.res (hw.arg (by rw[ha];simp)) ho;obtain⟨v,rfl⟩:=Ae7 hl ru;obtain⟨w,rfl⟩:=Ae7 hl rt;exact hap _ (List.mem_singleton.2 rfl) _ (List.mem_singleton.2 rfl) rfl
   rintro⟨z,hz,k1,_⟩;obtain⟨i,hi,hz⟩:=List.mem_flatMap.1 hz;obtain⟨y,hy,rfl⟩:=List.mem_map.1 hz
   unfold OO at k1
   cases k1
  rw[A1 h3];obtain⟨q,ha⟩:=hw.self.a2 (by omega)
  have hq:q∈p.dD:=by rw[ha];simp
  by_cases h4:p.Op=4
  ·rw[A2 h4,Sm.i4 h4 ha,ha,MN]
   constructor
   ·rintro(hs|⟨u,t,hu,ht,_⟩)
    ·obtain⟨y,hy,k1,k2⟩:=(arg q hq s).1 hs;exact⟨y,List.mem_flatMap.2 ⟨y,hy,by unfold rep;rw[A2 k1];simp⟩,k1,k2⟩
    exfalso;have ru:=hu.res (hw.arg hq) ho;have rt:=ht.res hw (ho.next ru);have:=ru.gd.lst ru.ne;exact Af5 hl (by omega) rt
   rintro⟨z,hz,k1,k2⟩;obtain⟨y,hy,hz⟩:=List.mem_flatMap.1 hz
   unfold rep at hz
   split at hz
   ·next hd=>
    rcases List.mem_cons.1 hz with rfl|hz
    ·exact .inl ((arg q hq s).2 ⟨_,hy,k1,k2⟩)
    rw[List.mem_singleton.1 hz]at k1;cases k1
   split at hz
   ·rw[List.mem_singleton.1 hz]at k1;cases k1
   cases hz
  rw[A1 h4,A1 (by omega),Sm.i5 (by omega) (by omega) ha,arg q hq,ha,MN]
  have hkeep:∀y∈raw q,Hit l y s→(Mc l p [] s=true↔∀c∈(Hz p y).dH,chkO l s c=true):=by
   rintro y hy ⟨k1,k2,k3,k4⟩;unfold Mc
   by_cases h7:p.Op=7
   ·rw[A1 (by omega),A2 h7,OJ];unfold Hz;rw[A2 h7,A2 k1]
    constructor
    ·intro h c hc
     rcases List.mem_append.1 hc with hc|hc
     ·exact k4 c hc
     rw[List.mem_singleton.1 hc];exact h
    intro h;exact h _ (by simp)
   have e:(Hz p y).dH=y.1.dH:=by unfold Hz QE;rw[A1 h7]
   rw[e];refine⟨fun _=>k4,fun _=>?_⟩;subst k2
   by_cases h6:p.Op=6
   ·rw[A2 h6];have:=hself.2 h6;have e2:hdA [(⟨y.1.Var,0⟩:PR)]=EH [(⟨y.1.Var,0⟩:PR)]:=rfl;rw[e2,Kh (by omega) (by omega)]
    simpa using this
   rw[A1 h6,A1 h7];unfold Te;have e1:hdA [(⟨y.1.Var,0⟩:PR)]=0:=rfl;have e2:EH [(⟨y.1.Var,0⟩:PR)]=0:=rfl;rw[e1,e2,hl];simp
  have hv:∀y:Pr,(Hz p y).Var=y.1.Var∧okE l (Hz p y)=okE l y.1:=by
   intro y;unfold Hz QE okE
   split
   ·split<;>exact⟨rfl,rfl⟩
   exact⟨rfl,rfl⟩
  constructor
  ·rintro⟨⟨y,hy,hh⟩,hk⟩;have hc:=(hkeep y hy hh).1 hk;obtain⟨k1,k2,k3,k4⟩:=hh;refine⟨_,List.mem_map.2 ⟨y,hy,rfl⟩,?_,by rw[show(inn p y).1=Hz p y from rfl,(hv y).1];exact k2,by rw[show(inn p y).1=Hz p y from rfl,(hv y).2];exact k3,hc⟩
   show(XU p y.2).done=true
   unfold XU;rw[A2 k1];exact k1
  rintro⟨z,hz,k1,k2,k3,k4⟩;obtain⟨y,hy,rfl⟩:=List.mem_map.1 hz
  rw[show(inn p y).1=Hz p y from rfl]at k2 k3 k4
  rw[(hv y).1]at k2
  rw[(hv y).2]at k3
  have kd:y.2.done=true:=by
   have:(XU p y.2).done=true:=k1
   unfold XU at this
   split at this
   ·next h=>exact h
   exact this
  have hsub:∀c∈y.1.dH,c∈(Hz p y).dH:=by
   intro c hc;unfold Hz QE
   split
   ·first|(rw[A2 kd];simp[hc])|simp[hc]
   exact hc
  have hh:Hit l y s:=⟨kd,k2,k3,fun c hc=>k4 c (hsub c hc)⟩;exact⟨⟨y,hy,hh⟩,(hkeep y hy hh).2 k4⟩
end
end Go.Ab
namespace Go.Ab
open Classical
noncomputable section
theorem XK {R:Type} {m:Nat} {step:Int→Option (Int⊕R)} (hs:∀i:Nat,i<m→(∃r,step (i:Int)=some (.inr r))∨step (i:Int)=some (.inl ((i+1:Nat):Int))) (he:∃r,step (m:Int)=some (.inr r)) {N:Nat} (hN:m<N):∃r,loopN step N 0=some r:=by
 have key:∀(d i N:Nat),i+d=m→d<N→∃r,loopN step N (i:Int)=some r:=by
  intro d
  induction d with
  |zero=>
   intro i N hi hN;obtain⟨N,rfl⟩:∃m,N=m+1:=⟨N - 1,by omega⟩;obtain⟨r,hr⟩:=he
   obtain rfl:i=m:=by omega
   exact⟨r,by unfold loopN;rw[hr]⟩
  |succ d ih=>
   intro i N hi hN;obtain⟨N,rfl⟩:∃m,N=m+1:=⟨N - 1,by omega⟩
   rcases hs i (by omega)with⟨r,hr⟩|h
   ·exact⟨r,by unfold loopN;rw[hr]⟩
   obtain⟨r,hr⟩:=ih (i+1) N (by omega) (by omega);exact⟨r,by unfold loopN;rw[h];exact hr⟩
 exact key m 0 N (by omega) hN
theorem few1 {N:Nat} (hN:40000000≤N) (l:List A7):∃b,HF N l=some b:=by
 unfold HF
 have h:∃r,loopN (fun(s1:Int)=>
  (
   if an (cmp .lss s1 (Ar.len l)) (cmp .lss s1 40)=true then
    (C5 l s1).bind fun x3=>
    if cmp .gtr (Ar.slen x3.Text) 128=true then
     some (.inr (.inr ()))
    else
     some (.inl (ar .add .i64 s1 1))
   else
    some (.inr (.inl ()))
   :Option ((Int)⊕(Unit⊕Unit)))) N 0=some r:=by
  refine XK (m:=min l.length 40) (fun i hi=>?_) ⟨.inl (),?_⟩ (by omega)
  ·have hil:i<l.length:=by omega
   rw[A2 (by rw[N7,Bi (by omega),Ez (by omega)];rfl),G2,E2 hil];simp only[A4]
   split
   ·exact .inl ⟨_,rfl⟩
   refine .inr ?_;rw[E9 (by omega) (by omega)];rfl
  rw[A1];rw[N7];intro h
  rw[F3,D1,D1,D9,D9,B5]at h
  omega
 obtain⟨r,hr⟩:=h;rw[hr];simp only[A4];cases r<;>exact⟨_,rfl⟩
theorem few5 {N:Nat} (hN:40000000≤N) (l:List B3):∃b,JR N l=some b:=by
 unfold JR
 have h:∃r,loopN (fun(s1:Int)=>
  (
   if an (cmp .lss s1 (Ar.len l)) (cmp .lss s1 20)=true then
    (C5 l s1).bind fun x3=>
    if cmp .gtr (Ar.len x3.Values) 12=true then
     some (.inr (.inr ()))
    else
     (C5 l s1).bind fun x4=>
     (HF N x4.Values).bind fun r5=>
     if nt r5=true then
      some (.inr (.inr ()))
     else
      some (.inl (ar .add .i64 s1 1))
   else
    some (.inr (.inl ()))
   :Option ((Int)⊕(Unit⊕Unit)))) N 0=some r:=by
  refine XK (m:=min l.length 20) (fun i hi=>?_) ⟨.inl (),?_⟩ (by omega)
  ·have hil:i<l.length:=by omega
   obtain⟨b,hb⟩:=few1 hN l[i].Values;rw[A2 (by rw[N7,Bi (by omega),Ez (by omega)];rfl),G2,E2 hil];simp only[A4]
   split
   ·exact .inl ⟨_,rfl⟩
   rw[hb];simp only[A4]
   split
   ·exact .inl ⟨_,rfl⟩
   refine .inr ?_;rw[E9 (by omega) (by omega)];rfl
  rw[A1];rw[N7];intro h
  rw[F3,D1,D1,D9,D9,B5]at h
  omega
 obtain⟨r,hr⟩:=h;rw[hr];simp only[A4];cases r<;>exact⟨_,rfl⟩
theorem WD {e1 e2:Cl} (h:∀v,Gp e1 v=Gp e2 v) (own:Int) (ev:B3) (c:B0):BP e1 own ev c=BP e2 own ev c:=by
 have:Ho e1 own ev=Ho e2 own ev:=by
  funext x
  unfold Ho;rw[h]
 unfold BP OX;rw[this]
theorem AE5 (v:Int):Gp ⟨[]⟩ v=[]:=by unfold Gp;split<;>simp
theorem AE6 (l:List B3) (b:Int) (v:Int):Gp (JF l [] b) v=[]:=by
 unfold Gp
 split
 ·rfl
 simp only[JF,Rb,Lj];rw[N1]
 cases h:((List.range 16).map fun(_:Nat)=>([]:List B3))[v.toNat]? with
 |none=>rfl
 |some r=>
  have:=EC h;obtain⟨_,_,e⟩:=List.mem_map.1 this;rw[←e];rfl
theorem As7 {N:Nat} (hN:40000000≤N) (x:B3) {v:Int} (h0:0≤v) (h1:v<16):Fc N [x] 16 [⟨v,⟨x.Time,x.Source,x.Seq⟩⟩]=some (JF [x] [⟨v,0⟩] 1):=by
 have hev:GV N [x] ⟨x.Time,x.Source,x.Seq⟩=some (x,true):=by
  obtain⟨N,rfl⟩:∃m,N=m+1:=⟨N - 1,by omega⟩;unfold GV loopN;rw[A2 (Ez (by rw[B5];simp))];have:C5 [x] 0=some x:=rfl;rw[this];simp only[A4,CV];rw[A2 (by simp only[N7,C8];simp)];rfl
 obtain⟨i,rfl⟩:=BN h0
 have hi:i<16:=by omega
 unfold Fc;have hm:mkL 16 16 ([]:List B3)=some (List.replicate 16 []):=rfl;rw[hm];simp only[A4];obtain⟨N,rfl⟩:∃m,N=m+2:=⟨N - 2,by omega⟩;unfold loopN;rw[A2 (Ez (by show(0:Int)<Ar.len [_];rw[B5];simp))];have h2:C5 [(⟨(i:Int),⟨x.Time,x.Source,x.Seq⟩⟩:G7)] 0=some ⟨(i:Int),⟨x.Time,x.Source,x.Seq⟩⟩:=rfl;rw[h2];simp only[A4];rw[hev];simp only[A4];rw[A2 (by rw[N7,N7,R6,D1];simp;omega),G2]
 have h3:(List.replicate 16 ([]:List B3))[i]? =some []:=by rw[List.getElem?_replicate,A2 hi]
 rw[h3];simp only[A4];rw[U8 (by simp)];simp only[A4]
 have h4:Kg (List.replicate 16 ([]:List B3)) (i:Int) (fun _=>[]++[x])=some ((List.replicate 16 []).set i [x]):=by
  unfold Kg;rw[G2,h3];rfl
 rw[h4];simp only[A4];rw[E9 (by omega) (by omega)];unfold loopN;rw[A1 (Cb (by show¬(0+1:Int)<Ar.len [_];rw[B5];simp))];simp only[A4]
 congr 2
 refine GI (by simp) fun k hk hk'=>?_
 have hk16:k<16:=by simpa using hk
 rw[List.getElem_set,List.getElem_map,List.getElem_range];unfold Rb
 by_cases e:i=k
 ·subst e;rw[A2 rfl];simp
 rw[A1 e,List.getElem_replicate];simp;omega
end
end Go.Ab
namespace Go.Ab
open Classical
noncomputable section
theorem eqf {a b:Int}(h:a≠b):¬(cmp .eql a b=true):=by rw[C8];simpa using h
theorem Bc3 {a b:G6}(h:mO a.dF b.dF=0):a=b:=by
 cases a;cases b;have:=Rt h
 simp only at this
 rw[this]
theorem AU2 {N:Nat} (hN:40000000≤N) {l:List G6} {m:G6} (hm:m.dF.length≤1000000) (hb:∀x∈l,x.dF.length≤1000000) (hl:l.length≤1000000) (ha:Ps l):
 ∃r,HE N l m=some r∧Ps r∧(∀x,x∈r↔x∈l∨x=m)∧r.length≤l.length+1:=by
 have key:∀(d i M:Nat),i+d=l.length→d<M→(∀x∈l.take i,mO x.dF m.dF<0)→∃k:Nat,k≤l.length∧loopN
  (fun(s1:Int)=>
   (
    if cmp .lss s1 (Ar.len l)=true then
     (C5 l s1).bind fun x3=>
     (AS N x3 m).bind fun r4=>
     if cmp .lss r4 0=true then
      some (.inl (ar .add .i64 s1 1))
     else
      some (.inr s1)
    else
     some (.inr s1)
    :Option ((Int)⊕(Int)))) M (i:Int)=some (k:Int)∧(∀x∈l.take k,mO x.dF m.dF<0)∧(∀h:k<l.length,¬mO l[k].dF m.dF<0):=by
  intro d
  induction d with
  |zero=>
   intro i M hi hM ht;obtain⟨M,rfl⟩:∃m,M=m+1:=⟨M - 1,by omega⟩;refine⟨i,by omega,?_,ht,fun h=>by omega⟩;unfold loopN;rw[A1 (Cb (by rw[B5];omega))]
  | succ d ih=>
   intro i M hi hM ht;obtain⟨M,rfl⟩:∃m,M=m+1:=⟨M - 1,by omega⟩
   have hlt:i<l.length:=by omega
   have hc:=VA hN (hb _ (O9 hlt)) hm
   by_cases h:mO l[i].dF m.dF<0
   ·obtain⟨k,h1,h2,h3⟩:=ih (i+1) M (by omega) (by omega) (fun x hx=>by
     rw[Kc hlt]at hx
     rcases List.mem_append.1 hx with hx|hx
     ·exact ht x hx
     rw[List.mem_singleton.1 hx];exact h)
    refine⟨k,h1,?_,h3⟩;unfold loopN;rw[A2 (Bi (by omega)),G2,E2 hlt];simp only[A4];rw[hc];simp only[A4];rw[A2 (Ez h),E9 (by omega) (by omega)];exact h2
   refine⟨i,by omega,?_,ht,fun _=>h⟩;unfold loopN;rw[A2 (Bi (by omega)),G2,E2 hlt];simp only[A4];rw[hc];simp only[A4];rw[A1 (Cb h)]
 obtain⟨k,hk,h1,h2,h3⟩:=key l.length 0 N (by omega) (by omega) (by simp);unfold HE
 rw[show((0:Nat):Int)=0 from rfl]at h1
 rw[h1];simp only[A4]
 have hins:∀(hgt:∀x∈l.drop k,mO m.dF x.dF<0),∃r,(Bg l none (some (k:Int)) none).bind (fun l534=>(N6 ([]) l534).bind fun l575=>(N6 l575 ([m])).bind fun l695=>some l695)=some (l.take k++[m])∧Bg l (some (k:Int)) none none=some (l.drop k)∧N6 (l.take k++[m]) (l.drop k)=some r∧Ps r∧(∀x,x∈r↔x∈l∨x=m)∧r.length≤l.length+1:=by
  intro hgt;refine⟨l.take k++[m]++l.drop k,?_,Aa7 hk,?_,?_,fun x=>?_,by simp;omega⟩
  ·rw[Za hk];simp only[A4];rw[U8 (by simp;omega)];simp only[A4,J1];rw[U8 (by simp;omega)];rfl
  ·rw[U8 (by simp;omega)]
  ·unfold Ps at ha ⊢
   rw[Lo,Lo];refine⟨⟨ha.sublist (List.take_sublist _ _),by simp,fun a h b hb=>?_⟩,ha.sublist (List.drop_sublist _ _),fun a h b hb=>?_⟩
   ·rw[List.mem_singleton.1 hb];exact h2 a h
   rcases List.mem_append.1 h with h|h
   ·exact OK (h2 a h) (hgt b hb)
   rw[List.mem_singleton.1 h];exact hgt b hb
  conv=>rhs;rw[←Gb k l]
  simp only[Az,GO]
  constructor
  ·rintro((h|h)|h)
   ·exact .inl (.inl h)
   ·exact .inr h
   exact .inl (.inr h)
  rintro((h|h)|h)
  ·exact .inl (.inl h)
  ·exact .inr h
  exact .inl (.inr h)
 by_cases hkl:k<l.length
 ·rw[A2 (Bi (by omega)),G2,E2 hkl];simp only[A4];rw[VA hN (hb _ (O9 hkl)) hm];simp only[A4]
  by_cases he:mO l[k].dF m.dF=0
  ·rw[A2 (OY he)];refine⟨l,rfl,ha,fun x=>⟨.inl,fun h=>h.elim id fun e=>?_⟩,by omega⟩;rw[e,←Bc3 he];exact O9 hkl
  rw[A1 (eqf he)]
  have hgt0:mO m.dF l[k].dF<0:=by
   have:=h3 hkl;rw[ZK];omega
  obtain⟨r,e1,e2,e3,e4⟩:=hins (fun x hx=>by
   rw[R9 hkl]at hx
   rcases List.mem_cons.1 hx with rfl|hx
   ·exact hgt0
   obtain⟨j,hj,rfl⟩:=N0 hx
   rw[List.length_drop]at hj
   rw[List.getElem_drop]
   exact OK hgt0 (List.pairwise_iff_getElem.1 ha k (k+1+j) hkl (by omega) (by omega)))
  rw[e1];simp only[A4];rw[e2];simp only[A4];rw[e3];exact⟨r,rfl,e4⟩
 rw[A1 (Cb (by rw[B5];omega))]
 have:k=l.length:=by omega
 obtain⟨r,e1,e2,e3,e4⟩:=hins (fun x hx=>by rw[this,List.drop_length]at hx;cases hx);rw[e1];simp only[A4];rw[e2];simp only[A4];rw[e3];exact⟨r,rfl,e4⟩
theorem Ak7 {N:Nat} (hN:40000000≤N) {l:List G6} (hb:∀x∈l,x.dF.length≤1000000) (hl:l.length≤900000):∃r,Fs N l=some r∧Ps r∧∀x,x∈r↔x∈l:=by
 have key:∀(d i M:Nat) (acc:List G6),i+d=l.length→d<M→Ps acc→(∀x,x∈acc↔x∈l.take i)→acc.length≤i→∃r,loopN
  (fun(s1:(List G6)×Int)=>
   (
    if cmp .lss s1.2 (Ar.len l)=true then
     (C5 l s1.2).bind fun x3=>
     (HE N s1.1 x3).bind fun r4=>
     some (.inl (r4,ar .add .i64 s1.2 1))
    else
     some (.inr s1.1)
    :Option (((List G6)×Int)⊕(((List G6)))))) M (acc,(i:Int))=some r∧Ps r∧∀x,x∈r↔x∈l:=by
  intro d
  induction d with
  |zero=>
   intro i M acc hi hM ha hmem hlen;obtain⟨M,rfl⟩:∃m,M=m+1:=⟨M - 1,by omega⟩;refine⟨acc,?_,ha,fun x=>?_⟩
   ·unfold loopN;rw[A1 (Cb (by rw[B5];dsimp only;omega))]
   rw[hmem,T8 (by omega)]
  | succ d ih=>
   intro i M acc hi hM ha hmem hlen;obtain⟨M,rfl⟩:∃m,M=m+1:=⟨M - 1,by omega⟩
   have hlt:i<l.length:=by omega
   obtain⟨r,e1,e2,e3,e4⟩:=AU2 hN (hb _ (O9 hlt)) (fun x hx=>hb x (List.mem_of_mem_take ((hmem x).1 hx))) (by omega) ha
   obtain⟨r',k1,k2⟩:=ih (i+1) M r (by omega) (by omega) e2 (fun x=>by
    rw[e3,hmem,Kc hlt,Az,GO]) (by omega)
   refine⟨r',?_,k2⟩;unfold loopN;rw[A2 (Bi (by dsimp only;omega))]
   dsimp only
   rw[G2,E2 hlt];simp only[A4];rw[e1];simp only[A4];rw[E9 (by omega) (by omega)];exact k1
 obtain⟨r,h1,h2⟩:=key l.length 0 N [] (by omega) (by omega) List.Pairwise.nil (by simp) (by simp);unfold Fs
 rw[show((0:Nat):Int)=0 from rfl]at h1
 rw[h1];exact⟨r,rfl,h2⟩
theorem AG0 {a b:List G6} (ha:Ps a) (hb:Ps b) (h:∀x,x∈a↔x∈b):a=b:=by
 have nd:∀{l:List G6},Ps l→l.Nodup:=fun hl=>by
  unfold Ps at hl
  unfold Nodup;refine hl.imp fun{x y} hlt e=>?_
  rw[e,Ru]at hlt
  omega
 refine Qq (le:=fun x y:G6=>mO x.dF y.dF<0) (fun x y _ _ h1 h2=>?_) ha hb ((List.perm_ext_iff_of_nodup (nd ha) (nd hb)).2 h);have:=OK h1 h2
 rw[Ru]at this
 omega
end
end Go.Ab
namespace Go.Ab
open Classical
noncomputable section
theorem AB1 {T R X:Type} {m:Nat} {step:T×Int→Option ((T×Int)⊕R)} {res:T→R} {k:R→Option X} {x:Option X} (I:Nat→T→Prop) {N:Nat} {t0:T} (hN:m<N) (h0:I 0 t0)
 (hs:∀i,i<m→∀t,I i t→∃t',step (t,(i:Int))=some (.inl (t',((i+1:Nat):Int)))∧I (i+1) t') (he:∀t,step (t,(m:Int))=some (.inr (res t))) (k1:∀t,I m t→k (res t)=x):(loopN step N (t0,0)).bind k=x:=by
 have key:∀(d i N:Nat) (t:T),i+d=m→d<N→I i t→∃t',I m t'∧loopN step N (t,(i:Int))=some (res t'):=by
  intro d
  induction d with
  |zero=>
   intro i N t hi hN ht;obtain⟨N,rfl⟩:∃m,N=m+1:=⟨N - 1,by omega⟩
   obtain rfl:i=m:=by omega
   exact⟨t,ht,by unfold loopN;rw[he]⟩
  |succ d ih=>
   intro i N t hi hN ht;obtain⟨N,rfl⟩:∃m,N=m+1:=⟨N - 1,by omega⟩;obtain⟨t',h1,h2⟩:=hs i (by omega) t ht;obtain⟨t2,h3,h4⟩:=ih (i+1) N t' (by omega) (by omega) h2;exact⟨t2,h3,by unfold loopN;rw[h1];exact h4⟩
 obtain⟨t,h1,h2⟩:=key m 0 N t0 (by omega) hN h0
 rw[show((0:Nat):Int)=0 from rfl]at h2
 rw[h2];exact k1 t h1
theorem Ae8 :∀(d:Nat) (p:A0),p.dep≤d→Pp p→∀y∈raw p,0≤y.1.Var∧y.1.Var<16
 |0,p,hd,_,_,_=>by have:=A0.dep_eq p;omega
 | d+1,p,hd,hw,y,hy=>by
  have arg:∀q∈p.dD,∀y∈raw q,0≤y.1.Var∧y.1.Var<16:=fun q hq=>Ae8 d q (by have:=Jp hq;omega) (hw.arg hq);have hop:=hw.self.op
  rw[Si]at hy
  unfold Ab6 at hy
  by_cases h0:p.Op=0
  ·rw[A2 h0]at hy
   rw[List.mem_singleton.1 hy];exact hw.self.var h0
  rw[A1 h0]at hy
  by_cases h1:p.Op=1
  ·rw[A2 h1]at hy
   obtain⟨z,hz,rfl⟩:=List.mem_map.1 hy;obtain⟨a,ha,hz⟩:=Ai hz;exact arg a ha z hz
  rw[A1 h1]at hy
  by_cases h2:p.Op=2
  ·rw[A2 h2]at hy
   obtain⟨i,_,hy⟩:=List.mem_flatMap.1 hy;obtain⟨a,ha,hy⟩:=FC hy;exact arg a ha y hy
  rw[A1 h2]at hy
  by_cases h3:p.Op=3
  ·rw[A2 h3]at hy
   obtain⟨i,_,hy⟩:=List.mem_flatMap.1 hy;obtain⟨z,hz,rfl⟩:=List.mem_map.1 hy;obtain⟨a,ha,hz⟩:=FC hz;exact arg a ha z hz
  rw[A1 h3]at hy
  by_cases h4:p.Op=4
  ·rw[A2 h4]at hy
   obtain⟨z,hz,hy⟩:=List.mem_flatMap.1 hy;obtain⟨a,ha,hz⟩:=Ai hz;rw[Vz hy];exact arg a ha z hz
  rw[A1 h4,A1 (by omega)]at hy
  obtain⟨z,hz,rfl⟩:=List.mem_map.1 hy;obtain⟨a,ha,hz⟩:=Ai hz
  have:(Hz p z).Var=z.1.Var:=by
   unfold Hz QE
   split
   ·split<;>rfl
   rfl
  show 0≤(Hz p z).Var∧(Hz p z).Var<16
  rw[this];exact arg a ha z hz
theorem Wc {N:Nat} (l:List B0) (hs:l.length<1000000000000) (f:B0→Option Bool) (P:B0→Bool) (hf:∀x∈l,f x=some (P x)) (hN:l.length<N):K4 N l f=some (l.any P):=by
 have h:Q7 N l f=some (Iz P l):=by
  unfold Q7 Iz;rw[NT l hs f P hf hN];cases l.findIdx? P<;>rfl
 unfold K4;rw[h];simp only[A4]
 congr 1
 rw[R6,Bb,D9,BB,Dr]
def Mh (x:B3)(e:D7):Bool:=decide (e.To= -1)&&(decide (e.Typ=x.Typ)&&(BP ⟨[]⟩ e.Var x e.dE&&e.dH.all fun c=>BP (JF [x] [⟨e.Var,0⟩] 1) (-1) ⟨0,0,0,0,[]⟩ c))
def mkM (x:B3)(e:D7):G6:=⟨[⟨e.Var,⟨x.Time,x.Source,x.Seq⟩⟩]⟩
theorem AW2 {N:Nat} (hN:40000000≤N) (x:B3) {E:List D7} (hE:E.length≤100000) (h1:∀e∈E,(0≤e.Var∧e.Var<16)∧e.dE.bulk≤16777216∧(∀c∈e.dH,c.bulk≤16777216)∧e.dH.length≤1000000) {X:Type} {k:List G6→Option X}:
 (loopN
  (fun (s12:(List G6)×Int)=>
   (
    if cmp .lss s12.2 (Ar.len E)=true then
     (C5 E s12.2).bind fun x15=>
     if Ar.or (cmp .neq x15.To (-1)) (cmp .neq x15.Typ x.Typ)=true then
      some (.inl (s12.1,ar .add .i64 s12.2 1))
     else
      (DH N x15.dE (⟨[]⟩:Cl) x15.Var x).bind fun r16=>
      if nt r16=true then
       some (.inl (s12.1,ar .add .i64 s12.2 1))
      else
       (CV N x).bind fun r17=>
       (Fc N ([x]) 16 ([(⟨x15.Var,r17⟩:G7)])).bind fun r18=>
       (K4 N x15.dH (fun y1=>O6 N y1 r18)).bind fun r19=>
       if nt r19=true then
        (N6 s12.1 ([(⟨[(⟨x15.Var,r17⟩:G7)]⟩:G6)])).bind fun l21=>
        some (.inl (l21,ar .add .i64 s12.2 1))
       else
        some (.inl (s12.1,ar .add .i64 s12.2 1))
    else
     some (.inr s12.1)
    :Option (((List G6)×Int)⊕(((List G6))))))
  N ([],0)).bind k=k ((E.filter (Mh x)).map (mkM x)):=by
 refine AB1 (m:=E.length) (fun i acc=>acc=((E.take i).filter (Mh x)).map (mkM x)) (by omega) rfl (fun i hi acc ha=>?_) (fun acc=>by dsimp only;rw[A1 EG]) (fun acc ha=>by rw[ha,Lc]);have hm:=O9 hi;obtain⟨hv,hc,hk,hkl⟩:=h1 _ hm
 have ea:ar .add .i64 (i:Int) 1=((i+1:Nat):Int):=by rw[E9 (by omega) (by omega)];omega
 have hlen:acc.length≤100000:=by
  rw[ha,G5];have:=Qi (Mh x) (E.take i)
  rw[GK]at this
  omega
 have nxt:∀b:Bool,Mh x E[i]=b→((E.take (i+1)).filter (Mh x)).map (mkM x)=acc++(if b=true then[mkM x E[i]]else[]):=by
  intro b hb;rw[Kc hi,List.filter_append,Z5,←ha]
  congr 1
  rw[List.filter_cons,hb];cases b<;>rfl
 dsimp only
 rw[A2 (Bi (by omega)),G2,E2 hi];simp only[A4];rw[ea]
 generalize hEi:E[i]=e at *
 by_cases c1:e.To= -1∧e.Typ=x.Typ
 case neg=>
  have hb:Mh x e=false:=by
   unfold Mh
   by_cases h:e.To= -1
   ·have:¬e.Typ=x.Typ:=fun h'=>c1 ⟨h,h'⟩;simp[this]
   simp[h]
  refine⟨acc,?_,by rw[nxt _ hb];simp⟩;rw[A2];rw[P1,H8,H8]
  by_cases h:e.To= -1
  ·have:¬e.Typ=x.Typ:=fun h'=>c1 ⟨h,h'⟩;simp[this]
  simp[h]
 rw[A1 (by
  rw[P1,H8,H8,c1.1,c1.2]
  simp),Uk hN (by unfold Jd;simp) _ _ hc]
 simp only[A4]
 by_cases c2:BP ⟨[]⟩ e.Var x e.dE=true
 case neg=>
  have hb:Mh x e=false:=by
   unfold Mh
   rw[GH]at c2
   simp[c2]
  refine⟨acc,?_,by rw[nxt _ hb];simp⟩;rw[A2 (by rw[Q5];simpa using c2)]
 rw[A1 (by rw[Q5,c2];simp)];simp only[CV,A4];rw[As7 hN x hv.1 hv.2];simp only[A4];have hrows:Jd (JF [x] [⟨e.Var,0⟩] 1):=PV _ (by simp) _
 rw[Wc e.dH (by omega) _ (fun c=> !BP (JF [x] [⟨e.Var,0⟩] 1) (-1) ⟨0,0,0,0,[]⟩ c) (fun c hcm=>by
  unfold O6;rw[Uk hN hrows _ _ (hk c hcm)]
  simp only[A4,Q5]) (by omega)]
 simp only[A4]
 have hall:Mh x e=e.dH.all fun c=>BP (JF [x] [⟨e.Var,0⟩] 1) (-1) ⟨0,0,0,0,[]⟩ c:=by
  unfold Mh;rw[c1.1,c1.2,c2];simp
 have hno:(e.dH.any fun c=> !BP (JF [x] [⟨e.Var,0⟩] 1) (-1) ⟨0,0,0,0,[]⟩ c)= !Mh x e:=by
  rw[hall,List.not_all_eq_any_not]
 rw[hno,Q5,Bool.not_not]
 cases hb:Mh x e with
 |true=>
  rw[A2 rfl,U8 (by simp;omega)];exact⟨_,rfl,by rw[nxt _ hb];rfl⟩
 |false=>
  rw[A1 (by simp)];exact⟨_,rfl,by rw[nxt _ hb];simp⟩
theorem WP {N:Nat} (hN:40000000≤N) (haw:AW N=some true) {p:A0} (hb:p.bulk≤1048576) (x:B3):Ay N p x=some true:=by
 unfold Ay;obtain⟨b,h1,h2⟩:=AT8 hN (x:=p) (by omega);rw[h1,haw];simp only[A4]
 cases b with
 |false=>rw[A2 (show nt false=true from rfl)]
 |true=>
 rw[A1 (show¬nt true=true by decide),Ur hN (by omega)];simp only[A4];have h9:=h2 rfl
 by_cases hc:Wf N p=0
 case neg=>rw[A2 (W0 hc)]
 rw[A1 (T5 hc)];obtain⟨b5,h5⟩:=few5 hN [x];rw[h5];simp only[A4]
 cases b5 with
 |false=>rw[A2 (show nt false=true from rfl)]
 |true=>
 rw[A1 (show¬nt true=true by decide),AK0 hN];simp only[A4]
 by_cases hcs:TO [x]=0
 case neg=>rw[A2 (W0 hcs)]
 rw[A1 (T5 hcs)];obtain⟨hw,hpp⟩:=Ub hN (x:=p) (by omega) hc;have hw2:=YW hN (x:=p) (by omega) hc
 have hz:N8 N p=0:=by
  by_cases h:N8 N p=0
  ·exact h
  unfold Wf at hc;rw[A2 h]at hc;exact absurd hc h
 have hev:Mn p≤p.pre.length:=Qj;obtain⟨r,e1,e2,⟨L,_,e4,e5⟩,e6,e7⟩:=AK9 hN (p:=p) (by omega) (l:=[x]) (by simp) (.inl (by simp;omega)) hc hcs;unfold Dc;rw[e1];simp only[A4];rw[As4 hN (by omega) hz];simp only[A4];unfold Pc
 by_cases hf:TW N (raw p)
 ·rw[A2 hf,A2 (by rw[P1,H8,H8];simp),A2 (by simp only[N7,P1,C8];simp)]
 rw[A1 hf];rw[A1 (by rw[P1];simp only[H8];simp)]
 have hdd:(dd (raw p)).length≤2048:=by
  rcases O0 2048 (dd (raw p)).length with h|h
  ·exact absurd (.inl h) hf
  exact h
 have hdep:=(JQ hz).2.1;have eg1:∀y:Pr,(eg (Y3 (raw p)) y).Var=y.1.Var∧(eg (Y3 (raw p)) y).Typ=y.1.Typ∧(eg (Y3 (raw p)) y).dE=y.1.dE∧(eg (Y3 (raw p)) y).dH=y.1.dH:=fun y=>⟨rfl,rfl,rfl,rfl⟩
 have egTo:∀y∈raw p,(eg (Y3 (raw p)) y).To= -1↔y.2.done=true:=by
  intro y hy
  show Pz (Y3 (raw p)) y.2= -1↔_
  unfold Pz
  by_cases hd:y.2.done=true
  ·rw[A2 hd];simp[hd]
  rw[A1 hd]
  have:0≤VP (Y3 (raw p)) y.2.p:=by
   show 0≤Iz _ _
   rw[BB];exact⟨_,JP hy hd,by simp⟩
  constructor
  ·intro h;omega
  intro h;exact absurd h hd
 rw[AW2 hN x (by rw[G5];omega) (fun e he=>by
  obtain⟨y,hy,rfl⟩:=List.mem_map.1 he;have hyr:=Wb.1 hy;have hok:=Ax9 _ p (C4 _) y hyr;have hsz:=Zt _ p (C4 _) y hyr;refine⟨Ae8 _ p (C4 _) hw y hyr,by have:=hok.cond;show y.1.dE.bulk≤_;omega,fun c hcm=>by have:=hok.checks c hcm;omega,?_⟩;have:=hsz.2.2.1
  show y.1.dH.length≤_
  omega)]
 obtain⟨r1,k1,k2,k3⟩:=Ak7 hN (l:=((((dd (raw p)).map (eg (Y3 (raw p)))).filter (Mh x)).map (mkM x))) (fun m hm=>by
  obtain⟨e,_,rfl⟩:=List.mem_map.1 hm
  simp[mkM]) (by
  rw[G5];have:=Qi (Mh x) ((dd (raw p)).map (eg (Y3 (raw p))))
  rw[G5]at this
  omega)
 rw[k1];simp only[A4]
 have hr:r1=r:=by
  refine AG0 k2 e2 fun m=>?_;rw[k3,e5.mem_iff,BI,BI];have mat:∀v:Int,Fz [x] [⟨v,0⟩]=⟨[⟨v,⟨x.Time,x.Source,x.Seq⟩⟩]⟩:=fun v=>rfl
  have hitE:∀y∈raw p,Mh x (eg (Y3 (raw p)) y)=true↔Hit [x] y [⟨y.1.Var,0⟩]:=by
   intro y hy;unfold Mh Hit okE;rw[F3,F3,F3,D9,D9,egTo y hy,BK,WD (e1:=⟨[]⟩) (e2:=JF [x] [] 0) fun v=>by rw[AE5,AE6]];simp only[Aa,F3,D9,true_and]
   constructor
   ·rintro⟨a,b,c,d⟩;exact⟨a,⟨b.symm,c⟩,d⟩
   rintro⟨a,⟨b,c⟩,d⟩;exact⟨a,b.symm,c,d⟩
  constructor
  ·rintro⟨e,he,rfl⟩;obtain⟨he1,he2⟩:=List.mem_filter.1 he;obtain⟨y,hy,rfl⟩:=List.mem_map.1 he1;have hyr:=Wb.1 hy;refine⟨[⟨y.1.Var,0⟩],(e4 _).2 ((Vk rfl _ p (C4 _) hw hw2 _).2 ⟨y,hyr,(hitE y hyr).1 he2⟩),?_⟩;rw[mat];rfl
  rintro⟨s,hs,rfl⟩;obtain⟨y,hy,hh⟩:=(Vk rfl _ p (C4 _) hw hw2 s).1 ((e4 s).1 hs);have hs1:=hh.2.1;subst hs1;refine⟨eg (Y3 (raw p)) y,List.mem_filter.2 ⟨List.mem_map.2 ⟨y,Wb.2 hy,rfl⟩,(hitE y hy).2 hh⟩,?_⟩;rw[mat];rfl
 rw[hr,An3 hN (by omega) fun m hm=>by have:=e6 m hm;omega];simp only[A4];rw[A2 trivial]
end
end Go.Ab
