/- GTW8 GTW9 GTX0 GTX1 GTX2 GTX3 GTX5 GTG1 -/
import Derived.Test.YtanbgjgaafeplaaGreatDoorI19
set_option linter.all false
open List (Nodup any_cons append_nil)
open Go.Ab.Ar (an ar cmp nt)
namespace Go.Ab
open Classical
noncomputable section
section
variable {N:Nat}(hN:40000000≤N){l:List A6}(hl:l.length≤10)
include hN hl
theorem YA {k:Nat} (ih:IHk N l k) {p:A0} (hw:Kt p) (hp:p.pre.length≤64) (hs:Nt l.length p) (h0:p.Op=2) {o:List BD} {f:Nat} (ho:OC l (G4 o) f) {n:Nat} (hmu:mu l p f≤k+1) (hn:8*k+15≤n):∃R,Ef N n ⟨l,false⟩ p o f=some R∧∀s,s∈R↔Sm l p (G4 o) f (G4 s):=by
 unfold Ef;rw[if_neg (by omega),if_neg (by omega),if_pos h0];obtain⟨n,rfl⟩:∃m,n=m+2:=⟨n - 2,by omega⟩;unfold L6 Q1;have hal:=Dh p;refine JP ?_;refine BG (L:=p.cO) (u:=()) (Q:=fun q s=>Sm l q (G4 o) f (G4 s)) (by omega) ?_ ?_ rfl ?_
 ·intro i q hu hi hq;have:=FM (l:=l) (f:=f) (g:=f) (P8 hq);obtain⟨L,h1,h2,h3⟩:=ih q o f n (by omega) (by omega) (by have:=P8 hq;omega) (hw.arg hq) (hs.arg hq) ho;have hc:=EX (hw.arg hq) (hs.arg hq) ho h2 fun s hs=>(h3 s).1 hs;have e:ar .add .i64 (i:Int) 1=i+1:=C5 (by omega) (by omega);rw[if_pos (R9 hi),D9,hu];simp only[Option.bind_some,e];rw[h1];simp only[Option.bind_some];refine BG (L:=L) (u:=()) (Q:=fun x s=>s=x) (by omega) ?_ ?_ rfl ?_
  ·intro j u hu hj hm;have e:ar .add .i64 (j:Int) 1=j+1:=C5 (by omega) (by omega);rw[if_pos (R9 hj),D9,hu];simp only[Option.bind_some,e];exact Fi fun s=>Iff.rfl
  ·rw[if_neg V9]
  intro s
  constructor
  ·rintro⟨x,hx,rfl⟩;exact(h3 _).1 hx
  intro h;exact⟨s,(h3 s).2 h,rfl⟩
 ·rw[if_neg V9]
 intro s;exact(Sm.i2 h0).symm
theorem Wl {k:Nat} (ih:IHk N l k) {p:A0} (hw:Kt p) (hp:p.pre.length≤64) (hs:Nt l.length p) (h0:5≤p.Op) {o:List BD} {f:Nat} (ho:OC l (G4 o) f) {n:Nat} (hmu:mu l p f≤k+1) (hn:8*k+15≤n):∃R,Ef N n ⟨l,false⟩ p o f=some R∧∀s,s∈R↔Sm l p (G4 o) f (G4 s):=by
 unfold Ef;rw[if_neg (by omega),if_neg (by omega),if_neg (by omega),if_neg (by omega),if_neg (by omega)];obtain⟨n,rfl⟩:∃m,n=m+2:=⟨n - 2,by omega⟩;unfold F3 O2;obtain⟨q,ha⟩:=hw.self.a2 (by omega);have hop:=hw.self.op
 have hq:q∈p.cO:=by rw[ha];simp
 have:=FM (l:=l) (f:=f) (g:=f) (P8 hq);obtain⟨L,h1,h2,h3⟩:=ih q o f n (by omega) (by omega) (by have:=P8 hq;omega) (hw.arg hq) (hs.arg hq) ho;have hc:=EX (hw.arg hq) (hs.arg hq) ho h2 fun s hs=>(h3 s).1 hs;refine JP ?_;rw[ha,Jr];simp only[Option.bind_some];rw[h1];simp only[Option.bind_some];refine BG (L:=L) (u:=()) (Q:=fun x s=>keepsA l p (G4 o) (G4 x)=true∧s=x) (by omega) ?_ ?_ rfl ?_
 ·intro j u hu hj hm;have ru:=((h3 u).1 hm).res (hw.arg hq) ho;have e:ar .add .i64 (j:Int) 1=j+1:=C5 (by omega) (by omega);rw[if_pos (R9 hj),D9,hu];simp only[Option.bind_some,e];rw[Vm hN hl hw.self.cond ⟨h0,hop.2⟩ ho.gd ru.gd (fun e=>ru.ne (by rw[e];rfl)) (ho.apart ru)];simp only[Option.bind_some]
  by_cases hk:keepsA l p (G4 o) (G4 u)=true
  ·rw[if_pos hk];exact Fi fun s=>⟨fun e=>⟨hk,e⟩,fun e=>e.2⟩
  rw[if_neg hk];exact⟨[],rfl,fun s=>⟨fun h=>absurd h List.not_mem_nil,fun h=>absurd h.1 hk⟩⟩
 ·rw[if_neg V9]
 intro s;rw[Sm.i5 h0 hop.2 ha]
 constructor
 ·rintro⟨x,hx,hk,rfl⟩;exact⟨(h3 _).1 hx,hk⟩
 rintro⟨h,hk⟩;exact⟨s,(h3 s).2 h,hk,rfl⟩
theorem Wm {k:Nat} (ih:IHk N l k) {p:A0} (hw:Kt p) (hp:p.pre.length≤64) (hs:Nt l.length p) (h0:p.Op=4) {o:List BD} {f:Nat} (ho:OC l (G4 o) f) {n:Nat} (hmu:mu l p f≤k+1) (hn:8*k+15≤n):∃R,Ef N n ⟨l,false⟩ p o f=some R∧∀s,s∈R↔Sm l p (G4 o) f (G4 s):=by
 unfold Ef;rw[if_neg (by omega),if_neg (by omega),if_neg (by omega),if_neg (by omega),if_pos h0];obtain⟨n,rfl⟩:∃m,n=m+2:=⟨n - 2,by omega⟩;unfold K5 O3;obtain⟨q,ha⟩:=hw.self.a2 (by omega)
 have hq:q∈p.cO:=by rw[ha];simp
 have m1:=FM (l:=l) (f:=f) (g:=f) (P8 hq);obtain⟨L,h1,h2,h3⟩:=ih q o f n (by omega) (by omega) (by have:=P8 hq;omega) (hw.arg hq) (hs.arg hq) ho;have hc:=EX (hw.arg hq) (hs.arg hq) ho h2 fun s hs=>(h3 s).1 hs
 have hi:B7 p.cO 0=some q:=by rw[ha];rfl
 rw[hi];simp only[Option.bind_some];rw[h1];simp only[Option.bind_some];obtain⟨n,rfl⟩:∃m,n=m+2:=⟨n - 2,by omega⟩
 obtain⟨R,r1,r2⟩:=TZ hN hl (hw.arg hq) (hs.arg hq) ho (ih q o f n (by omega) (by omega) (by have:=P8 hq;omega) (hw.arg hq) (hs.arg hq) ho) (x5:=fun y1 y2=>G9 N (n+2) y1 y2 ⟨l,false⟩ p)
  (Qr:=fun u t=>Sm l p (mrg (G4 o) (G4 u)) (Z5 (G4 u)+1) (G4 t)) (fun u hu r9 e9=>by
   have ru:=hu.res (hw.arg hq) ho;obtain⟨g,hg,hgl,hfg⟩:=Uz ru ho.f0
   have ho':OC l (G4 r9) (g:Int):=by rw[e9,←hg];exact ho.next ru
   have m2:=ZV (p:=p) (show f<g by omega) hgl;obtain⟨T,t1,t2,t3⟩:=ih p r9 g (n+1) (by omega) (by omega) hp hw hs ho';have hc:=EX hw hs ho' t2 fun s hs=>(t3 s).1 hs;refine⟨T,?_,by omega,fun t=>?_⟩
   ·unfold G9;rw[hg,t1];rfl
   rw[t3,e9,hg]) (fun u t hu ht=>ht.res hw (ho.next (hu.res (hw.arg hq) ho)))
 obtain ⟨W, w1,w2⟩:=NZ (L:=L) (N:=N) (A:=Unit ⊕ Unit) (u:=.inl ()) (Q:=fun x s=>s=x) (step:=fun(s3:Int)=>
         (
          if cmp .lss s3 (Ar.len L)=true then
           (B7 L s3).bind fun x9=>
           if(⟨l,false⟩:B0).full=true then
            some ([],.inr (.inr ()))
           else
            N5 (some ([x9],())) fun _=>
            some ([],.inl (ar .add .i64 s3 1))
          else
           some ([],.inr (.inl ()))
          :Option (List (List A1)×((Int) ⊕ (Unit ⊕ Unit))))) (by omega) (fun j u hu hj hm=>by
  have e:ar .add .i64 (j:Int) 1=j+1:=C5 (by omega) (by omega);rw[if_pos (R9 hj),D9,hu];simp only[Option.bind_some,e,Bool.false_eq_true,if_false]
  exact Fi fun s=>Iff.rfl) (by rw[if_neg V9])
 obtain ⟨V,v1,v2⟩:=Mb (L:=R) (R:=Unit) (Q:=fun x s=>s=x) (body:=fun(_:Unit) (y15:(List A1))=>
         (
          N5 (some ([y15],())) fun _=>
          some ([],.inl ())
          :Option (List (List A1)×(Unit ⊕ Unit)))) fun x hx=>Fi fun s=>Iff.rfl
 refine⟨W++(V++[]),?_,fun s=>?_⟩
 ·refine(congrArg (fun m:Option (List (List BD)×Unit)=>m.bind fun q=>some q.1) (Fa (o:=()) (w':=V++[]) w1 ?_)).trans rfl
  dsimp only
  rw[r1];simp only[Option.bind_some];exact Fa v1 rfl
 rw[append_nil,List.mem_append,w2,v2,Sm.i4 h0 ha];refine or_congr ?_ ?_
 ·constructor
  ·rintro⟨x,hx,rfl⟩;exact(h3 _).1 hx
  intro h;exact⟨s,(h3 s).2 h,rfl⟩
 constructor
 ·rintro⟨x,hx,rfl⟩;obtain⟨u,t,a,b,c⟩:=(r2 _).1 hx;exact⟨G4 u,G4 t,a,b,c⟩
 rintro⟨u,t,a,b,c⟩;exact⟨s,(r2 s).2 ⟨u.map IX,t.map IX,by rw[P3];exact a,by simp only[P3];exact b,by rw[P3,P3];exact c⟩,rfl⟩
def WI :List (List (List BD))→List PR→List PR→Prop
 |[],w,s=>s=w
 |L::r,w,s=>∃u∈L,Cz w (G4 u)∧WI r (mrg w (G4 u)) s
omit hN hl in
theorem WI.snoc :∀{P:List (List (List BD))} {L:List (List BD)} {w s:List PR},WI (P++[L]) w s↔∃t,WI P w t∧∃u∈L,Cz t (G4 u)∧s=mrg t (G4 u)
 |[],L,w,s=>by simp[WI]
 |M::P,L,w,s=>by
  show(∃u∈M,Cz w (G4 u)∧WI (P++[L]) (mrg w (G4 u)) s)↔_
  constructor
  ·rintro⟨u,hu,ha,h⟩;obtain⟨t,ht,h⟩:=WI.snoc.1 h;exact⟨t,⟨u,hu,ha,ht⟩,h⟩
  rintro⟨t,⟨u,hu,ha,ht⟩,h⟩;exact⟨u,hu,ha,WI.snoc.2 ⟨t,ht,h⟩⟩
theorem Rm {f:Int}:∀{P:List (List (List BD))} {w:List BD} {n:Nat},P.length<n→(∀L∈P,L.length≤4096∧∀u∈L,PJ l f (G4 u))→Gd l (G4 w)→∃R,S9 N n P w=some R∧∀s,s∈R↔WI P (G4 w) (G4 s)
 |[],w,n,hn,_,_=>by
  obtain⟨n,rfl⟩:∃m,n=m+1:=⟨n - 1,by omega⟩;unfold S9;refine⟨[w],by rw[if_pos (show cmp .eql (Ar.len ([]:List (List (List BD)))) 0=true from rfl)];rfl,fun s=>?_⟩;rw[List.mem_singleton];exact⟨fun e=>by rw[e];rfl,fun e=>Hz e⟩
 | L::P,w,n,hn,hP,gw=>by
  obtain⟨n,rfl⟩:∃m,n=m+1:=⟨n - 1,by omega⟩;unfold S9;have hwl:=gw.len
  rw[List.length_map]at hwl
  obtain⟨hLl,hL⟩:=hP L (by simp);refine JP ?_;rw[if_neg (by rw[C4,B5];simp;omega),Jr];simp only[Option.bind_some];refine BG (L:=L) (u:=()) (Q:=fun u s=>Cz (G4 w) (G4 u)∧WI P (mrg (G4 w) (G4 u)) (G4 s)) (by omega) ?_ ?_ rfl ?_
  ·intro i u hu hi hm;have ru:=hL u hm;have hul:=ru.gd.len
   rw[List.length_map]at hul
   have e:ar .add .i64 (i:Int) 1=i+1:=C5 (by omega) (by omega);rw[if_pos (R9 hi),D9,hu];simp only[Option.bind_some,e];rw[Vj hN (by omega) (by omega),LD];simp only[Option.bind_some]
   by_cases ha:Cz (G4 w) (G4 u)
   ·rw[NU.2 ha,if_pos (show nt false=true from rfl)];obtain⟨c,c1,c2⟩:=Lo (N:=N) (n:=l.length) (by omega) (by omega) (by omega) gw.asc ru.gd.asc ha gw.wf.ins ru.gd.wf.ins;obtain⟨R,r1,r2⟩:=Rm (P:=P) (w:=c) (n:=n) (by simp at hn;omega) (fun L hL=>hP L (by simp[hL])) (by rw[c2];exact gw.mrg ru.gd ha);rw[c1];simp only[Option.bind_some];rw[r1];refine⟨R++[],Fa rfl rfl,fun s=>?_⟩;rw[append_nil,r2,c2];exact⟨fun h=>⟨ha,h⟩,fun h=>h.2⟩
   have:Ke (G4 w) (G4 u)=true:=by
    cases h:Ke (G4 w) (G4 u)with
    |true=>rfl
    |false=>exact absurd (NU.1 h) ha
   rw[this,if_neg (show¬nt true=true by decide)];exact⟨[],rfl,fun s=>⟨fun h=>absurd h List.not_mem_nil,fun h=>absurd h.1 ha⟩⟩
  ·rw[if_neg V9]
  intro s
  constructor
  ·rintro⟨u,hu,ha,h⟩;exact⟨u,hu,ha,h⟩
  rintro⟨u,hu,ha,h⟩;exact⟨u,hu,ha,h⟩
omit hN hl in
theorem Ai6 {G:A0→List (List BD)} {b:List PR} {f:Int}:∀(n:Nat) {r:List A0} {p:A0},r.length≤n→p.Op=3→p.cO=r→r≠[]→(∀q∈r,∀s,s∈G q↔Sm l q b f (G4 s))→∀s,WI (r.map G) [] s↔Sm l p b f s:=by
 intro n
 induction n with
 |zero=>intro r p hl _ _ hn;exact absurd (List.eq_nil_of_length_eq_zero (by omega)) hn
 | succ n ih=>
  intro r p hln h0 ha hn hG s
  rcases List.eq_nil_or_concat r with rfl|⟨m,q,rfl⟩
  ·exact absurd rfl hn
  rw[List.concat_eq_append]at *
  rw[List.map_append,List.map_cons,List.map_nil,WI.snoc]
  by_cases hm:m=[]
  ·subst hm;rw[Sm.i3 h0 ha]
   constructor
   ·rintro⟨t,ht,u,hu,_,e⟩;have ht:t=[]:=ht;rw[e,ht,Cg];exact(hG q (by simp) u).1 hu
   intro h;refine⟨[],rfl,s.map IX,(hG q (by simp) _).2 (by rw[P3];exact h),fun x hx=>absurd hx List.not_mem_nil,?_⟩;rw[P3,Cg]
  rw[Sm.i3c h0 ha hm];have ih':=fun t=>ih (r:=m) (p:={p with cO:=m}) (by simp at hln;omega) h0 rfl hm (fun q hq=>hG q (by simp[hq])) t
  constructor
  ·rintro⟨t,ht,u,hu,hd,e⟩;exact⟨t,G4 u,(ih' t).1 ht,(hG q (by simp) u).1 hu,hd,e⟩
  rintro⟨t,u,ht,hu,hd,e⟩;exact⟨t,(ih' t).2 ht,u.map IX,(hG q (by simp) _).2 (by rw[P3];exact hu),by rw[P3];exact hd,by rw[P3];exact e⟩
theorem YB {k:Nat} (ih:IHk N l k) {p:A0} (hw:Kt p) (hp:p.pre.length≤64) (hs:Nt l.length p) (h0:p.Op=3) {o:List BD} {f:Nat} (ho:OC l (G4 o) f) {n:Nat} (hmu:mu l p f≤k+1) (hn:8*k+15≤n):∃R,Ef N n ⟨l,false⟩ p o f=some R∧∀s,s∈R↔Sm l p (G4 o) f (G4 s):=by
 unfold Ef;rw[if_neg (by omega),if_neg (by omega),if_neg (by omega),if_pos h0];obtain⟨n,rfl⟩:∃m,n=m+2:=⟨n - 2,by omega⟩;unfold L7 Q2;have hal:=Dh p
 let G:A0→List (List BD):=fun q=>(C6 N n ⟨l,false⟩ q o f).getD []
 have hG:∀q∈p.cO,C6 N n ⟨l,false⟩ q o f=some (G q)∧(∀s,s∈G q↔Sm l q (G4 o) f (G4 s))∧(G q).length≤1500:=fun q hq=>by
  have:=FM (l:=l) (f:=f) (g:=f) (P8 hq);obtain⟨L,h1,h2,h3⟩:=ih q o f n (by omega) (by omega) (by have:=P8 hq;omega) (hw.arg hq) (hs.arg hq) ho;have hc:=EX (hw.arg hq) (hs.arg hq) ho h2 fun s hs=>(h3 s).1 hs
  have e:G q=L:=by show(C6 N n ⟨l,false⟩ q o f).getD []=L;rw[h1];rfl
  exact⟨by rw[e];exact h1,by rw[e];exact h3,by rw[e];exact hc⟩
 have key:∀(k i M:Nat) (acc:List (List (List BD))),i+k=p.cO.length→k<M→acc.length≤i→W0 (fun(s1:(List (List (List A1)))×Int)=>
  (
   if cmp .lss s1.2 (Ar.len p.cO)=true then
    (B7 p.cO s1.2).bind fun x8=>
    (C6 N n ⟨l,false⟩ x8 o f).bind fun r9=>
    (N6 s1.1 ([r9])).bind fun l11=>
    some ([],.inl (l11,ar .add .i64 s1.2 1))
   else
    some ([],.inr s1.1)
   :Option (List (List A1)×(((List (List (List A1)))×Int) ⊕ (((List (List (List A1))))))))) M (acc,(i:Int))=some ([],acc++(p.cO.drop i).map G):=by
  intro k
  induction k with
  |zero=>
   intro i M acc hi hM _;obtain⟨M,rfl⟩:∃m,M=m+1:=⟨M - 1,by omega⟩;rw[List.drop_eq_nil_of_le (by omega)];unfold W0
   dsimp only
   rw[if_neg (Dd (by rw[B5];omega))];simp
  |succ k ihk=>
   intro i M acc hi hM hacc;obtain⟨M,rfl⟩:∃m,M=m+1:=⟨M - 1,by omega⟩
   have hlt:i<p.cO.length:=by omega
   have e:ar .add .i64 (i:Int) 1=i+1:=C5 (by omega) (by omega);rw[List.drop_eq_getElem_cons hlt];unfold W0
   dsimp only
   rw[if_pos (R9 (by omega)),D9,List.getElem?_eq_getElem hlt];simp only[Option.bind_some];rw[(hG _ (List.getElem_mem hlt)).1];simp only[Option.bind_some];rw[Y6 (by simp;omega)];simp only[Option.bind_some,e];rw[show((i:Int)+1)=((i+1:Nat):Int) by omega,ihk (i+1) M _ (by omega) (by omega) (by simp;omega),List.map_cons,List.append_assoc];rfl
 have hk:=key p.cO.length 0 N [] (by omega) (by omega) (by simp)
 simp only[List.drop_zero,List.nil_append]at hk
 have hk':((0:Nat):Int)=0:=rfl
 rw[hk']at hk
 obtain⟨R,r1,r2⟩:=Rm hN hl (f:=f) (P:=p.cO.map G) (w:=[]) (n:=N) (by simp;omega) (fun L hL=>by
  obtain⟨q,hq,rfl⟩:=List.mem_map.1 hL;obtain⟨_,h2,h3⟩:=hG q hq
  exact⟨by omega,fun u hu=>((h2 u).1 hu).res (hw.arg hq) ho⟩) (Gd.nil l)
 refine JP ⟨[]++(R++[]),Fa hk ?_,fun s=>?_⟩
 ·rw[if_pos (show nt (⟨l,false⟩:B0).full=true from rfl),r1];simp only[Option.bind_some];exact Fa rfl rfl
 rw[List.nil_append,append_nil,r2];exact Ai6 _ (Nat.le_refl _) h0 rfl (hw.self.a1 (by omega) (by omega)) (fun q hq=>(hG q hq).2.1) _
theorem VE :∀k,IHk N l k:=by
 intro k
 induction k with
 |zero=>
  intro p o f n hmu;exfalso;have h1:=A0.pre_eq p
  have:1≤p.pre.length:=by rw[h1];simp
  unfold mu at hmu
  have:=Nat.mul_le_mul_right (l.length+2) this;omega
 | succ k ih=>
  intro p o f n hmu hn hp hw hs ho;obtain⟨n,rfl⟩:∃m,n=m+1:=⟨n - 1,by omega⟩;have hop:=hw.self.op
  have hf:∃R,Ef N n ⟨l,false⟩ p o f=some R∧∀s,s∈R↔Sm l p (G4 o) f (G4 s):=by
   by_cases h0:p.Op=0
   ·exact Tx hN hl hw h0 ho n
   by_cases h1:p.Op=1
   ·exact Yz hN hl ih hw hp hs h1 ho hmu (by omega)
   by_cases h2:p.Op=2
   ·exact YA hN hl ih hw hp hs h2 ho hmu (by omega)
   by_cases h3:p.Op=3
   ·exact YB hN hl ih hw hp hs h3 ho hmu (by omega)
   by_cases h4:p.Op=4
   ·exact Wm hN hl ih hw hp hs h4 ho hmu (by omega)
   exact Wl hN hl ih hw hp hs (by omega) ho hmu (by omega)
  obtain⟨R,h1,h2⟩:=hf;exact Ag7 hN hl hw hs ho h1 h2
end
end
end Go.Ab
namespace Go.Ab
open Classical
noncomputable section
def add1 (out:List (List PR))(s:List PR):List (List PR):=if s∈out then out else out++[s]
def Nd (P:List PR→Prop)(out:List (List PR)):Prop:=out.Nodup∧∀s∈out,P s
theorem Nd.nil (P:List PR→Prop):Nd P []:=⟨List.nodup_nil,fun _ h=>absurd h List.not_mem_nil⟩
theorem Nd.add {P:List PR→Prop}{out:List (List PR)}{s:List PR}(h:Nd P out)(hs:P s):Nd P (add1 out s):=by
 unfold add1
 split
 ·exact h
 rename_i hin;refine⟨List.nodup_append.2 ⟨h.1,by simp,fun a ha b hb e=>hin (by rw[←List.mem_singleton.1 hb,←e];exact ha)⟩,fun x hx=>?_⟩
 rcases List.mem_append.1 hx with hx|hx
 ·exact h.2 x hx
 rw[List.mem_singleton.1 hx];exact hs
def Af8 (r:Option (List (List PR)))(l:List A6)(p:A0)(b:List PR)(f:Int):Prop:=∃L,r=some L∧L.Nodup∧∀s,s∈L↔Sm l p b f s
theorem Af8.mk {x:Option (List (List PR))}{l:List A6}{p:A0}{b:List PR}{f:Int}(h:∃L,x=some L∧L.Nodup∧∀s,s∈L↔Sm l p b f s):Af8 (x.bind fun s=>some s) l p b f:=by
 obtain⟨L,rfl,h⟩:=h;exact⟨L,rfl,h⟩
section
variable {N:Nat}(hN:40000000≤N){l:List A6}(hl:l.length≤10)
include hN hl
end
end
end Go.Ab
namespace Go.Ab
open Classical
noncomputable section
def L8 :List Int→List Int→Int
 |[],[]=>0
 |[],_::_=> -1
 |_::_,[]=>1
 |x::a,y::b=>if x<y then -1 else if y<x then 1 else L8 a b
theorem DO :∀a:List Int,L8 a a=0
 |[]=>rfl
 |x::a=>by simp[L8,DO a]
theorem UD :∀{a b:List Int},L8 a b=0→a=b
 |[],[],_=>rfl
 |[],_::_,h=>by simp[L8]at h
 |_::_,[],h=>by simp[L8]at h
 |x::a,y::b,h=>by
  unfold L8 at h
  split at h
  ·cases h
  split at h
  ·cases h
  rw[UD h];congr 1;omega
theorem My :∀a b:List Int,L8 b a= - L8 a b
 |[],[]=>rfl
 |[],_::_=>rfl
 |_::_,[]=>rfl
 |x::a,y::b=>by
  unfold L8;rw[My a b]
  split<;>split<;>first|omega|rfl
theorem IB :∀{a b c:List Int},L8 a b<0→L8 b c<0→L8 a c<0
 |[],[],_,h,_=>by simp[L8]at h
 |_::_,[],_,h,_=>by simp[L8]at h
 |_,_::_,[],_,h=>by simp[L8]at h
 |[],_::_,_::_,_,_=>by simp[L8]
 | x::a,y::b,z::c,h1,h2=>by
  unfold L8 at h1 h2 ⊢
  by_cases h3:x<z
  ·rw[if_pos h3];decide
  rw[if_neg h3]
  by_cases h4:x<y
  ·by_cases h5:y<z
   ·omega
   rw[if_neg h5]at h2
   have:z<y:=by omega
   rw[if_pos this]at h2;cases h2
  rw[if_neg h4]at h1
  by_cases h5:y<x
  ·rw[if_pos h5]at h1;cases h1
  rw[if_neg h5]at h1
  by_cases h6:y<z
  ·omega
  rw[if_neg h6]at h2
  by_cases h7:z<y
  ·rw[if_pos h7]at h2;cases h2
  rw[if_neg h7]at h2
  rw[if_neg (by omega)];exact IB h1 h2
def tri (a b:Int):Int:=if a<b then -1 else if b<a then 1 else 0
theorem Fv (N:Nat)(a b:Int):J2 N a b=some (tri a b):=by
 unfold J2 BB tri;simp only[Option.bind_some,H9,C1,Bg,decide_true,Bool.not_true,Bool.false_eq_true,if_false,decide_eq_true_eq]
 split
 ·rfl
 split<;>rfl
theorem or_eq {N:Nat} (hN:40000000≤N) {l:List Int} (hl:l.length≤1000):BN N l=some (V5 id l):=by
 unfold BN;rw[I7 l (by omega) (mk:=fun(_:Unit) i=>i) (body:=Ax fun x=>some x) (fin:=fun _=>.inl ()) (s:=()) (by omega) ?_ ?_]
 ·rw[Y1 (F:=fun x=>some x) (f:=id) fun x _=>rfl]
  by_cases h:V5 id l=0
  ·rw[if_pos h,h];rfl
  rw[if_neg h];rfl
 ·intro s i x hx hi;have e:ar .add .i64 (i:Int) 1=i+1:=C5 (by omega) (by omega);simp only[C1,B5,hi,decide_true,if_true,D9,hx,Option.bind_some,e,Ax]
  split<;>rfl
 intro s;simp[C1,B5]
def HP (r:Gv):List Int:=[r.Time,r.Source,r.Seq]
def Dn (x:E8):List Int:=[x.Ref.Time,x.Ref.Source,x.Ref.Seq,x.Var]
theorem lex3 (a1 a2 a3 b1 b2 b3:Int):L8 [a1,a2,a3] [b1,b2,b3]=V5 id [tri a1 b1,tri a2 b2,tri a3 b3]:=by
 simp only[L8,V5,tri,id]
 repeat' split
 all_goals first|rfl|omega
theorem lex4 (a1 a2 a3 a4 b1 b2 b3 b4:Int):L8 [a1,a2,a3,a4] [b1,b2,b3,b4]=V5 id [L8 [a1,a2,a3] [b1,b2,b3],tri a4 b4]:=by
 simp only[L8,V5,tri,id]
 repeat' split
 all_goals first|rfl|omega
theorem ZA {N:Nat}(hN:40000000≤N)(a b:Gv):Ea N a b=some (L8 (HP a) (HP b)):=by
 unfold Ea;rw[Fv,Fv,Fv];simp only[Option.bind_some];rw[or_eq hN (by simp),HP,HP,lex3];rfl
theorem QZ (N:Nat)(a b:Gv):R6 N a b=some (L8 (HP a) (HP b)):=by
 unfold R6 HP;simp only[H9,C1,Bg,L8,decide_eq_true_eq,Bool.not_eq_true',decide_eq_false_iff_not]
 repeat' split
 all_goals first|rfl|omega
theorem YF {N:Nat}(hN:40000000≤N)(a b:A6):BA N a b=some (L8 [a.Time,a.Source,a.Seq] [b.Time,b.Source,b.Seq]):=by
 unfold BA CI;simp only[Option.bind_some,Fv];rw[or_eq hN (by simp),←lex3];simp only[L4,C4,Bool.and_true,Bool.and_eq_true,decide_eq_true_eq,Option.bind_some]
 by_cases h:a.Time=b.Time∧a.Source=b.Source∧a.Seq=b.Seq
 ·rw[if_pos h,h.1,h.2.1,h.2.2,DO]
 rw[if_neg h]
theorem YN {N:Nat}(hN:40000000≤N)(a b:E8):W9 N a b=some (L8 (Dn a) (Dn b)):=by
 unfold W9;rw[ZA hN,Fv];simp only[Option.bind_some];rw[or_eq hN (by simp),Dn,Dn,lex4];rfl
def mO :List E8→List E8→Int
 |[],[]=>0
 |[],_::_=> -1
 |_::_,[]=>1
 |x::a,y::b=>if L8 (Dn x) (Dn y)≠0 then L8 (Dn x) (Dn y)else mO a b
def Nm (m:List E8):List Int:=m.flatMap Dn
theorem UC :∀{a b:List Int} (c d:List Int),a.length=b.length→L8 (a++c) (b++d)=if L8 a b≠0 then L8 a b else L8 c d
 |[],[],c,d,_=>by simp[L8]
 |[],_::_,_,_,h=>by simp at h
 |_::_,[],_,_,h=>by simp at h
 |x::a,y::b,c,d,h=>by
  simp only[List.cons_append,L8];have ih:=UC (a:=a) (b:=b) c d (by simpa using h)
  by_cases h1:x<y
  ·simp[h1]
  by_cases h2:y<x
  ·simp[h1,h2]
  simp only[h1,h2,if_false];exact ih
theorem NX :∀a b:List E8,mO a b=L8 (Nm a) (Nm b)
 |[],[]=>rfl
 |[],y::b=>by simp[mO,Nm,Dn,L8]
 |x::a,[]=>by simp[mO,Nm,Dn,L8]
 |x::a,y::b=>by
  simp only[mO,Nm,List.flatMap_cons];rw[UC _ _ (by simp[Dn])];have:=NX a b;rw[this];rfl
theorem ZX {N:Nat} {a b:List E8} {step:Int→Option (Int ⊕ (Unit ⊕ Int))} {k:Unit ⊕ Int→Option Int} (hN:a.length<N) (hl:a.length≤1000000)
 (hs:∀(i:Nat) (h1:i<a.length) (h2:i<b.length),step (i:Int)=if cmp .neq (L8 (Dn a[i]) (Dn b[i])) 0=true then some (.inr (.inr (L8 (Dn a[i]) (Dn b[i]))))else some (.inl (ar .add .i64 (i:Int) 1)))
 (he:∀i:Nat,i≤a.length→i≤b.length→i=a.length∨i=b.length→∃r,step (i:Int)=some (.inr r)∧k r=some (if a.length<b.length then -1 else if b.length<a.length then 1 else 0)) (hk:∀c,k (.inr c)=some c):(loopN step N 0).bind k=some (mO a b):=by
 have key:∀(d i N:Nat),i+d=a.length→d<N→i≤b.length→(loopN step N (i:Int)).bind k=some (mO (a.drop i) (b.drop i)):=by
  have hend:∀(i N:Nat),i≤a.length→i≤b.length→i=a.length∨i=b.length→(loopN step (N+1) (i:Int)).bind k=some (mO (a.drop i) (b.drop i)):=fun i N h1 h2 h=>by
   obtain⟨r,e1,e2⟩:=he i h1 h2 h;simp only[loopN,e1,Option.bind_some,e2]
   by_cases ha:i<a.length
   ·rw[List.drop_eq_getElem_cons ha,List.drop_eq_nil_of_le (show b.length≤i by omega),if_neg (by omega),if_pos (by omega)];rfl
   rw[List.drop_eq_nil_of_le (show a.length≤i by omega)]
   by_cases hb:i<b.length
   ·rw[List.drop_eq_getElem_cons hb,if_pos (by omega)];rfl
   rw[List.drop_eq_nil_of_le (show b.length≤i by omega),if_neg (by omega),if_neg (by omega)];rfl
  intro d
  induction d with
  |zero=>
   intro i N hi hN hb;obtain⟨N,rfl⟩:∃m,N=m+1:=⟨N - 1,by omega⟩;exact hend i N (by omega) hb (by omega)
  |succ d ih=>
   intro i N hi hN hb;obtain⟨N,rfl⟩:∃m,N=m+1:=⟨N - 1,by omega⟩
   by_cases h:i=b.length
   ·exact hend i N (by omega) hb (.inr h)
   have ha:i<a.length:=by omega
   have hb:i<b.length:=by omega
   rw[List.drop_eq_getElem_cons ha,List.drop_eq_getElem_cons hb,mO];unfold loopN;rw[hs i ha hb,C5 (by omega) (by omega)]
   by_cases hz:L8 (Dn a[i]) (Dn b[i])=0
   ·rw[if_neg (show¬(cmp .neq (L8 (Dn a[i]) (Dn b[i])) 0=true)from N2 hz),if_neg (by simpa using hz)];exact ih (i+1) N (by omega) (by omega) (by omega)
   rw[if_pos (show cmp .neq (L8 (Dn a[i]) (Dn b[i])) 0=true from S5 hz),if_pos hz];exact hk _
 simpa using key a.length 0 N (by omega) hN (by omega)
theorem Pj {N:Nat} (hN:40000000≤N) {x y:D1} (hx:x.cQ.length≤1000000) (hy:y.cQ.length≤1000000):Au N x y=some (mO x.cQ y.cQ):=by
 obtain⟨a⟩:=x;obtain⟨b⟩:=y
 dsimp only at hx hy ⊢
 unfold Au E1
 dsimp only
 refine congrArg (fun o:Option Int=>o.bind fun r1=>some r1) (ZX (a:=a) (b:=b) (by omega) hx (fun i h1 h2=>?_) (fun i h1 h2 h=>?_) fun _=>rfl)
 ·rw[if_pos (R9 (by omega)),D9,List.getElem?_eq_getElem h1];simp only[Option.bind_some];rw[if_neg (by rw[K2,B5];simp;omega),D9,List.getElem?_eq_getElem h2];simp only[Option.bind_some];rw[YN hN];rfl
 by_cases ha:i<a.length
 ·refine⟨.inr 1,?_,?_⟩
  ·rw[if_pos (R9 (by omega)),D9,List.getElem?_eq_getElem ha];simp only[Option.bind_some];rw[if_pos (by rw[K2,B5];simp;omega)]
  rw[if_neg (show¬a.length<b.length by omega),if_pos (show b.length<a.length by omega)]
 refine⟨.inl (),by rw[if_neg (Dd (by rw[B5];omega))],?_⟩
 dsimp only
 by_cases hb:a.length<b.length
 ·rw[if_pos (FN (by rw[B5,B5];omega)),if_pos hb]
 rw[if_neg (Dd (by rw[B5,B5];omega)),if_neg hb,if_neg (show¬b.length<a.length by omega)]
end
end Go.Ab
namespace Go.Ab
open Classical
noncomputable section
def Z6 (e:A6):List Int:=[e.Time,e.Source,e.Seq]
def FH (e:A6):Bool:=(an (an (an (an (an (cmp .geq e.Time 0) (cmp .leq e.Time 1099511627776)) (cmp .geq e.Source 0)) (cmp .lss e.Source 8)) (cmp .geq e.Seq 0)) (cmp .leq e.Seq 1099511627776))
def BW (a b:A6):Bool:=decide (a.Source=b.Source)&&decide (a.Seq=b.Seq)
def Kr (l:List A6)(i:Nat):Int:=
 match l[i]? with
 |none=>0
 |some e=>if FH e=false then 2 else if 0<i∧0≤L8 (Z6 ((l[i - 1]?).getD e)) (Z6 e)then 14 else if(l.take i).any (fun x=>BW x e)=true then 7 else 0
def Gs (l:List A6):Int:=if 4096<l.length then 5 else V5 (Kr l) (List.range l.length)
theorem WZ {N : Nat} (hN:40000000≤N) {l:List A6} (hl:l.length≤4096) {i:Nat} (hi:i<l.length):(loopN
                    (fun(s10:Int)=>
                     (
                      if cmp .lss s10 (i:Int)=true then
                       (B7 l s10).bind fun x12=>
                       (CC N x12 l[i]).bind fun r14=>
                       if r14=true then
                        some (.inr (.inr ()))
                       else
                        some (.inl (ar .add .i64 s10 1))
                      else
                       some (.inr (.inl ()))
                      :Option ((Int) ⊕ (Unit ⊕ Unit))))
                    N 0)=some (if(l.take i).any (fun x=>BW x l[i])=true then .inr ()else .inl ()):=by
 have hlen:(l.take i).length=i:=by rw[List.length_take];omega
 rw [Kg (l:=l.take i) (fun x=>BW x l[i]) (by omega) (by omega) (fun j x hx hj=>by
     have hji:j<i:=by omega
     have e:ar .add .i64 (j:Int) 1=j+1:=C5 (by omega) (by omega)
     rw[List.getElem?_take_of_lt hji]at hx
     rw[if_pos (FN (by omega)),D9,hx];simp only[Option.bind_some,e,CC,C4,L4];unfold BW
     split<;>rfl) (by rw[hlen,if_neg (Dd (Int.lt_irrefl _))])]
theorem ZE {N:Nat} (hN:40000000≤N) {l:List A6}:Da N l=some (Gs l):=by
 unfold Da Gs
 by_cases h1:4096<l.length
 ·rw[if_pos (Be (by rw[B5];omega)),if_pos h1]
 rw[if_neg (X7 (by rw[B5];omega)),if_neg h1];have hr:(List.range l.length).length=l.length:=List.length_range;rw[I7 (List.range l.length) (by omega) (mk:=fun(_:Unit) i=>i) (body:=Ax fun i=>some (Kr l i)) (fin:=fun _=>.inl ()) (s:=()) (by omega) ?_ ?_]
 ·rw[Y1 (F:=fun i=>some (Kr l i)) (f:=Kr l) fun x _=>rfl]
  by_cases h:V5 (Kr l) (List.range l.length)=0
  ·rw[if_pos h,h];rfl
  rw[if_neg h];rfl
 ·intro s i x hx hi
  have hil:i<l.length:=by omega
  rw[List.getElem?_range hil]at hx
  cases hx;have e:ar .add .i64 (i:Int) 1=i+1:=C5 (by omega) (by omega);rw[if_pos (R9 (by omega)),FZ hil];simp only[Option.bind_some];rw[WZ hN (by omega) hil]
  have hbs:Kr l i=if FH l[i]=false then 2 else if 0<i∧0≤L8 (Z6 ((l[i - 1]?).getD l[i])) (Z6 l[i])then 14 else if(l.take i).any (fun x=>BW x l[i])=true then 7 else 0:=by
   unfold Kr;rw[List.getElem?_eq_getElem hil]
  unfold DA Fg Ax;simp only[Option.bind_some,e];rw[hbs];have hp:(an (an (an (an (an (cmp .geq l[i].Time 0) (cmp .leq l[i].Time 1099511627776)) (cmp .geq l[i].Source 0)) (cmp .lss l[i].Source 8)) (cmp .geq l[i].Seq 0)) (cmp .leq l[i].Seq 1099511627776))=FH l[i]:=rfl;rw[hp]
  cases FH l[i]with
  |false=>rfl
  | true=>
   rw[if_neg (show¬(nt true=true) by decide),if_neg (show¬(true=false) by decide)]
   by_cases h0:0<i
   ·rw[if_pos (Be (by omega))]
    have e1:ar .sub .i64 (i:Int) 1=((i - 1:Nat):Int):=by rw[Hv (by omega) (by omega)];omega
    have hi1:i - 1<l.length:=by omega
    rw[e1,FZ hi1,List.getElem?_eq_getElem hi1];simp only[Option.bind_some,QZ,Option.getD_some];have hk:L8 (HP ⟨l[i - 1].Time,l[i - 1].Source,l[i - 1].Seq⟩) (HP ⟨l[i].Time,l[i].Source,l[i].Seq⟩)=L8 (Z6 l[i - 1]) (Z6 l[i]):=rfl;rw[hk]
    by_cases h2:0≤L8 (Z6 l[i - 1]) (Z6 l[i])
    ·rw[if_pos (show cmp .geq (L8 (Z6 l[i - 1]) (Z6 l[i])) 0=true by rw[K2];exact decide_eq_true h2),if_pos (show 0<i∧0≤L8 (Z6 l[i - 1]) (Z6 l[i])from⟨h0,h2⟩)];rfl
    rw[if_neg (show¬(cmp .geq (L8 (Z6 l[i - 1]) (Z6 l[i])) 0=true) by rw[K2];simpa using h2),if_neg (show¬(0<i∧0≤L8 (Z6 l[i - 1]) (Z6 l[i]))from fun h=>h2 h.2)];cases(l.take i).any fun x=>BW x l[i]<;>rfl
   rw[if_neg (X7 (by omega)),if_neg (show¬(0<i∧0≤L8 (Z6 ((l[i - 1]?).getD l[i])) (Z6 l[i]))from fun h=>h0 h.1)];cases(l.take i).any fun x=>BW x l[i]<;>rfl
 intro s;rw[hr,if_neg V9]
def Ec (p:List A6):List (C9×Bool):=p.map fun e=>(⟨e.Source,e.Seq⟩,true)
theorem Wh (p:List A6) (e:A6):∃b,IG (Ec p) ⟨e.Source,e.Seq⟩ false=some (p.any fun x=>BW x e,b):=by
 unfold IG Ec
 induction p with
 |nil=>exact⟨false,by simp⟩
 | cons x p ih=>
  obtain⟨b,ih⟩:=ih;rw[List.map_cons,List.find?_cons,any_cons]
  by_cases h:(⟨x.Source,x.Seq⟩:C9)=⟨e.Source,e.Seq⟩
  ·have ht:BW x e=true:=by
    simp only[C9.mk.injEq]at h
    simp[BW,h.1,h.2]
   exact⟨true,by simp[h,ht]⟩
  have ht:BW x e=false:=by
   simp only[C9.mk.injEq]at h
   simp only[BW,Bool.and_eq_false_iff,decide_eq_false_iff_not]
   by_cases h1:x.Source=e.Source
   ·exact .inr fun h2=>h ⟨h1,h2⟩
   exact .inl h1
  refine⟨b,?_⟩;simp only[h,decide_false,ht,Bool.false_or];exact ih
theorem VC {p:List A6}{e:A6}(h:(p.any fun x=>BW x e)=false):HL (Ec p) ⟨e.Source,e.Seq⟩ true=some (Ec (p++[e])):=by
 unfold HL;rw[if_neg]
 ·simp[Ec]
 intro c
 rw[List.any_eq_true]at c
 obtain⟨q,hq,he⟩:=c
 simp only[Ec,List.mem_map]at hq
 obtain⟨x,hx,rfl⟩:=hq
 rw[List.any_eq_false]at h
 refine h x hx ?_
 simp only[decide_eq_true_eq,C9.mk.injEq]at he
 simp[BW,he.1,he.2]
theorem XX {B:Type} {N n:Nat} {M:Nat→B} {step:(Int×B)→Option ((Int×B) ⊕ (B ⊕ (Int×B)))} (f:Nat→Int) {k:B ⊕ (Int×B)→Option Int} (hN:n<N) (hn:n<1000000000)
 (hs:∀i:Nat,i<n→ar .add .i64 (i:Int) 1=i+1→step ((i:Int),M i)=some (if f i=0 then .inl ((i:Int)+1,M (i+1))else .inr (.inr (f i,M i)))) (he:step ((n:Int),M n)=some (.inr (.inl (M n)))) (h0:∀m,k (.inl m)=some 0) (h1:∀c m,k (.inr (c,m))=some c):(loopN step N (0,M 0)).bind k=some (V5 f (List.range n)):=by
 have key:∀(d i N:Nat),i+d=n→d<N→(loopN step N ((i:Int),M i)).bind k=some (V5 f (List.range' i d)):=by
  intro d
  induction d with
  |zero=>
   intro i N hi hN;obtain⟨N,rfl⟩:∃m,N=m+1:=⟨N - 1,by omega⟩;obtain rfl:i=n:=hi;simp only[loopN,he,Option.bind_some,h0];rfl
  |succ d ih=>
   intro i N hi hN;obtain⟨N,rfl⟩:∃m,N=m+1:=⟨N - 1,by omega⟩;rw[List.range'_succ]
   by_cases hf:f i=0
   ·simp only[loopN,hs i (by omega) (C5 (by omega) (by omega)),V5,hf,if_true];exact ih (i+1) N (by omega) (by omega)
   simp only[loopN,hs i (by omega) (C5 (by omega) (by omega)),V5,hf,if_false,Option.bind_some,h1]
 rw[List.range_eq_range'];exact key n 0 N (by omega) hN
theorem Zw {N:Nat} (hN:40000000≤N) {l:List A6}:BX N l=some (Gs l):=by
 unfold BX Gs
 by_cases h1:4096<l.length
 ·rw[if_pos (Be (by rw[B5];omega)),if_pos h1]
 rw[if_neg (X7 (by rw[B5];omega)),if_neg h1];refine XX (M:=fun i=>Ec (l.take i)) (Kr l) (by omega) (by omega) (fun i hil e=>?_) (by dsimp only;rw[if_neg V9]) (fun _=>rfl) (fun _ _=>rfl);obtain⟨b,hb⟩:=Wh (l.take i) l[i];have hp:CQ N l[i]=some (FH l[i]):=rfl;have hst:CA N l[i]=some ⟨l[i].Source,l[i].Seq⟩:=rfl
 dsimp only
 rw[if_pos (R9 (by omega)),FZ hil];simp only[Option.bind_some];unfold Kr;rw[hp,hst,List.getElem?_eq_getElem hil];simp only[Option.bind_some,hb,e]
 cases FH l[i]with
 |false=>rfl
 | true=>
  rw[if_neg (show¬(nt true=true) by decide),if_neg (show¬(true=false) by decide)]
  have ht:(if(l.take i).any (fun x=>BW x l[i])=true then some (.inr (.inr (7,Ec (l.take i))))else(HL (Ec (l.take i)) ⟨l[i].Source,l[i].Seq⟩ true).bind fun l15=>some (.inl ((i:Int)+1,l15)):Option ((Int×(List (C9×Bool))) ⊕ (((List (C9×Bool))) ⊕ (Int×(List (C9×Bool))))))=some (if(if(l.take i).any (fun x=>BW x l[i])=true then(7:Int)else 0)=0 then .inl ((i:Int)+1,Ec (l.take (i+1)))else .inr (.inr (if(l.take i).any (fun x=>BW x l[i])=true then(7:Int)else 0,Ec (l.take i)))):=by
   by_cases h7:(l.take i).any (fun x=>BW x l[i])=true
   ·simp only[h7,if_true];rfl
   rw[if_neg h7,if_neg h7,VC (by simpa using h7),List.take_succ_eq_append_getElem hil];rfl
  by_cases h0:0<i
  ·have hi1:i - 1<l.length:=by omega
   rw[if_pos (Be (by omega)),show ar .sub .i64 (i:Int) 1=((i - 1:Nat):Int) by rw[Hv (by omega) (by omega)];omega,FZ hi1,List.getElem?_eq_getElem hi1];simp only[Option.bind_some,YF hN,Option.getD_some];have hk:L8 [l[i - 1].Time,l[i - 1].Source,l[i - 1].Seq] [l[i].Time,l[i].Source,l[i].Seq]=L8 (Z6 l[i - 1]) (Z6 l[i]):=rfl;rw[hk]
   by_cases h2:0≤L8 (Z6 l[i - 1]) (Z6 l[i])
   ·rw[if_pos (show cmp .geq (L8 (Z6 l[i - 1]) (Z6 l[i])) 0=true by rw[K2];exact decide_eq_true h2),if_pos (show 0<i∧0≤L8 (Z6 l[i - 1]) (Z6 l[i])from⟨h0,h2⟩)];rfl
   rw[if_neg (show¬(cmp .geq (L8 (Z6 l[i - 1]) (Z6 l[i])) 0=true) by rw[K2];simpa using h2),if_neg (show¬(0<i∧0≤L8 (Z6 l[i - 1]) (Z6 l[i]))from fun h=>h2 h.2)];exact ht
  rw[if_neg (X7 (by omega)),if_neg (show¬(0<i∧0≤L8 (Z6 ((l[i - 1]?).getD l[i])) (Z6 l[i]))from fun h=>h0 h.1)];exact ht
theorem Jz {l:List A6} (hl:l.length≤10) (h:Gs l=0):∀(d i:Nat),i+d+1<l.length→∀(h1:i<l.length) (h2:i+d+1<l.length),L8 (Z6 l[i]) (Z6 l[i+d+1])<0:=by
 have hc:∀i,i<l.length→Kr l i=0:=by
  unfold Gs at h
  rw[if_neg (by omega)]at h
  exact fun i hi=>Z3.1 h i (List.mem_range.2 hi)
 have h1:∀i,∀(h2:i+1<l.length),L8 (Z6 l[i]) (Z6 l[i+1])<0:=fun i h2=>by
  have:=hc (i+1) h2
  unfold Kr at this
  rw[List.getElem?_eq_getElem h2]at this
  dsimp only at this
  split at this
  ·cases this
  split at this
  ·cases this
  rename_i hh
  have hi:i<l.length:=by omega
  simp only[Nat.add_sub_cancel,List.getElem?_eq_getElem hi,Option.getD_some,not_and]at hh
  have:=hh (by omega);omega
 intro d
 induction d with
 |zero=>intro i _ _ h2;exact h1 i h2
 |succ d ih=>
  intro i _ hi h2;exact IB (ih i (by omega) hi (by omega)) (h1 (i+d+1) h2)
end
end Go.Ab
namespace Go.Ab
open Classical
noncomputable section
def Ez (l:List A6)(i:Int):Gv:=match l[i.toNat]? with|some e=>⟨e.Time,e.Source,e.Seq⟩|none=>⟨0,0,0⟩
def W5 (l:List A6)(s:List PR):D1:=⟨s.map fun x=>⟨x.Var,Ez l x.At⟩⟩
theorem Tg (l:List A6)(s:List PR):(W5 l s).cQ.length=s.length:=by simp[W5]
theorem ZC {l:List A6}{i:Int}(h0:0≤i)(h1:i<l.length):∃e,B7 l i=some e∧(⟨e.Time,e.Source,e.Seq⟩:Gv)=Ez l i:=by
 obtain⟨i,rfl⟩:=Int.eq_ofNat_of_zero_le h0
 have hi:i<l.length:=by omega
 exact⟨l[i],FZ hi,by simp[Ez,hi]⟩
theorem ZB {l:List A6} (hl:l.length≤10) (hc:Gs l=0) {i j:Int} (hi:0≤i∧i<l.length) (hj:0≤j∧j<l.length) (h:Ez l i=Ez l j):i=j:=by
 obtain⟨i,rfl⟩:=Int.eq_ofNat_of_zero_le hi.1;obtain⟨j,rfl⟩:=Int.eq_ofNat_of_zero_le hj.1
 have hi':i<l.length:=by omega
 have hj':j<l.length:=by omega
 have hk:Z6 l[i]=Z6 l[j]:=by
  simp only[Ez,Int.toNat_natCast,List.getElem?_eq_getElem hi',List.getElem?_eq_getElem hj',Gv.mk.injEq]at h
  simp[Z6,h.1,h.2.1,h.2.2]
 rcases Nat.lt_trichotomy i j with e|e|e
 ·obtain⟨d,rfl⟩:∃d,j=i+d+1:=⟨j - i - 1,by omega⟩;have:=Jz hl hc d i hj' hi' hj'
  rw[hk,DO]at this;omega
 ·omega
 obtain⟨d,rfl⟩:∃d,i=j+d+1:=⟨i - j - 1,by omega⟩;have:=Jz hl hc d j hi' hj' hi'
 rw[hk,DO]at this;omega
theorem Mu {l:List A6} (hl:l.length≤10) (hc:Gs l=0):∀{a b:List PR},UV l a→UV l b→(W5 l a).cQ=(W5 l b).cQ→a=b
 |[],[],_,_,_=>rfl
 |[],_::_,_,_,h=>by simp[W5]at h
 |_::_,[],_,_,h=>by simp[W5]at h
 | x::a,y::b,ha,hb,h=>by
  simp only[W5,List.map_cons,List.cons.injEq,E8.mk.injEq]at h
  have e:=ZB hl hc (ha x (by simp)).2 (hb y (by simp)).2 h.1.2
  have hxy:x=y:=by
   cases x;cases y
   simp only[I0.mk.injEq]at *
   exact⟨h.1.1,e⟩
  rw[hxy,Mu hl hc (fun z hz=>ha z (by simp[hz])) (fun z hz=>hb z (by simp[hz])) h.2]
theorem Rs :∀{a b:List E8},Nm a=Nm b→a=b
 |[],[],_=>rfl
 |[],_::_,h=>by simp[Nm,Dn]at h
 |_::_,[],h=>by simp[Nm,Dn]at h
 | x::a,y::b,h=>by
  simp only[Nm,List.flatMap_cons,Dn,List.cons_append,List.nil_append,List.cons.injEq]at h
  obtain⟨h1,h2,h3,h4,h5⟩:=h
  have hxy:x=y:=by
   obtain⟨v,t,s,q⟩:=x;obtain⟨v',t',s',q'⟩:=y
   simp only at h1 h2 h3 h4
   rw[h1,h2,h3,h4]
  rw[hxy,Rs h5]
theorem Pl {a b:List E8}(h:mO a b=0):a=b:=Rs (UD (by rw[←NX];exact h))
theorem Uy (a:List E8):mO a a=0:=by rw[NX,DO]
theorem Th (a b:List E8):mO b a= - mO a b:=by rw[NX,NX,My]
theorem XW {a b c:List E8}(h1:mO a b<0)(h2:mO b c<0):mO a c<0:=by rw[NX]at *;exact IB h1 h2
def TR (r:List D1):Prop:=r.Pairwise fun a b=>mO a.cQ b.cQ<0
theorem Ag9 {N:Nat} (hN:40000000≤N) {L r:List D1} (hp:r.Perm L) (ha:TR r) (hb:∀x∈r,x.cQ.length≤1000000) (hl:L.length≤1000000):GE (fun y1 y2=>Au N y1 y2) L=some r:=by
 refine Qp hp (BP.2 ⟨fun a h=>?_,?_⟩) (by omega)
 ·unfold Ze
  dsimp only
  rw[Pj hN (hb a h) (hb a h),Uy];rfl
 refine List.Pairwise.imp_of_mem (fun{x y} hx hy hlt=>?_) ha
 constructor
 ·unfold Pm
  dsimp only
  rw[Pj hN (hb x hx) (hb y hy)];exact decide_eq_true hlt
 unfold Ze
 dsimp only
 rw[Pj hN (hb y hy) (hb x hx),Th];exact decide_eq_true (by omega)
theorem MJ {α:Type}{f:α→E8}:∀(s:List α) (m:D1),s.foldl (fun m x=>⟨m.cQ++[f x]⟩) m=⟨m.cQ++s.map f⟩
 |[],⟨a⟩=>by simp
 |x::s,m=>by rw[List.foldl_cons,MJ s];simp
end
end Go.Ab
namespace Go.Ab
open Classical
noncomputable section
theorem EN (p:A0):(A0.pres p.cO).length+1=p.pre.length:=by rw[A0.pre_eq p];simp
theorem Wp {N:Nat} (hN:40000000≤N):∀(n:Nat) (p:A0),p.pre.length≤n→p.pre.length≤16777216→U0 N n p=some (evs p:Int):=by
 intro n
 induction n with
 |zero=>intro p h;have:=EN p;omega
 | succ n ih=>
  intro p h hb;have hp:=EN p;have hal:=Dh p;unfold U0
  have h0:((if cmp .eql p.Op 0=true then some 1 else some 0:Option Int))=some (if p.Op=0 then 1 else 0):=by
   rw[C4]
   by_cases h:p.Op=0<;>simp[h]
  rw[h0];simp only[Option.bind_some];rw[I7 p.cO (by omega) (mk:=fun(s:Int) i=>(s,i)) (body:=fun s q=>(U0 N n q).bind fun r=>some (.inl (ar .add .i64 s r))) (fin:=fun s=>s) (s:=if p.Op=0 then 1 else 0) (by omega) ?_ ?_]
  ·obtain⟨s',h1,q,h2,h3⟩:=Z0 (R:=Int) (step:=fun(s:Int) q=>(U0 N n q).bind fun r=>some (.inl (ar .add .i64 s r)))
    (fun r s=>∃q,q++r=p.cO∧s=((if p.Op=0 then 1 else 0:Int)+((A0.pres q).countP fun y=>decide (y.Op=0):Nat))) (fun x r s ⟨q,e1,e2⟩=>by
     have hx:x∈p.cO:=by rw[←e1];simp
     have hxl:=P8 hx
     have hq:(A0.pres q).length≤(A0.pres p.cO).length:=by rw[←e1,Dc];simp
     have hc:=List.countP_le_length (p:=fun y:A0=>decide (y.Op=0)) (l:=A0.pres q);have hc2:=List.countP_le_length (p:=fun y:A0=>decide (y.Op=0)) (l:=x.pre);rw[ih x (by omega) (by omega)];refine⟨_,rfl,q++[x],by simpa using e1,?_⟩;have he:(evs x:Int)=((x.pre.countP fun y=>decide (y.Op=0):Nat):Int):=rfl;rw[e2,Dc,List.countP_append]
     have:A0.pres [x]=x.pre:=by simp[A0.pres]
     rw[this,he,C5 (by split<;>omega) (by split<;>omega)]
     omega) (l:=p.cO) (s:=if p.Op=0 then 1 else 0) ⟨[],rfl,by simp[A0.pres]⟩
   rw[h1];simp only[Option.bind_some]
   rw[append_nil]at h2
   rw[h3,h2,Ej]
   by_cases h:p.Op=0<;>simp[h]
  ·intro s i x hx hi;have e:ar .add .i64 (i:Int) 1=i+1:=C5 (by omega) (by omega);simp only[C1,B5,hi,decide_true,if_true,D9,hx,Option.bind_some,e];cases U0 N n x<;>rfl
  intro s;simp[C1,B5]
theorem QV (f:A0→Bool):∀r:List A0,(A0.pres r).any f=r.any fun x=>x.pre.any f
 |[]=>rfl
 |a::r=>by simp only[A0.pres,List.any_append,any_cons,QV f r]
theorem Aa5 {N:Nat} (hN:40000000≤N):∀(n:Nat) (p:A0),p.pre.length≤n→p.pre.length≤16777216→Y8 N n p=some (p.pre.any fun y=>decide (y.Op=4)):=by
 intro n
 induction n with
 |zero=>intro p h;have:=EN p;omega
 | succ n ih=>
  intro p h hb;have hp:=EN p;have hal:=Dh p;unfold Y8;rw[A0.pre_eq p,any_cons]
  by_cases h4:p.Op=4
  ·rw[if_pos (by rw[C4];exact decide_eq_true h4)];simp[h4]
  rw[if_neg (by rw[C4];simpa using h4)]
  rw [Kg (l:=p.cO) (fun x=>x.pre.any fun y=>decide (y.Op=4)) (by omega) (by omega) (fun i x hx hi=>by
      have hm:=List.mem_of_getElem? hx;have hxl:=P8 hm;have e:ar .add .i64 (i:Int) 1=i+1:=C5 (by omega) (by omega);simp only[C1,B5,hi,decide_true,if_true,D9,hx,Option.bind_some,e,ih x (by omega) (by omega)]
      split<;>rfl) (by simp[C1,B5])]
  rw[QV];simp only[h4,decide_false,Bool.false_or]
  by_cases ha:(p.cO.any fun x=>x.pre.any fun y=>decide (y.Op=4))=true
  ·rw[if_pos ha,ha];rfl
  rw[if_neg ha]
  rw[Bool.not_eq_true]at ha
  rw[ha];rfl
theorem QW {N:Nat} (hN:40000000≤N) {b n:Nat} (hb:b≤20000000) (hn:n≤20000000):∃r,BQ N (b:Int) (n:Int) 1500=some r∧(r≤1500→r=((b ^ n:Nat):Int)):=by
 unfold BQ
 have key:∀(k i M:Nat) (out:Int),i+k=n→k<M→out=((b ^ i:Nat):Int)→out≤30000000000→∃r,loopN
  (fun(s1:Int×Int)=>
   (
    if an (cmp .lss s1.2 (n:Int)) (cmp .leq s1.1 1500)=true then
     some (.inl (ar .mul .i64 s1.1 (b:Int),ar .add .i64 s1.2 1))
    else
     some (.inr s1.1)
    :Option ((Int×Int) ⊕ (Int))))
  M (out,(i:Int))=some r∧(r≤1500→r=((b ^ n:Nat):Int)):=by
  intro k
  induction k with
  |zero=>
   intro i M out hi hM ho _;obtain⟨M,rfl⟩:∃m,M=m+1:=⟨M - 1,by omega⟩;refine⟨out,?_,fun _=>by rw[ho,show i=n by omega]⟩;unfold loopN
   dsimp only
   rw[if_neg (by simp only[L4,C1];simp;omega)]
  | succ k ih=>
   intro i M out hi hM ho hs;obtain⟨M,rfl⟩:∃m,M=m+1:=⟨M - 1,by omega⟩
   have h0:0≤out:=by rw[ho];omega
   by_cases hle:out≤1500
   ·have hmul:out*(b:Int)≤1500*20000000:=Int.mul_le_mul hle (by omega) (by omega) (by omega);have hmul0:0≤out*(b:Int):=Int.mul_nonneg h0 (by omega);have em:ar .mul .i64 out (b:Int)=out*(b:Int):=CV (by omega) (by omega);have e:ar .add .i64 (i:Int) 1=i+1:=C5 (by omega) (by omega);obtain⟨r,h1,h2⟩:=ih (i+1) M (out*(b:Int)) (by omega) (by omega) (by rw[ho,Nat.pow_succ];simp) (by omega);refine⟨r,?_,h2⟩;unfold loopN
    dsimp only
    rw[if_pos (by simp only[L4,C1,DF];simp;omega),em,e,show((i:Int)+1)=((i+1:Nat):Int) by omega];exact h1
   refine⟨out,?_,fun h=>absurd h hle⟩;unfold loopN
   dsimp only
   rw[if_neg (by simp only[L4,C1,DF];simp;omega)]
 obtain⟨r,h1,h2⟩:=key n 0 N 1 (by omega) (by omega) (by simp) (by omega);have h0:((0:Nat):Int)=0:=rfl
 rw[h0]at h1
 exact⟨r,by rw[h1];rfl,h2⟩
theorem Xh {N:Nat} (hN:40000000≤N) {p:A0} (hb:p.bulk≤16777216) {l:List A6} (hlb:l.length≤16777216):∃b,CW N p l=some b∧(b=true→l.length≤10∧((evs p+1) ^ l.length≤1500∨(AS p∧l.length ^ evs p≤1500))):=by
 obtain⟨few,hf⟩:=few9 hN hb;have hpb:=DY p;have hev:evs p≤p.pre.length:=List.countP_le_length;unfold CW;rw[hf];simp only[Option.bind_some]
 by_cases h1:Ar.or (nt few) (cmp .gtr (Ar.len l) 10)=true
 ·rw[if_pos h1];exact⟨false,rfl,fun h=>by cases h⟩
 rw[if_neg h1]
 have hl:l.length≤10:=by
  simp only[M9,U3,Bg,B5]at h1
  simp at h1
  omega
 rw[Kg (l:=l) (fun x=>cmp .gtr (Ar.len x.Values) 9) (by omega) (by omega) (fun i x hx hi=>by
  have e:ar .add .i64 (i:Int) 1=i+1:=C5 (by omega) (by omega);rw[if_pos (R9 hi),D9,hx];simp only[Option.bind_some,e]
  split<;>rfl) (by rw[if_neg V9])]
 simp only[Option.bind_some]
 by_cases h2:(l.any fun x=>cmp .gtr (Ar.len x.Values) 9)=true
 ·rw[if_pos h2];exact⟨false,rfl,fun h=>by cases h⟩
 rw[if_neg h2]
 dsimp only
 rw[Wp hN N p (by omega) (by omega),Aa5 hN N p (by omega) (by omega)];simp only[Option.bind_some];obtain⟨r1,h3,h4⟩:=QW hN (b:=evs p+1) (n:=l.length) (by omega) (by omega);obtain⟨r2,h5,h6⟩:=QW hN (b:=l.length) (n:=evs p) (by omega) (by omega);rw[C5 (a:=(evs p:Int)) (by omega) (by omega),show((evs p:Int)+1)=((evs p+1:Nat):Int) by omega,B5,h3];simp only[Option.bind_some]
 by_cases h7:r1≤1500
 ·rw[if_pos (show cmp .leq r1 1500=true from decide_eq_true h7)];exact⟨true,rfl,fun _=>⟨hl,.inl (by have:=h4 h7;omega)⟩⟩
 rw[if_neg (show¬(cmp .leq r1 1500=true) by rw[DF];simpa using h7)]
 cases hp:p.pre.any fun y=>decide (y.Op=4)with
 |true=>
  rw[if_neg (show¬nt true=true by decide)];exact⟨false,rfl,fun h=>by cases h⟩
 | false=>
  rw[if_pos (show nt false=true from rfl),h5];refine⟨decide (r2≤1500),rfl,fun h=>⟨hl,.inr ⟨fun y hy e=>?_,?_⟩⟩⟩
  ·rw[List.any_eq_false]at hp
   exact hp y hy (decide_eq_true e)
  have h8:=of_decide_eq_true h;have:=h6 h8;omega
theorem Ah0 {p:A0}{l:List A6}(hp:p.pre.length≤64)(hs:(evs p+1) ^ l.length≤1500∨(AS p∧l.length ^ evs p≤1500)):Nt l.length p:=by
 rcases hs with h|⟨h1,h2⟩
 ·exact .inl h
 by_cases h3:2≤l.length
 ·exact .inr ⟨h1,h3,h2⟩
 left
 have hev:evs p≤p.pre.length:=List.countP_le_length
 have:l.length=0∨l.length=1:=by omega
 rcases this with h|h<;>rw[h]<;>simp<;>omega
theorem XT {p:A0}{l:List A6}(hp:p.pre.length≤64)(hl:l.length≤10):mu l p 0≤1000:=by
 unfold mu;have:=Nat.mul_le_mul hp (show l.length+2≤12 by omega);omega
theorem ZJ (l:List A6):OC l [] ((0:Nat):Int):=⟨Gd.nil l,fun _ h=>absurd h List.not_mem_nil,by omega,by omega⟩
end
end Go.Ab
namespace Go.Ab
open Classical
noncomputable section
theorem YR (L:List D1) (hn:L.Nodup):∃r:List D1,r.Perm L∧TR r:=by
 have hp:=List.mergeSort_perm L fun a b=>decide (mO a.cQ b.cQ≤0);refine⟨_,hp,?_⟩
 have h1:=List.pairwise_mergeSort (le:=fun a b:D1=>decide (mO a.cQ b.cQ≤0)) (fun a b c hab hbc=>by
  have hab:=of_decide_eq_true hab;have hbc:=of_decide_eq_true hbc;apply decide_eq_true
  by_cases e1:mO a.cQ b.cQ=0
  ·rw[Pl e1];exact hbc
  ·by_cases e2:mO b.cQ c.cQ=0
   ·rw[←Pl e2];exact hab
   have:=XW (a:=a.cQ) (b:=b.cQ) (c:=c.cQ) (by omega) (by omega)
   omega) (fun a b=>by
  have:=Th a.cQ b.cQ
  by_cases h:mO a.cQ b.cQ≤0
  ·simp[h]
  have:mO b.cQ a.cQ≤0:=by omega
  simp[this]) L
 have h2:(L.mergeSort fun a b=>decide (mO a.cQ b.cQ≤0)).Nodup:=hp.nodup_iff.2 hn;refine(h1.and h2).imp fun{a b} h=>?_;have h3:=of_decide_eq_true h.1;have h4:mO a.cQ b.cQ≠0:=fun e=>h.2 (by cases a;cases b;have:=Pl e;dsimp only at this;rw[this]);omega
theorem Ug {N:Nat} (hN:40000000≤N) {p:A0} (hb:p.bulk≤16777216) {l:List A6} (hl:l.length≤10) (hs:(evs p+1) ^ l.length≤1500∨(AS p∧l.length ^ evs p≤1500)) (h1:Gt N p=0) (h2:Gs l=0):
 ∃r,M2 N p l=some (r,0)∧TR r∧(∃L:List (List PR),L.Nodup∧(∀s,s∈L↔Sm l p [] 0 s)∧r.Perm (L.map (W5 l)))∧(∀x∈r,x.cQ.length≤10)∧r.length≤1500:=by
 unfold M2;rw[VM hN hb];simp only[Option.bind_some];rw[if_neg (N2 h1),Zw hN];simp only[Option.bind_some];rw[if_neg (N2 h2)];obtain⟨hw,hp⟩:=Nz hN hb h1;have hsm:=Ah0 hp hs;have hmu:=XT hp hl;obtain⟨L1,a1,a2,a3⟩:=VE hN hl 1000 p [] 0 N hmu (by omega) hp hw hsm (ZJ l);have hcL1:=EX hw hsm (ZJ l) a2 fun s h=>(a3 s).1 h
 have b2:(L1.map G4).Nodup:=by
  rw[Nodup,List.pairwise_map];exact a2.imp fun hne e=>hne (Hz e)
 have b3:∀s,s∈L1.map G4↔Sm l p [] 0 s:=fun s=>by
  rw[List.mem_map]
  constructor
  ·rintro⟨t,ht,rfl⟩;exact(a3 t).1 ht
  intro h;exact⟨s.map IX,(a3 _).2 (by rw[P3];exact h),P3 s⟩
 have hres:∀s∈L1.map G4,PJ l 0 s:=fun s h=>((b3 s).1 h).res hw (ZJ l)
 obtain⟨r,r3,r2⟩:=YR ((L1.map G4).map (W5 l)) (by
  rw[Nodup,List.pairwise_map]
  exact List.Pairwise.imp_of_mem (fun{x y} hx hy hne e=>hne (Mu hl h2 (hres x hx).gd.wf (hres y hy).gd.wf (congrArg D1.cQ e))) b2)
 have hrl:r.length≤1500:=by have:=r3.length_eq;simp only[List.length_map]at this;omega
 have hrb:∀x∈r,x.cQ.length≤10:=fun x hx=>by
  obtain⟨t,ht,rfl⟩:=List.mem_map.1 (r3.mem_iff.1 hx);have:=(hres t ht).gd.len;rw[Tg];omega
 have h00:((0:Nat):Int)=0:=rfl
 rw[h00]at a1
 refine⟨r,?_,r2,⟨L1.map G4,b2,b3,r3⟩,hrb,hrl⟩;rw[a1];simp only[Option.bind_some]
 rw[(NY (L:=L1) (N:=N) (fun(m:List D1) i=>(i,m)) (fun m s=>m++[W5 l (G4 s)]) (fun m=>m) (fun i m=>m.length=i) (by omega) (by omega) rfl (fun m i s hs' hi hm e hl=>by
  have gs:=(((a3 s).1 hm).res hw (ZJ l)).gd;have hsl:=gs.len
  rw[List.length_map]at hsl
  rw[if_pos (R9 hi),D9,hs'];simp only[Option.bind_some]
  rw[(NY (L:=s) (N:=N) (fun(m:D1) i=>(i,m)) (fun m x=>⟨m.cQ++[⟨x.cT,Ez l x.at_⟩]⟩) (fun m=>m) (fun i m=>m.cQ.length=i) (by omega) (by omega) rfl (fun m i x hx hi hm e hl=>by
   have hw:=gs.wf (pr x) (List.mem_map.2 ⟨x,hm,rfl⟩);obtain⟨e',h1,h2⟩:=ZC (l:=l) (i:=x.at_) hw.2.1 hw.2.2;rw[if_pos (R9 hi),D9,hx];simp only[Option.bind_some];rw[h1];simp only[Option.bind_some,CI];rw[Y6 (by simp;omega),e,h2]
   exact⟨rfl,by simp[hl]⟩) (fun m=>by dsimp only;rw[if_neg V9])).1,MJ]
  simp only[Option.bind_some,List.nil_append];rw[Y6 (by simp;omega),e];refine⟨?_,by simp[hl]⟩;simp only[Option.bind_some,W5,G4,List.map_map]
  rfl) (fun m=>by dsimp only;rw[if_neg V9])).1]
 have hf:∀(L:List (List BD)) (m:List D1),L.foldl (fun m s=>m++[W5 l (G4 s)]) m=m++L.map fun s=>W5 l (G4 s):=fun L=>by
  induction L with
  |nil=>intro m;simp
  |cons a L ih=>intro m;rw[List.foldl_cons,ih];simp
 rw[hf,List.nil_append];simp only[Option.bind_some];rw[Ag9 hN (r:=r) ?_ r2 (fun x hx=>by have:=hrb x hx;omega) (by simp;omega)]
 ·rfl
 rw[List.map_map]at r3
 exact r3
end
end Go.Ab
namespace Go.Ab
open Classical
noncomputable section
structure UY (l' l:List A6) (g:A6→A6) (u:Int→Int):Prop where
 mono:∀a b,u a<u b↔a<b
 nn:∀a,0≤u a↔0≤a
 at_:∀j:Nat,j<l'.length→∃i:Nat,u j=i∧l[i]? =(l'[j]?).map g
 typ:∀e,(g e).Typ=e.Typ
def WA (u:Int→Int)(x:PR):PR:=⟨x.Var,u x.At⟩
def Gw (u:Int→Int)(s:List PR):List PR:=s.map (WA u)
def Sk (l:List A6)(s:List PR):Prop:=∀x∈s,∃j:Nat,j<l.length∧x.At=j
def gE (g:A6→A6)(e:Cu):Cu:=⟨e.cV.map fun r=>r.map g⟩
theorem RB {α β:Type}{f g:α→Option β}:∀{l:List α},(∀x∈l,f x=g x)→l.filterMap f=l.filterMap g
 |[],_=>rfl
 |x::l,h=>by rw[List.filterMap_cons,List.filterMap_cons,h x (by simp),RB fun y hy=>h y (by simp[hy])]
theorem Ce {u:Int→Int} (hm:∀a b,u a<u b↔a<b):∀(n:Nat) (a b:List PR),a.length+b.length≤n→mrg (Gw u a) (Gw u b)=Gw u (mrg a b)
 |_,[],b,_=>by show mrg [] (Gw u b)=_;rw[Cg,Cg]
 |_,x::a,[],_=>by show mrg (Gw u (x::a)) []=_;rw[GZ,GZ]
 |0,x::a,y::b,h=>by simp at h
 |n+1,x::a,y::b,h=>by
  simp only[List.length_cons]at h
  show mrg (WA u x::Gw u a) (WA u y::Gw u b)=_
  rw[DZ,DZ]
  by_cases hx:x.At<y.At
  ·rw[if_pos hx,if_pos (show(WA u x).At<(WA u y).At from(hm _ _).2 hx)];exact congrArg (WA u x:: ·) (Ce hm n a (y::b) (by simp;omega))
  rw[if_neg hx,if_neg (show¬(WA u x).At<(WA u y).At from fun h=>hx ((hm _ _).1 h))];exact congrArg (WA u y:: ·) (Ce hm n (x::a) b (by simp;omega))
theorem Yn {u:Int→Int}{s:List PR}(h:s≠[]):Si (Gw u s)=u (Si s):=by
 cases s with
 |nil=>exact absurd rfl h
 |cons x s=>rfl
theorem Pn {u:Int→Int}{s:List PR}(h:s≠[]):Z5 (Gw u s)=u (Z5 s):=by
 obtain⟨x,h1,_,h3⟩:=DP h;rw[h3];unfold Z5 Gw;rw[List.getLast?_map,h1];rfl
theorem Sk.mrg {l:List A6}{a b:List PR}(ha:Sk l a)(hb:Sk l b):Sk l (mrg a b):=fun x hx=>(X6.1 hx).elim (ha x) (hb x)
theorem Sm.inl {l:List A6} {p:A0} {b:List PR} {f:Int} {s:List PR} (h:Sm l p b f s):s≠[]∧Sk l s:=by
 have ne:∀{s t:List PR},s≠[]→mrg s t≠[]:=fun{s t} hs e=>by
  have h1:=congrArg List.length e
  rw[Pg,List.length_nil]at h1
  have:=List.length_pos_iff.2 hs;omega
 induction h with
 |@ev p b f j h0 hf hj ht=>exact⟨by simp,fun x hx=>⟨j,hj,by rw[List.mem_singleton.1 hx]⟩⟩
 |seq1 _ _ _ ih=>exact ih
 |seq _ _ _ _ ih1 ih2=>exact⟨ne ih1.1,ih1.2.mrg ih2.2⟩
 |alt _ _ _ ih=>exact ih
 |all1 _ _ _ ih=>exact ih
 |all _ _ _ _ _ _ ih1 ih2=>exact⟨ne ih1.1,ih1.2.mrg ih2.2⟩
 |plus1 _ _ _ ih=>exact ih
 |plus _ _ _ _ ih1 ih2=>exact⟨ne ih1.1,ih1.2.mrg ih2.2⟩
 |some _ _ _ _ _ ih=>exact ih
namespace UY
variable {l' l:List A6}{g:A6→A6}{u:Int→Int}(E:UY l' l g u)
include E
theorem injU {a b:Int}(h:u a=u b):a=b:=by
 have h1:=E.mono a b;have h2:=E.mono b a;omega
theorem lt_lenU {j i:Nat}(hj:j<l'.length)(h:u j=i):i<l.length∧l[i]? =(l'[j]?).map g:=by
 obtain⟨i',h1,h2⟩:=E.at_ j hj
 have:i=i':=by omega
 subst this
 rw[List.getElem?_eq_getElem hj]at h2
 exact⟨(List.getElem?_eq_some_iff.1 h2).1,by rw[List.getElem?_eq_getElem hj];exact h2⟩
theorem rowP_us {s:List PR}(hs:Sk l' s){c c':Int}(hc:∀x∈s,(u x.At<c↔x.At<c'))(v:Int):Jc l (Gw u s) c v=(Jc l' s c' v).map g:=by
 unfold Jc Gw;rw[List.filterMap_map,List.map_filterMap];refine RB fun x hx=>?_;obtain⟨j,hj,e⟩:=hs x hx;have h1:=hc x hx;obtain⟨i,hi,hl⟩:=E.at_ j hj
 show(if u x.At<c∧x.Var=v then l[(u x.At).toNat]? else none)=_
 by_cases h:x.At<c'∧x.Var=v
 ·rw[if_pos h,if_pos ⟨h1.2 h.1,h.2⟩,e,hi];exact hl
 rw[if_neg h,if_neg fun k=>h ⟨h1.1 k.1,k.2⟩];rfl
theorem envP_us {s:List PR}(hs:Sk l' s){c c':Int}(hc:∀x∈s,(u x.At<c↔x.At<c')):DE l (Gw u s) c=gE g (DE l' s c'):=by
 unfold DE gE;rw[List.map_map];exact congrArg Cu.mk (List.map_congr_left fun v _=>E.rowP_us hs hc _)
theorem hasA_us (s:List PR)(i:Int):IF (Gw u s) (u i)=IF s i:=by
 unfold IF Gw;rw[List.any_map];refine congrArg (fun f=>List.any s f) (funext fun x=>?_);exact decide_eq_decide.2 ⟨fun h=>E.injU h,fun h=>congrArg u h⟩
end UY
structure Cok (g:A6→A6) (c:A3):Prop where
 at_:∀env own ev,T9 (gE g env) own (g ev) c=T9 env own ev c
 no:∀env,T9 (gE g env) (-1) ⟨0,0,0,0,[]⟩ c=T9 env (-1) ⟨0,0,0,0,[]⟩ c
def Tok (l':List A6)(g:A6→A6):Prop:=∀x∈l',∀y∈l',ar .sub .i64 (g x).Time (g y).Time=ar .sub .i64 x.Time y.Time
def Cvx (l':List A6)(u:Int→Int):Prop:=∀a c i:Nat,a<l'.length→c<l'.length→u a<i→(i:Int)<u c→∃j:Nat,j<l'.length∧u j=i
theorem Ov {l:List A6} {p:A0} {b s:List PR}:IK l p b s=true↔∀i:Nat,i<l.length→Si s<(i:Int)→(i:Int)<Z5 s→Gm l p b s i=false:=by
 unfold IK;rw[Bool.not_eq_true',List.any_eq_false]
 constructor
 ·intro h i hi h1 h2;have:=h i (List.mem_range.2 hi)
  simpa[h1,h2]using this
 intro h i hi
 by_cases h1:Si s<(i:Int)∧(i:Int)<Z5 s
 ·simp[h i (List.mem_range.1 hi) h1.1 h1.2]
 simp only[Bool.and_eq_true,decide_eq_true_eq];exact fun h=>h1 h.1
namespace UY
variable {l' l:List A6}{g:A6→A6}{u:Int→Int}(E:UY l' l g u)
include E
theorem testE_us {p:A0}(hc:Cok g p.cP){b:List PR}(hb:Sk l' b){j i:Nat}(hj:j<l'.length)(hi:u j=i):testE l p (Gw u b) i=testE l' p b j:=by
 unfold testE;rw[(E.lt_lenU hj hi).2,List.getElem?_eq_getElem hj]
 show(decide ((g l'[j]).Typ=p.Typ)&&T9 (DE l (Gw u b) i) p.Var (g l'[j]) p.cP)=(decide (l'[j].Typ=p.Typ)&&T9 (DE l' b j) p.Var l'[j] p.cP)
 rw[E.typ,E.envP_us hb (c:=i) (c':=j) fun x _=>by rw[←hi];exact E.mono _ _,hc.at_]
theorem badAt_us {p:A0}(hc:Cok g p.cP){b s:List PR}(hb:Sk l' b)(hs:Sk l' s){j i:Nat}(hj:j<l'.length)(hi:u j=i):Gm l p (Gw u b) (Gw u s) i=Gm l' p b s j:=by
 unfold Gm;rw[(E.lt_lenU hj hi).2,List.getElem?_eq_getElem hj,Ce E.mono _ _ _ (Nat.le_refl _)]
 show(decide ((g l'[j]).Typ=p.Typ)&&(!IF (Gw u s) i)&&T9 (DE l (Gw u (mrg b s)) i) p.Var (g l'[j]) p.cP)=(decide (l'[j].Typ=p.Typ)&&(!IF s j)&&T9 (DE l' (mrg b s) j) p.Var l'[j] p.cP)
 rw[E.typ,E.envP_us (hb.mrg hs) (c:=i) (c':=j) fun x _=>by rw[←hi];exact E.mono _ _,hc.at_,←hi,E.hasA_us]
theorem timeA_us {j:Int}{n:Nat}(e:j=n)(h:n<l'.length):∃x∈l',Kz l (u j)=(g x).Time∧Kz l' j=x.Time:=by
 subst e;obtain⟨i,hi,hl⟩:=E.at_ n h;refine⟨l'[n],List.getElem_mem h,?_,?_⟩
 ·unfold Kz;rw[hi,Int.toNat_natCast,hl,List.getElem?_eq_getElem h];rfl
 unfold Kz;rw[Int.toNat_natCast,List.getElem?_eq_getElem h]
theorem endsU {s:List PR}(hs:Sk l' s)(hn:s≠[]):(∃j:Nat,j<l'.length∧Si s=j)∧∃j:Nat,j<l'.length∧Z5 s=j:=by
 obtain⟨x,_,h2,h3⟩:=DP hn;refine⟨?_,by rw[h3];exact hs x h2⟩
 cases s with
 |nil=>exact absurd rfl hn
 |cons y s=>exact hs y (by simp)
theorem keeps_us {p:A0} (hc:Cok g p.cP) (ht:Tok l' g) {b s:List PR} (hb:Sk l' b) (hs:Sk l' s) (hn:s≠[]) (h57:5≤p.Op∧p.Op≤7):
 (keepsA l p (Gw u b) (Gw u s)=true→keepsA l' p b s=true)∧((p.Op=5→Cvx l' u)→keepsA l' p b s=true→keepsA l p (Gw u b) (Gw u s)=true):=by
 obtain⟨⟨a,ha,ea⟩,⟨c,hc',ec⟩⟩:=E.endsU hs hn;unfold keepsA;rw[Yn hn,Pn hn]
 by_cases h6:p.Op=6
 ·rw[if_pos h6,if_pos h6];obtain⟨x,hx,x1,x2⟩:=E.timeA_us ea ha;obtain⟨y,hy,y1,y2⟩:=E.timeA_us ec hc';rw[x1,x2,y1,y2,ht y hy x hx];exact⟨id,fun _=>id⟩
 rw[if_neg h6,if_neg h6]
 by_cases h7:p.Op=7
 ·rw[if_pos h7,if_pos h7,Ce E.mono _ _ _ (Nat.le_refl _),E.envP_us (hb.mrg hs) (c:=l.length) (c':=l'.length) (fun x hx=>by
   obtain⟨j,hj,e⟩:=(hb.mrg hs) x hx;obtain⟨i,hi,_⟩:=E.at_ j hj;have:=(E.lt_lenU hj hi).1
   rw[e,hi];omega),hc.no]
  exact⟨id,fun _=>id⟩
 rw[if_neg h7,if_neg h7,Ov,Ov,Yn hn,Pn hn]
 constructor
 ·intro h j hj h1 h2;obtain⟨i,hi,_⟩:=E.at_ j hj;rw[←E.badAt_us hc hb hs hj hi];exact h i (E.lt_lenU hj hi).1 (by rw[←hi];exact(E.mono _ _).2 h1) (by rw[←hi];exact(E.mono _ _).2 h2)
 intro hv h i hi h1 h2;obtain⟨j,hj,e⟩:=hv (by omega) a c i ha hc' (by rw[←ea];exact h1) (by rw[←ec];exact h2);rw[E.badAt_us hc hb hs hj e];exact h j hj ((E.mono _ _).1 (by rw[e];exact h1)) ((E.mono _ _).1 (by rw[e];exact h2))
end UY
theorem Lv {Q:A0→Prop}(hQ:∀y r,Q y→Q {y with cO:=r}){p:A0}{r:List A0}(h:∀y∈p.pre,Q y)(hr:∀q∈r,q∈p.cO):∀y∈({p with cO:=r}:A0).pre,Q y:=by
 intro y hy
 rw[A0.pre_eq]at hy
 rcases List.mem_cons.1 hy with rfl|hy
 ·exact hQ p r (h p (Am p))
 obtain⟨q,hq,hy⟩:=O8.1 hy;exact h y (by rw[A0.pre_eq];exact List.mem_cons_of_mem _ (O8.2 ⟨q,hr q hq,hy⟩))
theorem X9 {Q:A0→Prop}{p q:A0}(h:∀y∈p.pre,Q y)(hq:q∈p.cO):∀y∈q.pre,Q y:=fun y hy=>h y (by rw[A0.pre_eq];exact List.mem_cons_of_mem _ (O8.2 ⟨q,hq,hy⟩))
def Qn (g:A6→A6)(V:Prop)(y:A0):Prop:=Cok g y.cP∧(y.Op=5→V)
theorem Lq {u:Int→Int}(hm:∀a b,u a<u b↔a<b){s:List PR}(hn:s≠[])(j:Int):Z5 s+1≤j↔Z5 (Gw u s)+1≤u j:=by
 rw[Pn hn];have:=hm (Z5 s) j;omega
theorem UY.up {l' l:List A6} {g:A6→A6} {u:Int→Int} (E:UY l' l g u) (ht:Tok l' g) {p:A0} {b:List PR} {f:Int} {s:List PR} (h:Sm l' p b f s):
 (∀y∈p.pre,Qn g (Cvx l' u) y)→Sk l' b→∀f2:Int,(∀j:Int,f≤j↔f2≤u j)→Sm l p (Gw u b) f2 (Gw u s):=by
 have hQ:∀(y:A0) r,Qn g (Cvx l' u) y→Qn g (Cvx l' u) {y with cO:=r}:=fun y r h=>h
 induction h with
 |@ev p b f j h0 hf hj htt=>
  intro hq hb f2 hF;obtain⟨i,hi,_⟩:=E.at_ j hj
  have e:Gw u [⟨p.Var,(j:Int)⟩]=[⟨p.Var,(i:Int)⟩]:=by simp[Gw,WA,hi]
  rw[e];exact .ev h0 (by rw[←hi];exact(hF j).1 hf) (E.lt_lenU hj hi).1 (by rw[E.testE_us (hq p (Am p)).1 hb hj hi];exact htt)
 |seq1 h0 ha _ ih=>intro hq hb f2 hF;exact .seq1 h0 ha (ih (X9 hq (by rw[ha];simp)) hb f2 hF)
 |@seq p q q' r b f s t h0 ha hs _ ih1 ih2=>
  intro hq hb f2 hF;rw[←Ce E.mono _ _ _ (Nat.le_refl _)];refine .seq h0 ha (ih1 (X9 hq (by rw[ha];simp)) hb f2 hF) ?_;rw[Ce E.mono _ _ _ (Nat.le_refl _)];exact ih2 (Lv hQ hq fun x hx=>by rw[ha];exact List.mem_cons_of_mem _ hx) (hb.mrg hs.inl.2) _ (Lq E.mono hs.inl.1)
 |alt h0 ha _ ih=>intro hq hb f2 hF;exact .alt h0 ha (ih (X9 hq ha) hb f2 hF)
 |all1 h0 ha _ ih=>intro hq hb f2 hF;exact .all1 h0 ha (ih (X9 hq (by rw[ha];simp)) hb f2 hF)
 |@all p q r b f s t h0 ha hn _ _ hd ih1 ih2=>
  intro hq hb f2 hF;rw[←Ce E.mono _ _ _ (Nat.le_refl _)];refine .all h0 ha hn (ih1 (Lv hQ hq fun x hx=>by rw[ha];simp[hx]) hb f2 hF) (ih2 (X9 hq (by rw[ha];simp)) hb f2 hF) ?_;intro x hx y hy;obtain⟨x',hx',rfl⟩:=List.mem_map.1 hx;obtain⟨y',hy',rfl⟩:=List.mem_map.1 hy;exact fun e=>hd x' hx' y' hy' (E.injU e)
 |plus1 h0 ha _ ih=>intro hq hb f2 hF;exact .plus1 h0 ha (ih (X9 hq (by rw[ha];simp)) hb f2 hF)
 |@plus p q b f s t h0 ha hs _ ih1 ih2=>
  intro hq hb f2 hF;rw[←Ce E.mono _ _ _ (Nat.le_refl _)];refine .plus h0 ha (ih1 (X9 hq (by rw[ha];simp)) hb f2 hF) ?_;rw[Ce E.mono _ _ _ (Nat.le_refl _)];exact ih2 hq (hb.mrg hs.inl.2) _ (Lq E.mono hs.inl.1)
 |@some p q b f s h0 h1 ha hs hk ih=>
  intro hq hb f2 hF;have hp:=hq p (Am p);exact .some h0 h1 ha (ih (X9 hq (by rw[ha];simp)) hb f2 hF) ((E.keeps_us hp.1 ht hb hs.inl.2 hs.inl.1 ⟨h0,h1⟩).2 hp.2 hk)
theorem UY.dn {l' l:List A6} {g:A6→A6} {u:Int→Int} (E:UY l' l g u) (ht:Tok l' g) {p:A0} {b2:List PR} {f2:Int} {s2:List PR} (h:Sm l p b2 f2 s2):
 (∀y∈p.pre,Qn g True y)→∀(b:List PR) (f:Int),b2=Gw u b→Sk l' b→(∀j:Int,f≤j↔f2≤u j)→(∀x∈s2,∃j:Nat,j<l'.length∧u j=x.At)→∃s,s2=Gw u s∧Sm l' p b f s:=by
 have hQ:∀(y:A0) r,Qn g True y→Qn g True {y with cO:=r}:=fun y r h=>h
 induction h with
 |@ev p b2 f2 i h0 hf hi htt=>
  intro hq b f eb hb hF hx;obtain⟨j,hj,e⟩:=hx ⟨p.Var,(i:Int)⟩ (by simp)
  simp only at e
  subst eb
  rw[E.testE_us (hq p (Am p)).1 hb hj e]at htt
  exact⟨[⟨p.Var,(j:Int)⟩],by simp[Gw,WA,e],.ev h0 ((hF j).2 (by rw[e];exact hf)) hj htt⟩
 |seq1 h0 ha _ ih=>
  intro hq b f eb hb hF hx;obtain⟨s,e,hs⟩:=ih (X9 hq (by rw[ha];simp)) b f eb hb hF hx;exact⟨s,e,.seq1 h0 ha hs⟩
 |@seq p q q' r b2 f2 s2 t2 h0 ha _ _ ih1 ih2=>
  intro hq b f eb hb hF hx;obtain⟨s,rfl,hs⟩:=ih1 (X9 hq (by rw[ha];simp)) b f eb hb hF fun x h=>hx x (X6.2 (.inl h));subst eb;obtain⟨t,rfl,ht⟩:=ih2 (Lv hQ hq fun x hx=>by rw[ha];exact List.mem_cons_of_mem _ hx) (mrg b s) (Z5 s+1) (Ce E.mono _ _ _ (Nat.le_refl _)) (hb.mrg hs.inl.2) (Lq E.mono hs.inl.1) fun x h=>hx x (X6.2 (.inr h));exact⟨mrg s t,Ce E.mono _ _ _ (Nat.le_refl _),.seq h0 ha hs ht⟩
 |alt h0 ha _ ih=>
  intro hq b f eb hb hF hx;obtain⟨s,e,hs⟩:=ih (X9 hq ha) b f eb hb hF hx;exact⟨s,e,.alt h0 ha hs⟩
 |all1 h0 ha _ ih=>
  intro hq b f eb hb hF hx;obtain⟨s,e,hs⟩:=ih (X9 hq (by rw[ha];simp)) b f eb hb hF hx;exact⟨s,e,.all1 h0 ha hs⟩
 |@all p q r b2 f2 s2 t2 h0 ha hn _ _ hd ih1 ih2=>
  intro hq b f eb hb hF hx;obtain⟨s,rfl,hs⟩:=ih1 (Lv hQ hq fun x hx=>by rw[ha];simp[hx]) b f eb hb hF fun x h=>hx x (X6.2 (.inl h));obtain⟨t,rfl,ht⟩:=ih2 (X9 hq (by rw[ha];simp)) b f eb hb hF fun x h=>hx x (X6.2 (.inr h));exact⟨mrg s t,Ce E.mono _ _ _ (Nat.le_refl _),.all h0 ha hn hs ht fun x hx y hy e=>hd (WA u x) (List.mem_map_of_mem hx) (WA u y) (List.mem_map_of_mem hy) (congrArg u e)⟩
 |plus1 h0 ha _ ih=>
  intro hq b f eb hb hF hx;obtain⟨s,e,hs⟩:=ih (X9 hq (by rw[ha];simp)) b f eb hb hF hx;exact⟨s,e,.plus1 h0 ha hs⟩
 |@plus p q b2 f2 s2 t2 h0 ha _ _ ih1 ih2=>
  intro hq b f eb hb hF hx;obtain⟨s,rfl,hs⟩:=ih1 (X9 hq (by rw[ha];simp)) b f eb hb hF fun x h=>hx x (X6.2 (.inl h));subst eb;obtain⟨t,rfl,ht⟩:=ih2 hq (mrg b s) (Z5 s+1) (Ce E.mono _ _ _ (Nat.le_refl _)) (hb.mrg hs.inl.2) (Lq E.mono hs.inl.1) fun x h=>hx x (X6.2 (.inr h));exact⟨mrg s t,Ce E.mono _ _ _ (Nat.le_refl _),.plus h0 ha hs ht⟩
 |@some p q b2 f2 s2 h0 h1 ha _ hk ih=>
  intro hq b f eb hb hF hx;obtain⟨s,rfl,hs⟩:=ih (X9 hq (by rw[ha];simp)) b f eb hb hF hx;subst eb;have hp:=hq p (Am p);exact⟨s,rfl,.some h0 h1 ha hs ((E.keeps_us hp.1 ht hb hs.inl.2 hs.inl.1 ⟨h0,h1⟩).1 hk)⟩
end
end Go.Ab
