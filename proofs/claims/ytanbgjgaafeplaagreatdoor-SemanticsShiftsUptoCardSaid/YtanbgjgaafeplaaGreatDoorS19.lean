/- GTW8 GTW9 GTX0 GTX1 GTX2 GTX3 GTX5 GTG1 -/
import Derived.Test.YtanbgjgaafeplaaGreatDoorS18
set_option linter.all false
open List (Nodup any_cons append_nil)
open Go.Ab.Ar (an ar cmp nt)
namespace Go.Ab
open Classical
noncomputable section
section
variable {N:Nat}(hN:40000000≤N){l:List A3}(hl:l.length≤10)
include hN hl
theorem WZ {k:Nat} (ih:IHk N l k) {p:A0} (hw:Jq p) (hp:p.pre.length≤64) (hs:Mk l.length p) (h0:p.Op=2) {o:List BD} {f:Nat} (ho:No l (F6 o) f) {n:Nat} (hmu:mu l p f≤k+1) (hn:8*k+15≤n):∃R,Dz N n ⟨l,false⟩ p o f=some R∧∀s,s∈R↔Sm l p (F6 o) f (F6 s):=by
 unfold Dz;rw[if_neg (by omega),if_neg (by omega),if_pos h0];obtain⟨n,rfl⟩:∃m,n=m+2:=⟨n - 2,by omega⟩;unfold K5 O7;have hal:=CF p;refine IT ?_;refine Be (L:=p.cN) (u:=()) (Q:=fun q s=>Sm l q (F6 o) f (F6 s)) (by omega) ?_ ?_ rfl ?_
 ·intro i q hu hi hq;have:=Fc (l:=l) (f:=f) (g:=f) (O3 hq);obtain⟨L,h1,h2,h3⟩:=ih q o f n (by omega) (by omega) (by have:=O3 hq;omega) (hw.arg hq) (hs.arg hq) ho;have hc:=Et (hw.arg hq) (hs.arg hq) ho h2 fun s hs=>(h3 s).1 hs;have e:ar .add .i64 (i:Int) 1=i+1:=C0 (by omega) (by omega);rw[if_pos (U8 hi),D5,hu];simp only[Option.bind_some,e];rw[h1];simp only[Option.bind_some];refine Be (L:=L) (u:=()) (Q:=fun x s=>s=x) (by omega) ?_ ?_ rfl ?_
  ·intro j u hu hj hm;have e:ar .add .i64 (j:Int) 1=j+1:=C0 (by omega) (by omega);rw[if_pos (U8 hj),D5,hu];simp only[Option.bind_some,e];exact EE fun s=>Iff.rfl
  ·rw[if_neg X2]
  intro s
  constructor
  ·rintro⟨x,hx,rfl⟩;exact(h3 _).1 hx
  intro h;exact⟨s,(h3 s).2 h,rfl⟩
 ·rw[if_neg X2]
 intro s;exact(Sm.i2 h0).symm
theorem UP {k:Nat} (ih:IHk N l k) {p:A0} (hw:Jq p) (hp:p.pre.length≤64) (hs:Mk l.length p) (h0:5≤p.Op) {o:List BD} {f:Nat} (ho:No l (F6 o) f) {n:Nat} (hmu:mu l p f≤k+1) (hn:8*k+15≤n):∃R,Dz N n ⟨l,false⟩ p o f=some R∧∀s,s∈R↔Sm l p (F6 o) f (F6 s):=by
 unfold Dz;rw[if_neg (by omega),if_neg (by omega),if_neg (by omega),if_neg (by omega),if_neg (by omega)];obtain⟨n,rfl⟩:∃m,n=m+2:=⟨n - 2,by omega⟩;unfold E2 M9;obtain⟨q,ha⟩:=hw.self.a2 (by omega);have hop:=hw.self.op
 have hq:q∈p.cN:=by rw[ha];simp
 have:=Fc (l:=l) (f:=f) (g:=f) (O3 hq);obtain⟨L,h1,h2,h3⟩:=ih q o f n (by omega) (by omega) (by have:=O3 hq;omega) (hw.arg hq) (hs.arg hq) ho;have hc:=Et (hw.arg hq) (hs.arg hq) ho h2 fun s hs=>(h3 s).1 hs;refine IT ?_;rw[ha,Iy];simp only[Option.bind_some];rw[h1];simp only[Option.bind_some];refine Be (L:=L) (u:=()) (Q:=fun x s=>keepsA l p (F6 o) (F6 x)=true∧s=x) (by omega) ?_ ?_ rfl ?_
 ·intro j u hu hj hm;have ru:=((h3 u).1 hm).res (hw.arg hq) ho;have e:ar .add .i64 (j:Int) 1=j+1:=C0 (by omega) (by omega);rw[if_pos (U8 hj),D5,hu];simp only[Option.bind_some,e];rw[TU hN hl hw.self.cond ⟨h0,hop.2⟩ ho.gd ru.gd (fun e=>ru.ne (by rw[e];rfl)) (ho.apart ru)];simp only[Option.bind_some]
  by_cases hk:keepsA l p (F6 o) (F6 u)=true
  ·rw[if_pos hk];exact EE fun s=>⟨fun e=>⟨hk,e⟩,fun e=>e.2⟩
  rw[if_neg hk];exact⟨[],rfl,fun s=>⟨fun h=>absurd h List.not_mem_nil,fun h=>absurd h.1 hk⟩⟩
 ·rw[if_neg X2]
 intro s;rw[Sm.i5 h0 hop.2 ha]
 constructor
 ·rintro⟨x,hx,hk,rfl⟩;exact⟨(h3 _).1 hx,hk⟩
 rintro⟨h,hk⟩;exact⟨s,(h3 s).2 h,hk,rfl⟩
theorem UQ {k:Nat} (ih:IHk N l k) {p:A0} (hw:Jq p) (hp:p.pre.length≤64) (hs:Mk l.length p) (h0:p.Op=4) {o:List BD} {f:Nat} (ho:No l (F6 o) f) {n:Nat} (hmu:mu l p f≤k+1) (hn:8*k+15≤n):∃R,Dz N n ⟨l,false⟩ p o f=some R∧∀s,s∈R↔Sm l p (F6 o) f (F6 s):=by
 unfold Dz;rw[if_neg (by omega),if_neg (by omega),if_neg (by omega),if_neg (by omega),if_pos h0];obtain⟨n,rfl⟩:∃m,n=m+2:=⟨n - 2,by omega⟩;unfold J9 N0;obtain⟨q,ha⟩:=hw.self.a2 (by omega)
 have hq:q∈p.cN:=by rw[ha];simp
 have m1:=Fc (l:=l) (f:=f) (g:=f) (O3 hq);obtain⟨L,h1,h2,h3⟩:=ih q o f n (by omega) (by omega) (by have:=O3 hq;omega) (hw.arg hq) (hs.arg hq) ho;have hc:=Et (hw.arg hq) (hs.arg hq) ho h2 fun s hs=>(h3 s).1 hs
 have hi:B9 p.cN 0=some q:=by rw[ha];rfl
 rw[hi];simp only[Option.bind_some];rw[h1];simp only[Option.bind_some];obtain⟨n,rfl⟩:∃m,n=m+2:=⟨n - 2,by omega⟩
 obtain⟨R,r1,r2⟩:=SF hN hl (hw.arg hq) (hs.arg hq) ho (ih q o f n (by omega) (by omega) (by have:=O3 hq;omega) (hw.arg hq) (hs.arg hq) ho) (x5:=fun y1 y2=>G4 N (n+2) y1 y2 ⟨l,false⟩ p)
  (Qr:=fun u t=>Sm l p (mrg (F6 o) (F6 u)) (X6 (F6 u)+1) (F6 t)) (fun u hu r9 e9=>by
   have ru:=hu.res (hw.arg hq) ho;obtain⟨g,hg,hgl,hfg⟩:=Tf ru ho.f0
   have ho':No l (F6 r9) (g:Int):=by rw[e9,←hg];exact ho.next ru
   have m2:=Yx (p:=p) (show f<g by omega) hgl;obtain⟨T,t1,t2,t3⟩:=ih p r9 g (n+1) (by omega) (by omega) hp hw hs ho';have hc:=Et hw hs ho' t2 fun s hs=>(t3 s).1 hs;refine⟨T,?_,by omega,fun t=>?_⟩
   ·unfold G4;rw[hg,t1];rfl
   rw[t3,e9,hg]) (fun u t hu ht=>ht.res hw (ho.next (hu.res (hw.arg hq) ho)))
 obtain ⟨W, w1,w2⟩:=ML (L:=L) (N:=N) (A:=Unit ⊕ Unit) (u:=.inl ()) (Q:=fun x s=>s=x) (step:=fun(s3:Int)=>
         (
          if cmp .lss s3 (Ar.len L)=true then
           (B9 L s3).bind fun x9=>
           if(⟨l,false⟩:A8).full=true then
            some ([],.inr (.inr ()))
           else
            M3 (some ([x9],())) fun _=>
            some ([],.inl (ar .add .i64 s3 1))
          else
           some ([],.inr (.inl ()))
          :Option (List (List A1)×((Int) ⊕ (Unit ⊕ Unit))))) (by omega) (fun j u hu hj hm=>by
  have e:ar .add .i64 (j:Int) 1=j+1:=C0 (by omega) (by omega);rw[if_pos (U8 hj),D5,hu];simp only[Option.bind_some,e,Bool.false_eq_true,if_false]
  exact EE fun s=>Iff.rfl) (by rw[if_neg X2])
 obtain ⟨V,v1,v2⟩:=KU (L:=R) (R:=Unit) (Q:=fun x s=>s=x) (body:=fun(_:Unit) (y15:(List A1))=>
         (
          M3 (some ([y15],())) fun _=>
          some ([],.inl ())
          :Option (List (List A1)×(Unit ⊕ Unit)))) fun x hx=>EE fun s=>Iff.rfl
 refine⟨W++(V++[]),?_,fun s=>?_⟩
 ·refine(congrArg (fun m:Option (List (List BD)×Unit)=>m.bind fun q=>some q.1) (Ex (o:=()) (w':=V++[]) w1 ?_)).trans rfl
  dsimp only
  rw[r1];simp only[Option.bind_some];exact Ex v1 rfl
 rw[append_nil,List.mem_append,w2,v2,Sm.i4 h0 ha];refine or_congr ?_ ?_
 ·constructor
  ·rintro⟨x,hx,rfl⟩;exact(h3 _).1 hx
  intro h;exact⟨s,(h3 s).2 h,rfl⟩
 constructor
 ·rintro⟨x,hx,rfl⟩;obtain⟨u,t,a,b,c⟩:=(r2 _).1 hx;exact⟨F6 u,F6 t,a,b,c⟩
 rintro⟨u,t,a,b,c⟩;exact⟨s,(r2 s).2 ⟨u.map Ij,t.map Ij,by rw[N8];exact a,by simp only[N8];exact b,by rw[N8,N8];exact c⟩,rfl⟩
def Vl :List (List (List BD))→List PR→List PR→Prop
 |[],w,s=>s=w
 |L::r,w,s=>∃u∈L,BW w (F6 u)∧Vl r (mrg w (F6 u)) s
omit hN hl in
theorem Vl.snoc :∀{P:List (List (List BD))} {L:List (List BD)} {w s:List PR},Vl (P++[L]) w s↔∃t,Vl P w t∧∃u∈L,BW t (F6 u)∧s=mrg t (F6 u)
 |[],L,w,s=>by simp[Vl]
 |M::P,L,w,s=>by
  show(∃u∈M,BW w (F6 u)∧Vl (P++[L]) (mrg w (F6 u)) s)↔_
  constructor
  ·rintro⟨u,hu,ha,h⟩;obtain⟨t,ht,h⟩:=Vl.snoc.1 h;exact⟨t,⟨u,hu,ha,ht⟩,h⟩
  rintro⟨t,⟨u,hu,ha,ht⟩,h⟩;exact⟨u,hu,ha,Vl.snoc.2 ⟨t,ht,h⟩⟩
theorem PW {f:Int}:∀{P:List (List (List BD))} {w:List BD} {n:Nat},P.length<n→(∀L∈P,L.length≤4096∧∀u∈L,Ox l f (F6 u))→Gd l (F6 w)→∃R,R4 N n P w=some R∧∀s,s∈R↔Vl P (F6 w) (F6 s)
 |[],w,n,hn,_,_=>by
  obtain⟨n,rfl⟩:∃m,n=m+1:=⟨n - 1,by omega⟩;unfold R4;refine⟨[w],by rw[if_pos (show cmp .eql (Ar.len ([]:List (List (List BD)))) 0=true from rfl)];rfl,fun s=>?_⟩;rw[List.mem_singleton];exact⟨fun e=>by rw[e];rfl,fun e=>GL e⟩
 | L::P,w,n,hn,hP,gw=>by
  obtain⟨n,rfl⟩:∃m,n=m+1:=⟨n - 1,by omega⟩;unfold R4;have hwl:=gw.len
  rw[List.length_map]at hwl
  obtain⟨hLl,hL⟩:=hP L (by simp);refine IT ?_;rw[if_neg (by rw[C2,B3];simp;omega),Iy];simp only[Option.bind_some];refine Be (L:=L) (u:=()) (Q:=fun u s=>BW (F6 w) (F6 u)∧Vl P (mrg (F6 w) (F6 u)) (F6 s)) (by omega) ?_ ?_ rfl ?_
  ·intro i u hu hi hm;have ru:=hL u hm;have hul:=ru.gd.len
   rw[List.length_map]at hul
   have e:ar .add .i64 (i:Int) 1=i+1:=C0 (by omega) (by omega);rw[if_pos (U8 hi),D5,hu];simp only[Option.bind_some,e];rw[TQ hN (by omega) (by omega),Kx];simp only[Option.bind_some]
   by_cases ha:BW (F6 w) (F6 u)
   ·rw[MG.2 ha,if_pos (show nt false=true from rfl)];obtain⟨c,c1,c2⟩:=Kk (N:=N) (n:=l.length) (by omega) (by omega) (by omega) gw.asc ru.gd.asc ha gw.wf.ins ru.gd.wf.ins;obtain⟨R,r1,r2⟩:=PW (P:=P) (w:=c) (n:=n) (by simp at hn;omega) (fun L hL=>hP L (by simp[hL])) (by rw[c2];exact gw.mrg ru.gd ha);rw[c1];simp only[Option.bind_some];rw[r1];refine⟨R++[],Ex rfl rfl,fun s=>?_⟩;rw[append_nil,r2,c2];exact⟨fun h=>⟨ha,h⟩,fun h=>h.2⟩
   have:Je (F6 w) (F6 u)=true:=by
    cases h:Je (F6 w) (F6 u)with
    |true=>rfl
    |false=>exact absurd (MG.1 h) ha
   rw[this,if_neg (show¬nt true=true by decide)];exact⟨[],rfl,fun s=>⟨fun h=>absurd h List.not_mem_nil,fun h=>absurd h.1 ha⟩⟩
  ·rw[if_neg X2]
  intro s
  constructor
  ·rintro⟨u,hu,ha,h⟩;exact⟨u,hu,ha,h⟩
  rintro⟨u,hu,ha,h⟩;exact⟨u,hu,ha,h⟩
omit hN hl in
theorem Aa8 {G:A0→List (List BD)} {b:List PR} {f:Int}:∀(n:Nat) {r:List A0} {p:A0},r.length≤n→p.Op=3→p.cN=r→r≠[]→(∀q∈r,∀s,s∈G q↔Sm l q b f (F6 s))→∀s,Vl (r.map G) [] s↔Sm l p b f s:=by
 intro n
 induction n with
 |zero=>intro r p hl _ _ hn;exact absurd (List.eq_nil_of_length_eq_zero (by omega)) hn
 | succ n ih=>
  intro r p hln h0 ha hn hG s
  rcases List.eq_nil_or_concat r with rfl|⟨m,q,rfl⟩
  ·exact absurd rfl hn
  rw[List.concat_eq_append]at *
  rw[List.map_append,List.map_cons,List.map_nil,Vl.snoc]
  by_cases hm:m=[]
  ·subst hm;rw[Sm.i3 h0 ha]
   constructor
   ·rintro⟨t,ht,u,hu,_,e⟩;have ht:t=[]:=ht;rw[e,ht,GT];exact(hG q (by simp) u).1 hu
   intro h;refine⟨[],rfl,s.map Ij,(hG q (by simp) _).2 (by rw[N8];exact h),fun x hx=>absurd hx List.not_mem_nil,?_⟩;rw[N8,GT]
  rw[Sm.i3c h0 ha hm];have ih':=fun t=>ih (r:=m) (p:={p with cN:=m}) (by simp at hln;omega) h0 rfl hm (fun q hq=>hG q (by simp[hq])) t
  constructor
  ·rintro⟨t,ht,u,hu,hd,e⟩;exact⟨t,F6 u,(ih' t).1 ht,(hG q (by simp) u).1 hu,hd,e⟩
  rintro⟨t,u,ht,hu,hd,e⟩;exact⟨t,(ih' t).2 ht,u.map Ij,(hG q (by simp) _).2 (by rw[N8];exact hu),by rw[N8];exact hd,by rw[N8];exact e⟩
theorem Xb {k:Nat} (ih:IHk N l k) {p:A0} (hw:Jq p) (hp:p.pre.length≤64) (hs:Mk l.length p) (h0:p.Op=3) {o:List BD} {f:Nat} (ho:No l (F6 o) f) {n:Nat} (hmu:mu l p f≤k+1) (hn:8*k+15≤n):∃R,Dz N n ⟨l,false⟩ p o f=some R∧∀s,s∈R↔Sm l p (F6 o) f (F6 s):=by
 unfold Dz;rw[if_neg (by omega),if_neg (by omega),if_neg (by omega),if_pos h0];obtain⟨n,rfl⟩:∃m,n=m+2:=⟨n - 2,by omega⟩;unfold K6 O8;have hal:=CF p
 let G:A0→List (List BD):=fun q=>(C3 N n ⟨l,false⟩ q o f).getD []
 have hG:∀q∈p.cN,C3 N n ⟨l,false⟩ q o f=some (G q)∧(∀s,s∈G q↔Sm l q (F6 o) f (F6 s))∧(G q).length≤1500:=fun q hq=>by
  have:=Fc (l:=l) (f:=f) (g:=f) (O3 hq);obtain⟨L,h1,h2,h3⟩:=ih q o f n (by omega) (by omega) (by have:=O3 hq;omega) (hw.arg hq) (hs.arg hq) ho;have hc:=Et (hw.arg hq) (hs.arg hq) ho h2 fun s hs=>(h3 s).1 hs
  have e:G q=L:=by show(C3 N n ⟨l,false⟩ q o f).getD []=L;rw[h1];rfl
  exact⟨by rw[e];exact h1,by rw[e];exact h3,by rw[e];exact hc⟩
 have key:∀(k i M:Nat) (acc:List (List (List BD))),i+k=p.cN.length→k<M→acc.length≤i→U2 (fun(s1:(List (List (List A1)))×Int)=>
  (
   if cmp .lss s1.2 (Ar.len p.cN)=true then
    (B9 p.cN s1.2).bind fun x8=>
    (C3 N n ⟨l,false⟩ x8 o f).bind fun r9=>
    (P3 s1.1 ([r9])).bind fun l11=>
    some ([],.inl (l11,ar .add .i64 s1.2 1))
   else
    some ([],.inr s1.1)
   :Option (List (List A1)×(((List (List (List A1)))×Int) ⊕ (((List (List (List A1))))))))) M (acc,(i:Int))=some ([],acc++(p.cN.drop i).map G):=by
  intro k
  induction k with
  |zero=>
   intro i M acc hi hM _;obtain⟨M,rfl⟩:∃m,M=m+1:=⟨M - 1,by omega⟩;rw[List.drop_eq_nil_of_le (by omega)];unfold U2
   dsimp only
   rw[if_neg (BJ (by rw[B3];omega))];simp
  |succ k ihk=>
   intro i M acc hi hM hacc;obtain⟨M,rfl⟩:∃m,M=m+1:=⟨M - 1,by omega⟩
   have hlt:i<p.cN.length:=by omega
   have e:ar .add .i64 (i:Int) 1=i+1:=C0 (by omega) (by omega);rw[List.drop_eq_getElem_cons hlt];unfold U2
   dsimp only
   rw[if_pos (U8 (by omega)),D5,List.getElem?_eq_getElem hlt];simp only[Option.bind_some];rw[(hG _ (List.getElem_mem hlt)).1];simp only[Option.bind_some];rw[W7 (by simp;omega)];simp only[Option.bind_some,e];rw[show((i:Int)+1)=((i+1:Nat):Int) by omega,ihk (i+1) M _ (by omega) (by omega) (by simp;omega),List.map_cons,List.append_assoc];rfl
 have hk:=key p.cN.length 0 N [] (by omega) (by omega) (by simp)
 simp only[List.drop_zero,List.nil_append]at hk
 have hk':((0:Nat):Int)=0:=rfl
 rw[hk']at hk
 obtain⟨R,r1,r2⟩:=PW hN hl (f:=f) (P:=p.cN.map G) (w:=[]) (n:=N) (by simp;omega) (fun L hL=>by
  obtain⟨q,hq,rfl⟩:=List.mem_map.1 hL;obtain⟨_,h2,h3⟩:=hG q hq
  exact⟨by omega,fun u hu=>((h2 u).1 hu).res (hw.arg hq) ho⟩) (Gd.nil l)
 refine IT ⟨[]++(R++[]),Ex hk ?_,fun s=>?_⟩
 ·rw[if_pos (show nt (⟨l,false⟩:A8).full=true from rfl),r1];simp only[Option.bind_some];exact Ex rfl rfl
 rw[List.nil_append,append_nil,r2];exact Aa8 _ (Nat.le_refl _) h0 rfl (hw.self.a1 (by omega) (by omega)) (fun q hq=>(hG q hq).2.1) _
theorem Ul :∀k,IHk N l k:=by
 intro k
 induction k with
 |zero=>
  intro p o f n hmu;exfalso;have h1:=A0.pre_eq p
  have:1≤p.pre.length:=by rw[h1];simp
  unfold mu at hmu
  have:=Nat.mul_le_mul_right (l.length+2) this;omega
 | succ k ih=>
  intro p o f n hmu hn hp hw hs ho;obtain⟨n,rfl⟩:∃m,n=m+1:=⟨n - 1,by omega⟩;have hop:=hw.self.op
  have hf:∃R,Dz N n ⟨l,false⟩ p o f=some R∧∀s,s∈R↔Sm l p (F6 o) f (F6 s):=by
   by_cases h0:p.Op=0
   ·exact Sa hN hl hw h0 ho n
   by_cases h1:p.Op=1
   ·exact WY hN hl ih hw hp hs h1 ho hmu (by omega)
   by_cases h2:p.Op=2
   ·exact WZ hN hl ih hw hp hs h2 ho hmu (by omega)
   by_cases h3:p.Op=3
   ·exact Xb hN hl ih hw hp hs h3 ho hmu (by omega)
   by_cases h4:p.Op=4
   ·exact UQ hN hl ih hw hp hs h4 ho hmu (by omega)
   exact UP hN hl ih hw hp hs (by omega) ho hmu (by omega)
  obtain⟨R,h1,h2⟩:=hf;exact ZN hN hl hw hs ho h1 h2
end
end
end Go.Ab
namespace Go.Ab
open Classical
noncomputable section
def add1 (out:List (List PR))(s:List PR):List (List PR):=if s∈out then out else out++[s]
def Nd (P:List PR→Prop)(out:List (List PR)):Prop:=out.Nodup∧∀s∈out,P s
theorem Nd.nil (P:List PR→Prop):Nd P []:=⟨List.nodup_nil,fun _ h=>absurd h List.not_mem_nil⟩
theorem Nd.add {P:List PR→Prop}{out:List (List PR)}{s:List PR}(h:Nd P out)(hs:P s):Nd P (add1 out s):=by
 unfold add1
 split
 ·exact h
 rename_i hin;refine⟨List.nodup_append.2 ⟨h.1,by simp,fun a ha b hb e=>hin (by rw[←List.mem_singleton.1 hb,←e];exact ha)⟩,fun x hx=>?_⟩
 rcases List.mem_append.1 hx with hx|hx
 ·exact h.2 x hx
 rw[List.mem_singleton.1 hx];exact hs
def ZE (r:Option (List (List PR)))(l:List A3)(p:A0)(b:List PR)(f:Int):Prop:=∃L,r=some L∧L.Nodup∧∀s,s∈L↔Sm l p b f s
theorem ZE.mk {x:Option (List (List PR))}{l:List A3}{p:A0}{b:List PR}{f:Int}(h:∃L,x=some L∧L.Nodup∧∀s,s∈L↔Sm l p b f s):ZE (x.bind fun s=>some s) l p b f:=by
 obtain⟨L,rfl,h⟩:=h;exact⟨L,rfl,h⟩
section
variable {N:Nat}(hN:40000000≤N){l:List A3}(hl:l.length≤10)
include hN hl
end
end
end Go.Ab
namespace Go.Ab
open Classical
noncomputable section
def K3 :List Int→List Int→Int
 |[],[]=>0
 |[],_::_=> -1
 |_::_,[]=>1
 |x::a,y::b=>if x<y then -1 else if y<x then 1 else K3 a b
theorem EG :∀a:List Int,K3 a a=0
 |[]=>rfl
 |x::a=>by simp[K3,EG a]
theorem Tl :∀{a b:List Int},K3 a b=0→a=b
 |[],[],_=>rfl
 |[],_::_,h=>by simp[K3]at h
 |_::_,[],h=>by simp[K3]at h
 |x::a,y::b,h=>by
  unfold K3 at h
  split at h
  ·cases h
  split at h
  ·cases h
  rw[Tl h];congr 1;omega
theorem Qb :∀a b:List Int,K3 b a= - K3 a b
 |[],[]=>rfl
 |[],_::_=>rfl
 |_::_,[]=>rfl
 |x::a,y::b=>by
  unfold K3;rw[Qb a b]
  split<;>split<;>first|omega|rfl
theorem HL :∀{a b c:List Int},K3 a b<0→K3 b c<0→K3 a c<0
 |[],[],_,h,_=>by simp[K3]at h
 |_::_,[],_,h,_=>by simp[K3]at h
 |_,_::_,[],_,h=>by simp[K3]at h
 |[],_::_,_::_,_,_=>by simp[K3]
 | x::a,y::b,z::c,h1,h2=>by
  unfold K3 at h1 h2 ⊢
  by_cases h3:x<z
  ·rw[if_pos h3];decide
  rw[if_neg h3]
  by_cases h4:x<y
  ·by_cases h5:y<z
   ·omega
   rw[if_neg h5]at h2
   have:z<y:=by omega
   rw[if_pos this]at h2;cases h2
  rw[if_neg h4]at h1
  by_cases h5:y<x
  ·rw[if_pos h5]at h1;cases h1
  rw[if_neg h5]at h1
  by_cases h6:y<z
  ·omega
  rw[if_neg h6]at h2
  by_cases h7:z<y
  ·rw[if_pos h7]at h2;cases h2
  rw[if_neg h7]at h2
  rw[if_neg (by omega)];exact HL h1 h2
def XL (a b:Int):Int:=if a<b then -1 else if b<a then 1 else 0
theorem EN (N:Nat)(a b:Int):I4 N a b=some (XL a b):=by
 unfold I4 Bc XL;simp only[Option.bind_some,G9,B8,AK,decide_true,Bool.not_true,Bool.false_eq_true,if_false,decide_eq_true_eq]
 split
 ·rfl
 split<;>rfl
theorem or_eq {N:Nat} (hN:40000000≤N) {l:List Int} (hl:l.length≤1000):Bl N l=some (S4 id l):=by
 unfold Bl;rw[I0 l (by omega) (mk:=fun(_:Unit) i=>i) (body:=Z9 fun x=>some x) (fin:=fun _=>.inl ()) (s:=()) (by omega) ?_ ?_]
 ·rw[W1 (F:=fun x=>some x) (f:=id) fun x _=>rfl]
  by_cases h:S4 id l=0
  ·rw[if_pos h,h];rfl
  rw[if_neg h];rfl
 ·intro s i x hx hi;have e:ar .add .i64 (i:Int) 1=i+1:=C0 (by omega) (by omega);simp only[B8,B3,hi,decide_true,if_true,D5,hx,Option.bind_some,e,Z9]
  split<;>rfl
 intro s;simp[B8,B3]
def Mb (r:EO):List Int:=[r.Time,r.Source,r.Seq]
def AI (x:C1):List Int:=[x.Ref.Time,x.Ref.Source,x.Ref.Seq,x.Var]
theorem lex3 (a1 a2 a3 b1 b2 b3:Int):K3 [a1,a2,a3] [b1,b2,b3]=S4 id [XL a1 b1,XL a2 b2,XL a3 b3]:=by
 simp only[K3,S4,XL,id]
 repeat' split
 all_goals first|rfl|omega
theorem lex4 (a1 a2 a3 a4 b1 b2 b3 b4:Int):K3 [a1,a2,a3,a4] [b1,b2,b3,b4]=S4 id [K3 [a1,a2,a3] [b1,b2,b3],XL a4 b4]:=by
 simp only[K3,S4,XL,id]
 repeat' split
 all_goals first|rfl|omega
theorem Ya {N:Nat}(hN:40000000≤N)(a b:EO):Ds N a b=some (K3 (Mb a) (Mb b)):=by
 unfold Ds;rw[EN,EN,EN];simp only[Option.bind_some];rw[or_eq hN (by simp),Mb,Mb,lex3];rfl
theorem PK (N:Nat)(a b:EO):Bt N a b=some (K3 (Mb a) (Mb b)):=by
 unfold Bt Mb;simp only[G9,B8,AK,K3,decide_eq_true_eq,Bool.not_eq_true',decide_eq_false_iff_not]
 repeat' split
 all_goals first|rfl|omega
theorem Xf {N:Nat}(hN:40000000≤N)(a b:A3):Bb N a b=some (K3 [a.Time,a.Source,a.Seq] [b.Time,b.Source,b.Seq]):=by
 unfold Bb Cg;simp only[Option.bind_some,EN];rw[or_eq hN (by simp),←lex3];simp only[M1,C2,Bool.and_true,Bool.and_eq_true,decide_eq_true_eq,Option.bind_some]
 by_cases h:a.Time=b.Time∧a.Source=b.Source∧a.Seq=b.Seq
 ·rw[if_pos h,h.1,h.2.1,h.2.2,EG]
 rw[if_neg h]
theorem Xn {N:Nat}(hN:40000000≤N)(a b:C1):U9 N a b=some (K3 (AI a) (AI b)):=by
 unfold U9;rw[Ya hN,EN];simp only[Option.bind_some];rw[or_eq hN (by simp),AI,AI,lex4];rfl
theorem Um (N:Nat) (a b:C1):Cv N a b=some (K3 (AI a) (AI b)):=by
 unfold Cv;rw[PK,AI,AI,lex4];simp only[Option.bind_some,S4,id,Mb,G9,B8,AK,XL]
 by_cases h:K3 [a.Ref.Time,a.Ref.Source,a.Ref.Seq] [b.Ref.Time,b.Ref.Source,b.Ref.Seq]=0
 ·simp only[h,decide_true,Bool.not_true,Bool.false_eq_true,if_false,if_true,decide_eq_true_eq]
  repeat' split
  all_goals first|rfl|omega
 simp[h]
def mO :List C1→List C1→Int
 |[],[]=>0
 |[],_::_=> -1
 |_::_,[]=>1
 |x::a,y::b=>if K3 (AI x) (AI y)≠0 then K3 (AI x) (AI y)else mO a b
def Mc (m:List C1):List Int:=m.flatMap AI
theorem Tj :∀{a b:List Int} (c d:List Int),a.length=b.length→K3 (a++c) (b++d)=if K3 a b≠0 then K3 a b else K3 c d
 |[],[],c,d,_=>by simp[K3]
 |[],_::_,_,_,h=>by simp at h
 |_::_,[],_,_,h=>by simp at h
 |x::a,y::b,c,d,h=>by
  simp only[List.cons_append,K3];have ih:=Tj (a:=a) (b:=b) c d (by simpa using h)
  by_cases h1:x<y
  ·simp[h1]
  by_cases h2:y<x
  ·simp[h1,h2]
  simp only[h1,h2,if_false];exact ih
theorem MK :∀a b:List C1,mO a b=K3 (Mc a) (Mc b)
 |[],[]=>rfl
 |[],y::b=>by simp[mO,Mc,AI,K3]
 |x::a,[]=>by simp[mO,Mc,AI,K3]
 |x::a,y::b=>by
  simp only[mO,Mc,List.flatMap_cons];rw[Tj _ _ (by simp[AI])];have:=MK a b;rw[this];rfl
theorem Tg {N:Nat} {a b:List C1} {step:Int→Option (Int ⊕ (Unit ⊕ Int))} {k:Unit ⊕ Int→Option Int} (hN:a.length<N) (hl:a.length≤1000000)
 (hs:∀(i:Nat) (h1:i<a.length) (h2:i<b.length),step (i:Int)=if cmp .neq (K3 (AI a[i]) (AI b[i])) 0=true then some (.inr (.inr (K3 (AI a[i]) (AI b[i]))))else some (.inl (ar .add .i64 (i:Int) 1)))
 (he:∀i:Nat,i≤a.length→i≤b.length→i=a.length∨i=b.length→∃r,step (i:Int)=some (.inr r)∧k r=some (if a.length<b.length then -1 else if b.length<a.length then 1 else 0)) (hk:∀c,k (.inr c)=some c):(loopN step N 0).bind k=some (mO a b):=by
 have key:∀(d i N:Nat),i+d=a.length→d<N→i≤b.length→(loopN step N (i:Int)).bind k=some (mO (a.drop i) (b.drop i)):=by
  have hend:∀(i N:Nat),i≤a.length→i≤b.length→i=a.length∨i=b.length→(loopN step (N+1) (i:Int)).bind k=some (mO (a.drop i) (b.drop i)):=fun i N h1 h2 h=>by
   obtain⟨r,e1,e2⟩:=he i h1 h2 h;simp only[loopN,e1,Option.bind_some,e2]
   by_cases ha:i<a.length
   ·rw[List.drop_eq_getElem_cons ha,List.drop_eq_nil_of_le (show b.length≤i by omega),if_neg (by omega),if_pos (by omega)];rfl
   rw[List.drop_eq_nil_of_le (show a.length≤i by omega)]
   by_cases hb:i<b.length
   ·rw[List.drop_eq_getElem_cons hb,if_pos (by omega)];rfl
   rw[List.drop_eq_nil_of_le (show b.length≤i by omega),if_neg (by omega),if_neg (by omega)];rfl
  intro d
  induction d with
  |zero=>
   intro i N hi hN hb;obtain⟨N,rfl⟩:∃m,N=m+1:=⟨N - 1,by omega⟩;exact hend i N (by omega) hb (by omega)
  |succ d ih=>
   intro i N hi hN hb;obtain⟨N,rfl⟩:∃m,N=m+1:=⟨N - 1,by omega⟩
   by_cases h:i=b.length
   ·exact hend i N (by omega) hb (.inr h)
   have ha:i<a.length:=by omega
   have hb:i<b.length:=by omega
   rw[List.drop_eq_getElem_cons ha,List.drop_eq_getElem_cons hb,mO];unfold loopN;rw[hs i ha hb,C0 (by omega) (by omega)]
   by_cases hz:K3 (AI a[i]) (AI b[i])=0
   ·rw[if_neg (show¬(cmp .neq (K3 (AI a[i]) (AI b[i])) 0=true)from O9 hz),if_neg (by simpa using hz)];exact ih (i+1) N (by omega) (by omega) (by omega)
   rw[if_pos (show cmp .neq (K3 (AI a[i]) (AI b[i])) 0=true from Q9 hz),if_pos hz];exact hk _
 simpa using key a.length 0 N (by omega) hN (by omega)
theorem NS {N:Nat} (hN:40000000≤N) {x y:D3} (hx:x.cP.length≤1000000) (hy:y.cP.length≤1000000):Z5 N x y=some (mO x.cP y.cP):=by
 obtain⟨a⟩:=x;obtain⟨b⟩:=y
 dsimp only at hx hy ⊢
 unfold Z5 D7
 dsimp only
 refine congrArg (fun o:Option Int=>o.bind fun r1=>some r1) (Tg (a:=a) (b:=b) (by omega) hx (fun i h1 h2=>?_) (fun i h1 h2 h=>?_) fun _=>rfl)
 ·rw[if_pos (U8 (by omega)),D5,List.getElem?_eq_getElem h1];simp only[Option.bind_some];rw[if_neg (by rw[O4,B3];simp;omega),D5,List.getElem?_eq_getElem h2];simp only[Option.bind_some];rw[Xn hN];rfl
 by_cases ha:i<a.length
 ·refine⟨.inr 1,?_,?_⟩
  ·rw[if_pos (U8 (by omega)),D5,List.getElem?_eq_getElem ha];simp only[Option.bind_some];rw[if_pos (by rw[O4,B3];simp;omega)]
  rw[if_neg (show¬a.length<b.length by omega),if_pos (show b.length<a.length by omega)]
 refine⟨.inl (),by rw[if_neg (BJ (by rw[B3];omega))],?_⟩
 dsimp only
 by_cases hb:a.length<b.length
 ·rw[if_pos (DW (by rw[B3,B3];omega)),if_pos hb]
 rw[if_neg (BJ (by rw[B3,B3];omega)),if_neg hb,if_neg (show¬b.length<a.length by omega)]
theorem Yd {N:Nat}(hN:40000000≤N){x y:D3}(hx:x.cP.length≤1000000)(hy:y.cP.length≤1000000):Z4 N x y=some (mO x.cP y.cP):=by
 obtain⟨a⟩:=x;obtain⟨b⟩:=y
 dsimp only at hx hy ⊢
 unfold Z4;refine Tg (a:=a) (b:=b) (by omega) hx (fun i h1 h2=>?_) (fun i h1 h2 h=>⟨.inl (),by rw[if_neg (by simp only[M1,B8,B3];simp;omega)],?_⟩) fun _=>rfl
 ·rw[if_pos (by simp only[M1,B8,B3];simp;omega),D5,List.getElem?_eq_getElem h1,D5,List.getElem?_eq_getElem h2];simp only[Option.bind_some];rw[Um];rfl
 dsimp only
 by_cases hb:a.length<b.length
 ·rw[if_pos (DW (by rw[B3,B3];omega)),if_pos hb]
 rw[if_neg (BJ (by rw[B3,B3];omega)),if_neg hb]
 by_cases hc:b.length<a.length
 ·rw[if_pos (Ac (by rw[B3,B3];omega)),if_pos hc]
 rw[if_neg (U3 (by rw[B3,B3];omega)),if_neg hc]
end
end Go.Ab
namespace Go.Ab
open Classical
noncomputable section
def Y6 (e:A3):List Int:=[e.Time,e.Source,e.Seq]
def CX (e:A3):Bool:=(an (an (an (an (an (cmp .geq e.Time 0) (cmp .leq e.Time 1099511627776)) (cmp .geq e.Source 0)) (cmp .lss e.Source 8)) (cmp .geq e.Seq 0)) (cmp .leq e.Seq 1099511627776))
def BB (a b:A3):Bool:=decide (a.Source=b.Source)&&decide (a.Seq=b.Seq)
def Jo (l:List A3)(i:Nat):Int:=
 match l[i]? with
 |none=>0
 |some e=>if CX e=false then 2 else if 0<i∧0≤K3 (Y6 ((l[i - 1]?).getD e)) (Y6 e)then 14 else if(l.take i).any (fun x=>BB x e)=true then 7 else 0
def GA (l:List A3):Int:=if 4096<l.length then 5 else S4 (Jo l) (List.range l.length)
theorem VG {N : Nat} (hN:40000000≤N) {l:List A3} (hl:l.length≤4096) {i:Nat} (hi:i<l.length):(loopN
                    (fun(s10:Int)=>
                     (
                      if cmp .lss s10 (i:Int)=true then
                       (B9 l s10).bind fun x12=>
                       (BZ N x12 l[i]).bind fun r14=>
                       if r14=true then
                        some (.inr (.inr ()))
                       else
                        some (.inl (ar .add .i64 s10 1))
                      else
                       some (.inr (.inl ()))
                      :Option ((Int) ⊕ (Unit ⊕ Unit))))
                    N 0)=some (if(l.take i).any (fun x=>BB x l[i])=true then .inr ()else .inl ()):=by
 have hlen:(l.take i).length=i:=by rw[List.length_take];omega
 rw [GU (l:=l.take i) (fun x=>BB x l[i]) (by omega) (by omega) (fun j x hx hj=>by
     have hji:j<i:=by omega
     have e:ar .add .i64 (j:Int) 1=j+1:=C0 (by omega) (by omega)
     rw[List.getElem?_take_of_lt hji]at hx
     rw[if_pos (DW (by omega)),D5,hx];simp only[Option.bind_some,e,BZ,C2,M1];unfold BB
     split<;>rfl) (by rw[hlen,if_neg (BJ (Int.lt_irrefl _))])]
theorem SN {N:Nat} (hN:40000000≤N) {l:List A3}:Bu N l=some (GA l):=by
 unfold Bu GA
 by_cases h1:4096<l.length
 ·rw[if_pos (Ac (by rw[B3];omega)),if_pos h1]
 rw[if_neg (U3 (by rw[B3];omega)),if_neg h1];have hr:(List.range l.length).length=l.length:=List.length_range;rw[I0 (List.range l.length) (by omega) (mk:=fun(_:Unit) i=>i) (body:=Z9 fun i=>some (Jo l i)) (fin:=fun _=>.inl ()) (s:=()) (by omega) ?_ ?_]
 ·rw[W1 (F:=fun i=>some (Jo l i)) (f:=Jo l) fun x _=>rfl]
  by_cases h:S4 (Jo l) (List.range l.length)=0
  ·rw[if_pos h,h];rfl
  rw[if_neg h];rfl
 ·intro s i x hx hi
  have hil:i<l.length:=by omega
  rw[List.getElem?_range hil]at hx
  cases hx;have e:ar .add .i64 (i:Int) 1=i+1:=C0 (by omega) (by omega);rw[if_pos (U8 (by omega)),Fq hil];simp only[Option.bind_some];rw[VG hN (by omega) hil]
  have hbs:Jo l i=if CX l[i]=false then 2 else if 0<i∧0≤K3 (Y6 ((l[i - 1]?).getD l[i])) (Y6 l[i])then 14 else if(l.take i).any (fun x=>BB x l[i])=true then 7 else 0:=by
   unfold Jo;rw[List.getElem?_eq_getElem hil]
  unfold CV EC Z9;simp only[Option.bind_some,e];rw[hbs];have hp:(an (an (an (an (an (cmp .geq l[i].Time 0) (cmp .leq l[i].Time 1099511627776)) (cmp .geq l[i].Source 0)) (cmp .lss l[i].Source 8)) (cmp .geq l[i].Seq 0)) (cmp .leq l[i].Seq 1099511627776))=CX l[i]:=rfl;rw[hp]
  cases CX l[i]with
  |false=>rfl
  | true=>
   rw[if_neg (show¬(nt true=true) by decide),if_neg (show¬(true=false) by decide)]
   by_cases h0:0<i
   ·rw[if_pos (Ac (by omega))]
    have e1:ar .sub .i64 (i:Int) 1=((i - 1:Nat):Int):=by rw[DN (by omega) (by omega)];omega
    have hi1:i - 1<l.length:=by omega
    rw[e1,Fq hi1,List.getElem?_eq_getElem hi1];simp only[Option.bind_some,PK,Option.getD_some];have hk:K3 (Mb ⟨l[i - 1].Time,l[i - 1].Source,l[i - 1].Seq⟩) (Mb ⟨l[i].Time,l[i].Source,l[i].Seq⟩)=K3 (Y6 l[i - 1]) (Y6 l[i]):=rfl;rw[hk]
    by_cases h2:0≤K3 (Y6 l[i - 1]) (Y6 l[i])
    ·rw[if_pos (show cmp .geq (K3 (Y6 l[i - 1]) (Y6 l[i])) 0=true by rw[O4];exact decide_eq_true h2),if_pos (show 0<i∧0≤K3 (Y6 l[i - 1]) (Y6 l[i])from⟨h0,h2⟩)];rfl
    rw[if_neg (show¬(cmp .geq (K3 (Y6 l[i - 1]) (Y6 l[i])) 0=true) by rw[O4];simpa using h2),if_neg (show¬(0<i∧0≤K3 (Y6 l[i - 1]) (Y6 l[i]))from fun h=>h2 h.2)];cases(l.take i).any fun x=>BB x l[i]<;>rfl
   rw[if_neg (U3 (by omega)),if_neg (show¬(0<i∧0≤K3 (Y6 ((l[i - 1]?).getD l[i])) (Y6 l[i]))from fun h=>h0 h.1)];cases(l.take i).any fun x=>BB x l[i]<;>rfl
 intro s;rw[hr,if_neg X2]
def Dw (p:List A3):List (C8×Bool):=p.map fun e=>(⟨e.Source,e.Seq⟩,true)
theorem UM (p:List A3) (e:A3):∃b,HR (Dw p) ⟨e.Source,e.Seq⟩ false=some (p.any fun x=>BB x e,b):=by
 unfold HR Dw
 induction p with
 |nil=>exact⟨false,by simp⟩
 | cons x p ih=>
  obtain⟨b,ih⟩:=ih;rw[List.map_cons,List.find?_cons,any_cons]
  by_cases h:(⟨x.Source,x.Seq⟩:C8)=⟨e.Source,e.Seq⟩
  ·have ht:BB x e=true:=by
    simp only[C8.mk.injEq]at h
    simp[BB,h.1,h.2]
   exact⟨true,by simp[h,ht]⟩
  have ht:BB x e=false:=by
   simp only[C8.mk.injEq]at h
   simp only[BB,Bool.and_eq_false_iff,decide_eq_false_iff_not]
   by_cases h1:x.Source=e.Source
   ·exact .inr fun h2=>h ⟨h1,h2⟩
   exact .inl h1
  refine⟨b,?_⟩;simp only[h,decide_false,ht,Bool.false_or];exact ih
theorem Uj {p:List A3}{e:A3}(h:(p.any fun x=>BB x e)=false):Ha (Dw p) ⟨e.Source,e.Seq⟩ true=some (Dw (p++[e])):=by
 unfold Ha;rw[if_neg]
 ·simp[Dw]
 intro c
 rw[List.any_eq_true]at c
 obtain⟨q,hq,he⟩:=c
 simp only[Dw,List.mem_map]at hq
 obtain⟨x,hx,rfl⟩:=hq
 rw[List.any_eq_false]at h
 refine h x hx ?_
 simp only[decide_eq_true_eq,C8.mk.injEq]at he
 simp[BB,he.1,he.2]
theorem WA {B:Type} {N n:Nat} {M:Nat→B} {step:(Int×B)→Option ((Int×B) ⊕ (B ⊕ (Int×B)))} (f:Nat→Int) {k:B ⊕ (Int×B)→Option Int} (hN:n<N) (hn:n<1000000000)
 (hs:∀i:Nat,i<n→ar .add .i64 (i:Int) 1=i+1→step ((i:Int),M i)=some (if f i=0 then .inl ((i:Int)+1,M (i+1))else .inr (.inr (f i,M i)))) (he:step ((n:Int),M n)=some (.inr (.inl (M n)))) (h0:∀m,k (.inl m)=some 0) (h1:∀c m,k (.inr (c,m))=some c):(loopN step N (0,M 0)).bind k=some (S4 f (List.range n)):=by
 have key:∀(d i N:Nat),i+d=n→d<N→(loopN step N ((i:Int),M i)).bind k=some (S4 f (List.range' i d)):=by
  intro d
  induction d with
  |zero=>
   intro i N hi hN;obtain⟨N,rfl⟩:∃m,N=m+1:=⟨N - 1,by omega⟩;obtain rfl:i=n:=hi;simp only[loopN,he,Option.bind_some,h0];rfl
  |succ d ih=>
   intro i N hi hN;obtain⟨N,rfl⟩:∃m,N=m+1:=⟨N - 1,by omega⟩;rw[List.range'_succ]
   by_cases hf:f i=0
   ·simp only[loopN,hs i (by omega) (C0 (by omega) (by omega)),S4,hf,if_true];exact ih (i+1) N (by omega) (by omega)
   simp only[loopN,hs i (by omega) (C0 (by omega) (by omega)),S4,hf,if_false,Option.bind_some,h1]
 rw[List.range_eq_range'];exact key n 0 N (by omega) hN
theorem XW {N:Nat} (hN:40000000≤N) {l:List A3}:BC N l=some (GA l):=by
 unfold BC GA
 by_cases h1:4096<l.length
 ·rw[if_pos (Ac (by rw[B3];omega)),if_pos h1]
 rw[if_neg (U3 (by rw[B3];omega)),if_neg h1];refine WA (M:=fun i=>Dw (l.take i)) (Jo l) (by omega) (by omega) (fun i hil e=>?_) (by dsimp only;rw[if_neg X2]) (fun _=>rfl) (fun _ _=>rfl);obtain⟨b,hb⟩:=UM (l.take i) l[i];have hp:Cq N l[i]=some (CX l[i]):=rfl;have hst:BX N l[i]=some ⟨l[i].Source,l[i].Seq⟩:=rfl
 dsimp only
 rw[if_pos (U8 (by omega)),Fq hil];simp only[Option.bind_some];unfold Jo;rw[hp,hst,List.getElem?_eq_getElem hil];simp only[Option.bind_some,hb,e]
 cases CX l[i]with
 |false=>rfl
 | true=>
  rw[if_neg (show¬(nt true=true) by decide),if_neg (show¬(true=false) by decide)]
  have ht:(if(l.take i).any (fun x=>BB x l[i])=true then some (.inr (.inr (7,Dw (l.take i))))else(Ha (Dw (l.take i)) ⟨l[i].Source,l[i].Seq⟩ true).bind fun l15=>some (.inl ((i:Int)+1,l15)):Option ((Int×(List (C8×Bool))) ⊕ (((List (C8×Bool))) ⊕ (Int×(List (C8×Bool))))))=some (if(if(l.take i).any (fun x=>BB x l[i])=true then(7:Int)else 0)=0 then .inl ((i:Int)+1,Dw (l.take (i+1)))else .inr (.inr (if(l.take i).any (fun x=>BB x l[i])=true then(7:Int)else 0,Dw (l.take i)))):=by
   by_cases h7:(l.take i).any (fun x=>BB x l[i])=true
   ·simp only[h7,if_true];rfl
   rw[if_neg h7,if_neg h7,Uj (by simpa using h7),List.take_succ_eq_append_getElem hil];rfl
  by_cases h0:0<i
  ·have hi1:i - 1<l.length:=by omega
   rw[if_pos (Ac (by omega)),show ar .sub .i64 (i:Int) 1=((i - 1:Nat):Int) by rw[DN (by omega) (by omega)];omega,Fq hi1,List.getElem?_eq_getElem hi1];simp only[Option.bind_some,Xf hN,Option.getD_some];have hk:K3 [l[i - 1].Time,l[i - 1].Source,l[i - 1].Seq] [l[i].Time,l[i].Source,l[i].Seq]=K3 (Y6 l[i - 1]) (Y6 l[i]):=rfl;rw[hk]
   by_cases h2:0≤K3 (Y6 l[i - 1]) (Y6 l[i])
   ·rw[if_pos (show cmp .geq (K3 (Y6 l[i - 1]) (Y6 l[i])) 0=true by rw[O4];exact decide_eq_true h2),if_pos (show 0<i∧0≤K3 (Y6 l[i - 1]) (Y6 l[i])from⟨h0,h2⟩)];rfl
   rw[if_neg (show¬(cmp .geq (K3 (Y6 l[i - 1]) (Y6 l[i])) 0=true) by rw[O4];simpa using h2),if_neg (show¬(0<i∧0≤K3 (Y6 l[i - 1]) (Y6 l[i]))from fun h=>h2 h.2)];exact ht
  rw[if_neg (U3 (by omega)),if_neg (show¬(0<i∧0≤K3 (Y6 ((l[i - 1]?).getD l[i])) (Y6 l[i]))from fun h=>h0 h.1)];exact ht
theorem On {l:List A3} (hl:l.length≤10) (h:GA l=0):∀(d i:Nat),i+d+1<l.length→∀(h1:i<l.length) (h2:i+d+1<l.length),K3 (Y6 l[i]) (Y6 l[i+d+1])<0:=by
 have hc:∀i,i<l.length→Jo l i=0:=by
  unfold GA at h
  rw[if_neg (by omega)]at h
  exact fun i hi=>Bx.1 h i (List.mem_range.2 hi)
 have h1:∀i,∀(h2:i+1<l.length),K3 (Y6 l[i]) (Y6 l[i+1])<0:=fun i h2=>by
  have:=hc (i+1) h2
  unfold Jo at this
  rw[List.getElem?_eq_getElem h2]at this
  dsimp only at this
  split at this
  ·cases this
  split at this
  ·cases this
  rename_i hh
  have hi:i<l.length:=by omega
  simp only[Nat.add_sub_cancel,List.getElem?_eq_getElem hi,Option.getD_some,not_and]at hh
  have:=hh (by omega);omega
 intro d
 induction d with
 |zero=>intro i _ _ h2;exact h1 i h2
 |succ d ih=>
  intro i _ hi h2;exact HL (ih i (by omega) hi (by omega)) (h1 (i+d+1) h2)
end
end Go.Ab
namespace Go.Ab
open Classical
noncomputable section
def DQ (l:List A3)(i:Int):EO:=match l[i.toNat]? with|some e=>⟨e.Time,e.Source,e.Seq⟩|none=>⟨0,0,0⟩
def U7 (l:List A3)(s:List PR):D3:=⟨s.map fun x=>⟨x.Var,DQ l x.At⟩⟩
theorem RI (l:List A3)(s:List PR):(U7 l s).cP.length=s.length:=by simp[U7]
theorem Yc {l:List A3}{i:Int}(h0:0≤i)(h1:i<l.length):∃e,B9 l i=some e∧(⟨e.Time,e.Source,e.Seq⟩:EO)=DQ l i:=by
 obtain⟨i,rfl⟩:=Int.eq_ofNat_of_zero_le h0
 have hi:i<l.length:=by omega
 exact⟨l[i],Fq hi,by simp[DQ,hi]⟩
theorem Yb {l:List A3} (hl:l.length≤10) (hc:GA l=0) {i j:Int} (hi:0≤i∧i<l.length) (hj:0≤j∧j<l.length) (h:DQ l i=DQ l j):i=j:=by
 obtain⟨i,rfl⟩:=Int.eq_ofNat_of_zero_le hi.1;obtain⟨j,rfl⟩:=Int.eq_ofNat_of_zero_le hj.1
 have hi':i<l.length:=by omega
 have hj':j<l.length:=by omega
 have hk:Y6 l[i]=Y6 l[j]:=by
  simp only[DQ,Int.toNat_natCast,List.getElem?_eq_getElem hi',List.getElem?_eq_getElem hj',EO.mk.injEq]at h
  simp[Y6,h.1,h.2.1,h.2.2]
 rcases Nat.lt_trichotomy i j with e|e|e
 ·obtain⟨d,rfl⟩:∃d,j=i+d+1:=⟨j - i - 1,by omega⟩;have:=On hl hc d i hj' hi' hj'
  rw[hk,EG]at this;omega
 ·omega
 obtain⟨d,rfl⟩:∃d,i=j+d+1:=⟨i - j - 1,by omega⟩;have:=On hl hc d j hi' hj' hi'
 rw[hk,EG]at this;omega
theorem Ll {l:List A3} (hl:l.length≤10) (hc:GA l=0):∀{a b:List PR},TC l a→TC l b→(U7 l a).cP=(U7 l b).cP→a=b
 |[],[],_,_,_=>rfl
 |[],_::_,_,_,h=>by simp[U7]at h
 |_::_,[],_,_,h=>by simp[U7]at h
 | x::a,y::b,ha,hb,h=>by
  simp only[U7,List.map_cons,List.cons.injEq,C1.mk.injEq]at h
  have e:=Yb hl hc (ha x (by simp)).2 (hb y (by simp)).2 h.1.2
  have hxy:x=y:=by
   cases x;cases y
   simp only[K7.mk.injEq]at *
   exact⟨h.1.1,e⟩
  rw[hxy,Ll hl hc (fun z hz=>ha z (by simp[hz])) (fun z hz=>hb z (by simp[hz])) h.2]
theorem Qd :∀{a b:List C1},Mc a=Mc b→a=b
 |[],[],_=>rfl
 |[],_::_,h=>by simp[Mc,AI]at h
 |_::_,[],h=>by simp[Mc,AI]at h
 | x::a,y::b,h=>by
  simp only[Mc,List.flatMap_cons,AI,List.cons_append,List.nil_append,List.cons.injEq]at h
  obtain⟨h1,h2,h3,h4,h5⟩:=h
  have hxy:x=y:=by
   obtain⟨v,t,s,q⟩:=x;obtain⟨v',t',s',q'⟩:=y
   simp only at h1 h2 h3 h4
   rw[h1,h2,h3,h4]
  rw[hxy,Qd h5]
theorem NT {a b:List C1}(h:mO a b=0):a=b:=Qd (Tl (by rw[←MK];exact h))
theorem NU (a:List C1):mO a a=0:=by rw[MK,EG]
theorem RJ (a b:List C1):mO b a= - mO a b:=by rw[MK,MK,Qb]
theorem Wy {a b c:List C1}(h1:mO a b<0)(h2:mO b c<0):mO a c<0:=by rw[MK]at *;exact HL h1 h2
def QN (r:List D3):Prop:=r.Pairwise fun a b=>mO a.cP b.cP<0
theorem ZP {N:Nat} (hN:40000000≤N) {L r:List D3} (hp:r.Perm L) (ha:QN r) (hb:∀x∈r,x.cP.length≤1000000) (hl:L.length≤1000000):FT (fun y1 y2=>Z5 N y1 y2) L=some r:=by
 refine Pa hp (Bp.2 ⟨fun a h=>?_,?_⟩) (by omega)
 ·unfold XF
  dsimp only
  rw[NS hN (hb a h) (hb a h),NU];rfl
 refine List.Pairwise.imp_of_mem (fun{x y} hx hy hlt=>?_) ha
 constructor
 ·unfold NV
  dsimp only
  rw[NS hN (hb x hx) (hb y hy)];exact decide_eq_true hlt
 unfold XF
 dsimp only
 rw[NS hN (hb y hy) (hb x hx),RJ];exact decide_eq_true (by omega)
theorem LC {α:Type}{f:α→C1}:∀(s:List α) (m:D3),s.foldl (fun m x=>⟨m.cP++[f x]⟩) m=⟨m.cP++s.map f⟩
 |[],⟨a⟩=>by simp
 |x::s,m=>by rw[List.foldl_cons,LC s];simp
end
end Go.Ab
namespace Go.Ab
open Classical
noncomputable section
theorem Eg (p:A0):(A0.pres p.cN).length+1=p.pre.length:=by rw[A0.pre_eq p];simp
theorem UT {N:Nat} (hN:40000000≤N):∀(n:Nat) (p:A0),p.pre.length≤n→p.pre.length≤16777216→S1 N n p=some (evs p:Int):=by
 intro n
 induction n with
 |zero=>intro p h;have:=Eg p;omega
 | succ n ih=>
  intro p h hb;have hp:=Eg p;have hal:=CF p;unfold S1
  have h0:((if cmp .eql p.Op 0=true then some 1 else some 0:Option Int))=some (if p.Op=0 then 1 else 0):=by
   rw[C2]
   by_cases h:p.Op=0<;>simp[h]
  rw[h0];simp only[Option.bind_some];rw[I0 p.cN (by omega) (mk:=fun(s:Int) i=>(s,i)) (body:=fun s q=>(S1 N n q).bind fun r=>some (.inl (ar .add .i64 s r))) (fin:=fun s=>s) (s:=if p.Op=0 then 1 else 0) (by omega) ?_ ?_]
  ·obtain⟨s',h1,q,h2,h3⟩:=X1 (R:=Int) (step:=fun(s:Int) q=>(S1 N n q).bind fun r=>some (.inl (ar .add .i64 s r)))
    (fun r s=>∃q,q++r=p.cN∧s=((if p.Op=0 then 1 else 0:Int)+((A0.pres q).countP fun y=>decide (y.Op=0):Nat))) (fun x r s ⟨q,e1,e2⟩=>by
     have hx:x∈p.cN:=by rw[←e1];simp
     have hxl:=O3 hx
     have hq:(A0.pres q).length≤(A0.pres p.cN).length:=by rw[←e1,CB];simp
     have hc:=List.countP_le_length (p:=fun y:A0=>decide (y.Op=0)) (l:=A0.pres q);have hc2:=List.countP_le_length (p:=fun y:A0=>decide (y.Op=0)) (l:=x.pre);rw[ih x (by omega) (by omega)];refine⟨_,rfl,q++[x],by simpa using e1,?_⟩;have he:(evs x:Int)=((x.pre.countP fun y=>decide (y.Op=0):Nat):Int):=rfl;rw[e2,CB,List.countP_append]
     have:A0.pres [x]=x.pre:=by simp[A0.pres]
     rw[this,he,C0 (by split<;>omega) (by split<;>omega)]
     omega) (l:=p.cN) (s:=if p.Op=0 then 1 else 0) ⟨[],rfl,by simp[A0.pres]⟩
   rw[h1];simp only[Option.bind_some]
   rw[append_nil]at h2
   rw[h3,h2,Ff]
   by_cases h:p.Op=0<;>simp[h]
  ·intro s i x hx hi;have e:ar .add .i64 (i:Int) 1=i+1:=C0 (by omega) (by omega);simp only[B8,B3,hi,decide_true,if_true,D5,hx,Option.bind_some,e];cases S1 N n x<;>rfl
  intro s;simp[B8,B3]
theorem KY (f:A0→Bool):∀r:List A0,(A0.pres r).any f=r.any fun x=>x.pre.any f
 |[]=>rfl
 |a::r=>by simp only[A0.pres,List.any_append,any_cons,KY f r]
theorem YH {N:Nat} (hN:40000000≤N):∀(n:Nat) (p:A0),p.pre.length≤n→p.pre.length≤16777216→W9 N n p=some (p.pre.any fun y=>decide (y.Op=4)):=by
 intro n
 induction n with
 |zero=>intro p h;have:=Eg p;omega
 | succ n ih=>
  intro p h hb;have hp:=Eg p;have hal:=CF p;unfold W9;rw[A0.pre_eq p,any_cons]
  by_cases h4:p.Op=4
  ·rw[if_pos (by rw[C2];exact decide_eq_true h4)];simp[h4]
  rw[if_neg (by rw[C2];simpa using h4)]
  rw [GU (l:=p.cN) (fun x=>x.pre.any fun y=>decide (y.Op=4)) (by omega) (by omega) (fun i x hx hi=>by
      have hm:=List.mem_of_getElem? hx;have hxl:=O3 hm;have e:ar .add .i64 (i:Int) 1=i+1:=C0 (by omega) (by omega);simp only[B8,B3,hi,decide_true,if_true,D5,hx,Option.bind_some,e,ih x (by omega) (by omega)]
      split<;>rfl) (by simp[B8,B3])]
  rw[KY];simp only[h4,decide_false,Bool.false_or]
  by_cases ha:(p.cN.any fun x=>x.pre.any fun y=>decide (y.Op=4))=true
  ·rw[if_pos ha,ha];rfl
  rw[if_neg ha]
  rw[Bool.not_eq_true]at ha
  rw[ha];rfl
theorem PG {N:Nat} (hN:40000000≤N) {b n:Nat} (hb:b≤20000000) (hn:n≤20000000):∃r,Bq N (b:Int) (n:Int) 1500=some r∧(r≤1500→r=((b ^ n:Nat):Int)):=by
 unfold Bq
 have key:∀(k i M:Nat) (out:Int),i+k=n→k<M→out=((b ^ i:Nat):Int)→out≤30000000000→∃r,loopN
  (fun(s1:Int×Int)=>
   (
    if an (cmp .lss s1.2 (n:Int)) (cmp .leq s1.1 1500)=true then
     some (.inl (ar .mul .i64 s1.1 (b:Int),ar .add .i64 s1.2 1))
    else
     some (.inr s1.1)
    :Option ((Int×Int) ⊕ (Int))))
  M (out,(i:Int))=some r∧(r≤1500→r=((b ^ n:Nat):Int)):=by
  intro k
  induction k with
  |zero=>
   intro i M out hi hM ho _;obtain⟨M,rfl⟩:∃m,M=m+1:=⟨M - 1,by omega⟩;refine⟨out,?_,fun _=>by rw[ho,show i=n by omega]⟩;unfold loopN
   dsimp only
   rw[if_neg (by simp only[M1,B8];simp;omega)]
  | succ k ih=>
   intro i M out hi hM ho hs;obtain⟨M,rfl⟩:∃m,M=m+1:=⟨M - 1,by omega⟩
   have h0:0≤out:=by rw[ho];omega
   by_cases hle:out≤1500
   ·have hmul:out*(b:Int)≤1500*20000000:=Int.mul_le_mul hle (by omega) (by omega) (by omega);have hmul0:0≤out*(b:Int):=Int.mul_nonneg h0 (by omega);have em:ar .mul .i64 out (b:Int)=out*(b:Int):=Ct (by omega) (by omega);have e:ar .add .i64 (i:Int) 1=i+1:=C0 (by omega) (by omega);obtain⟨r,h1,h2⟩:=ih (i+1) M (out*(b:Int)) (by omega) (by omega) (by rw[ho,Nat.pow_succ];simp) (by omega);refine⟨r,?_,h2⟩;unfold loopN
    dsimp only
    rw[if_pos (by simp only[M1,B8,Cr];simp;omega),em,e,show((i:Int)+1)=((i+1:Nat):Int) by omega];exact h1
   refine⟨out,?_,fun h=>absurd h hle⟩;unfold loopN
   dsimp only
   rw[if_neg (by simp only[M1,B8,Cr];simp;omega)]
 obtain⟨r,h1,h2⟩:=key n 0 N 1 (by omega) (by omega) (by simp) (by omega);have h0:((0:Nat):Int)=0:=rfl
 rw[h0]at h1
 exact⟨r,by rw[h1];rfl,h2⟩
theorem VO {N:Nat} (hN:40000000≤N) {p:A0} (hb:p.bulk≤16777216) {l:List A3} (hlb:l.length≤16777216):∃b,Cu N p l=some b∧(b=true→l.length≤10∧((evs p+1) ^ l.length≤1500∨(Ax p∧l.length ^ evs p≤1500))):=by
 obtain⟨few,hf⟩:=few9 hN hb;have hpb:=Dr p;have hev:evs p≤p.pre.length:=List.countP_le_length;unfold Cu;rw[hf];simp only[Option.bind_some]
 by_cases h1:Ar.or (nt few) (cmp .gtr (Ar.len l) 10)=true
 ·rw[if_pos h1];exact⟨false,rfl,fun h=>by cases h⟩
 rw[if_neg h1]
 have hl:l.length≤10:=by
  simp only[O0,W2,AK,B3]at h1
  simp at h1
  omega
 rw[GU (l:=l) (fun x=>cmp .gtr (Ar.len x.Values) 9) (by omega) (by omega) (fun i x hx hi=>by
  have e:ar .add .i64 (i:Int) 1=i+1:=C0 (by omega) (by omega);rw[if_pos (U8 hi),D5,hx];simp only[Option.bind_some,e]
  split<;>rfl) (by rw[if_neg X2])]
 simp only[Option.bind_some]
 by_cases h2:(l.any fun x=>cmp .gtr (Ar.len x.Values) 9)=true
 ·rw[if_pos h2];exact⟨false,rfl,fun h=>by cases h⟩
 rw[if_neg h2]
 dsimp only
 rw[UT hN N p (by omega) (by omega),YH hN N p (by omega) (by omega)];simp only[Option.bind_some];obtain⟨r1,h3,h4⟩:=PG hN (b:=evs p+1) (n:=l.length) (by omega) (by omega);obtain⟨r2,h5,h6⟩:=PG hN (b:=l.length) (n:=evs p) (by omega) (by omega);rw[C0 (a:=(evs p:Int)) (by omega) (by omega),show((evs p:Int)+1)=((evs p+1:Nat):Int) by omega,B3,h3];simp only[Option.bind_some]
 by_cases h7:r1≤1500
 ·rw[if_pos (show cmp .leq r1 1500=true from decide_eq_true h7)];exact⟨true,rfl,fun _=>⟨hl,.inl (by have:=h4 h7;omega)⟩⟩
 rw[if_neg (show¬(cmp .leq r1 1500=true) by rw[Cr];simpa using h7)]
 cases hp:p.pre.any fun y=>decide (y.Op=4)with
 |true=>
  rw[if_neg (show¬nt true=true by decide)];exact⟨false,rfl,fun h=>by cases h⟩
 | false=>
  rw[if_pos (show nt false=true from rfl),h5];refine⟨decide (r2≤1500),rfl,fun h=>⟨hl,.inr ⟨fun y hy e=>?_,?_⟩⟩⟩
  ·rw[List.any_eq_false]at hp
   exact hp y hy (decide_eq_true e)
  have h8:=of_decide_eq_true h;have:=h6 h8;omega
theorem ZQ {p:A0}{l:List A3}(hp:p.pre.length≤64)(hs:(evs p+1) ^ l.length≤1500∨(Ax p∧l.length ^ evs p≤1500)):Mk l.length p:=by
 rcases hs with h|⟨h1,h2⟩
 ·exact .inl h
 by_cases h3:2≤l.length
 ·exact .inr ⟨h1,h3,h2⟩
 left
 have hev:evs p≤p.pre.length:=List.countP_le_length
 have:l.length=0∨l.length=1:=by omega
 rcases this with h|h<;>rw[h]<;>simp<;>omega
theorem Wv {p:A0}{l:List A3}(hp:p.pre.length≤64)(hl:l.length≤10):mu l p 0≤1000:=by
 unfold mu;have:=Nat.mul_le_mul hp (show l.length+2≤12 by omega);omega
theorem Yj (l:List A3):No l [] ((0:Nat):Int):=⟨Gd.nil l,fun _ h=>absurd h List.not_mem_nil,by omega,by omega⟩
end
end Go.Ab
namespace Go.Ab
open Classical
noncomputable section
theorem Xr (L:List D3) (hn:L.Nodup):∃r:List D3,r.Perm L∧QN r:=by
 have hp:=List.mergeSort_perm L fun a b=>decide (mO a.cP b.cP≤0);refine⟨_,hp,?_⟩
 have h1:=List.pairwise_mergeSort (le:=fun a b:D3=>decide (mO a.cP b.cP≤0)) (fun a b c hab hbc=>by
  have hab:=of_decide_eq_true hab;have hbc:=of_decide_eq_true hbc;apply decide_eq_true
  by_cases e1:mO a.cP b.cP=0
  ·rw[NT e1];exact hbc
  ·by_cases e2:mO b.cP c.cP=0
   ·rw[←NT e2];exact hab
   have:=Wy (a:=a.cP) (b:=b.cP) (c:=c.cP) (by omega) (by omega)
   omega) (fun a b=>by
  have:=RJ a.cP b.cP
  by_cases h:mO a.cP b.cP≤0
  ·simp[h]
  have:mO b.cP a.cP≤0:=by omega
  simp[this]) L
 have h2:(L.mergeSort fun a b=>decide (mO a.cP b.cP≤0)).Nodup:=hp.nodup_iff.2 hn;refine(h1.and h2).imp fun{a b} h=>?_;have h3:=of_decide_eq_true h.1;have h4:mO a.cP b.cP≠0:=fun e=>h.2 (by cases a;cases b;have:=NT e;dsimp only at this;rw[this]);omega
theorem Yh {N:Nat} (hN:40000000≤N) {p:A0} (hb:p.bulk≤16777216) {l:List A3} (hl:l.length≤10) (hs:(evs p+1) ^ l.length≤1500∨(Ax p∧l.length ^ evs p≤1500)) (h1:Mg N p=0) (h2:GA l=0):
 ∃r,L6 N p l=some (r,0)∧QN r∧(∃L:List (List PR),L.Nodup∧(∀s,s∈L↔Sm l p [] 0 s)∧r.Perm (L.map (U7 l)))∧(∀x∈r,x.cP.length≤10)∧r.length≤1500:=by
 unfold L6;rw[Ut hN hb];simp only[Option.bind_some];rw[if_neg (O9 h1),XW hN];simp only[Option.bind_some];rw[if_neg (O9 h2)];obtain⟨hw,hp⟩:=TI hN hb h1;have hsm:=ZQ hp hs;have hmu:=Wv hp hl;obtain⟨L1,a1,a2,a3⟩:=Ul hN hl 1000 p [] 0 N hmu (by omega) hp hw hsm (Yj l);have hcL1:=Et hw hsm (Yj l) a2 fun s h=>(a3 s).1 h
 have b2:(L1.map F6).Nodup:=by
  rw[Nodup,List.pairwise_map];exact a2.imp fun hne e=>hne (GL e)
 have b3:∀s,s∈L1.map F6↔Sm l p [] 0 s:=fun s=>by
  rw[List.mem_map]
  constructor
  ·rintro⟨t,ht,rfl⟩;exact(a3 t).1 ht
  intro h;exact⟨s.map Ij,(a3 _).2 (by rw[N8];exact h),N8 s⟩
 have hres:∀s∈L1.map F6,Ox l 0 s:=fun s h=>((b3 s).1 h).res hw (Yj l)
 obtain⟨r,r3,r2⟩:=Xr ((L1.map F6).map (U7 l)) (by
  rw[Nodup,List.pairwise_map]
  exact List.Pairwise.imp_of_mem (fun{x y} hx hy hne e=>hne (Ll hl h2 (hres x hx).gd.wf (hres y hy).gd.wf (congrArg D3.cP e))) b2)
 have hrl:r.length≤1500:=by have:=r3.length_eq;simp only[List.length_map]at this;omega
 have hrb:∀x∈r,x.cP.length≤10:=fun x hx=>by
  obtain⟨t,ht,rfl⟩:=List.mem_map.1 (r3.mem_iff.1 hx);have:=(hres t ht).gd.len;rw[RI];omega
 have h00:((0:Nat):Int)=0:=rfl
 rw[h00]at a1
 refine⟨r,?_,r2,⟨L1.map F6,b2,b3,r3⟩,hrb,hrl⟩;rw[a1];simp only[Option.bind_some]
 rw[(Jg (L:=L1) (N:=N) (fun(m:List D3) i=>(i,m)) (fun m s=>m++[U7 l (F6 s)]) (fun m=>m) (fun i m=>m.length=i) (by omega) (by omega) rfl (fun m i s hs' hi hm e hl=>by
  have gs:=(((a3 s).1 hm).res hw (Yj l)).gd;have hsl:=gs.len
  rw[List.length_map]at hsl
  rw[if_pos (U8 hi),D5,hs'];simp only[Option.bind_some]
  rw[(Jg (L:=s) (N:=N) (fun(m:D3) i=>(i,m)) (fun m x=>⟨m.cP++[⟨x.cS,DQ l x.at_⟩]⟩) (fun m=>m) (fun i m=>m.cP.length=i) (by omega) (by omega) rfl (fun m i x hx hi hm e hl=>by
   have hw:=gs.wf (pr x) (List.mem_map.2 ⟨x,hm,rfl⟩);obtain⟨e',h1,h2⟩:=Yc (l:=l) (i:=x.at_) hw.2.1 hw.2.2;rw[if_pos (U8 hi),D5,hx];simp only[Option.bind_some];rw[h1];simp only[Option.bind_some,Cg];rw[W7 (by simp;omega),e,h2]
   exact⟨rfl,by simp[hl]⟩) (fun m=>by dsimp only;rw[if_neg X2])).1,LC]
  simp only[Option.bind_some,List.nil_append];rw[W7 (by simp;omega),e];refine⟨?_,by simp[hl]⟩;simp only[Option.bind_some,U7,F6,List.map_map]
  rfl) (fun m=>by dsimp only;rw[if_neg X2])).1]
 have hf:∀(L:List (List BD)) (m:List D3),L.foldl (fun m s=>m++[U7 l (F6 s)]) m=m++L.map fun s=>U7 l (F6 s):=fun L=>by
  induction L with
  |nil=>intro m;simp
  |cons a L ih=>intro m;rw[List.foldl_cons,ih];simp
 rw[hf,List.nil_append];simp only[Option.bind_some];rw[ZP hN (r:=r) ?_ r2 (fun x hx=>by have:=hrb x hx;omega) (by simp;omega)]
 ·rfl
 rw[List.map_map]at r3
 exact r3
end
end Go.Ab
namespace Go.Ab
open Classical
noncomputable section
structure Sw (l' l:List A3) (g:A3→A3) (u:Int→Int):Prop where
 mono:∀a b,u a<u b↔a<b
 nn:∀a,0≤u a↔0≤a
 at_:∀j:Nat,j<l'.length→∃i:Nat,u j=i∧l[i]? =(l'[j]?).map g
 typ:∀e,(g e).Typ=e.Typ
def TD (u:Int→Int)(x:PR):PR:=⟨x.Var,u x.At⟩
def Fy (u:Int→Int)(s:List PR):List PR:=s.map (TD u)
def QL (l:List A3)(s:List PR):Prop:=∀x∈s,∃j:Nat,j<l.length∧x.At=j
def gE (g:A3→A3)(e:CH):CH:=⟨e.cU.map fun r=>r.map g⟩
theorem Ql {α β:Type}{f g:α→Option β}:∀{l:List α},(∀x∈l,f x=g x)→l.filterMap f=l.filterMap g
 |[],_=>rfl
 |x::l,h=>by rw[List.filterMap_cons,List.filterMap_cons,h x (by simp),Ql fun y hy=>h y (by simp[hy])]
theorem BI {u:Int→Int} (hm:∀a b,u a<u b↔a<b):∀(n:Nat) (a b:List PR),a.length+b.length≤n→mrg (Fy u a) (Fy u b)=Fy u (mrg a b)
 |_,[],b,_=>by show mrg [] (Fy u b)=_;rw[GT,GT]
 |_,x::a,[],_=>by show mrg (Fy u (x::a)) []=_;rw[It,It]
 |0,x::a,y::b,h=>by simp at h
 |n+1,x::a,y::b,h=>by
  simp only[List.length_cons]at h
  show mrg (TD u x::Fy u a) (TD u y::Fy u b)=_
  rw[Iu,Iu]
  by_cases hx:x.At<y.At
  ·rw[if_pos hx,if_pos (show(TD u x).At<(TD u y).At from(hm _ _).2 hx)];exact congrArg (TD u x:: ·) (BI hm n a (y::b) (by simp;omega))
  rw[if_neg hx,if_neg (show¬(TD u x).At<(TD u y).At from fun h=>hx ((hm _ _).1 h))];exact congrArg (TD u y:: ·) (BI hm n (x::a) b (by simp;omega))
theorem WM {u:Int→Int}{s:List PR}(h:s≠[]):QP (Fy u s)=u (QP s):=by
 cases s with
 |nil=>exact absurd rfl h
 |cons x s=>rfl
theorem NW {u:Int→Int}{s:List PR}(h:s≠[]):X6 (Fy u s)=u (X6 s):=by
 obtain⟨x,h1,_,h3⟩:=Di h;rw[h3];unfold X6 Fy;rw[List.getLast?_map,h1];rfl
theorem QL.mrg {l:List A3}{a b:List PR}(ha:QL l a)(hb:QL l b):QL l (mrg a b):=fun x hx=>(V6.1 hx).elim (ha x) (hb x)
theorem Sm.inl {l:List A3} {p:A0} {b:List PR} {f:Int} {s:List PR} (h:Sm l p b f s):s≠[]∧QL l s:=by
 have ne:∀{s t:List PR},s≠[]→mrg s t≠[]:=fun{s t} hs e=>by
  have h1:=congrArg List.length e
  rw[NP,List.length_nil]at h1
  have:=List.length_pos_iff.2 hs;omega
 induction h with
 |@ev p b f j h0 hf hj ht=>exact⟨by simp,fun x hx=>⟨j,hj,by rw[List.mem_singleton.1 hx]⟩⟩
 |seq1 _ _ _ ih=>exact ih
 |seq _ _ _ _ ih1 ih2=>exact⟨ne ih1.1,ih1.2.mrg ih2.2⟩
 |alt _ _ _ ih=>exact ih
 |all1 _ _ _ ih=>exact ih
 |all _ _ _ _ _ _ ih1 ih2=>exact⟨ne ih1.1,ih1.2.mrg ih2.2⟩
 |plus1 _ _ _ ih=>exact ih
 |plus _ _ _ _ ih1 ih2=>exact⟨ne ih1.1,ih1.2.mrg ih2.2⟩
 |some _ _ _ _ _ ih=>exact ih
namespace Sw
variable {l' l:List A3}{g:A3→A3}{u:Int→Int}(E:Sw l' l g u)
include E
theorem injU {a b:Int}(h:u a=u b):a=b:=by
 have h1:=E.mono a b;have h2:=E.mono b a;omega
theorem lt_lenU {j i:Nat}(hj:j<l'.length)(h:u j=i):i<l.length∧l[i]? =(l'[j]?).map g:=by
 obtain⟨i',h1,h2⟩:=E.at_ j hj
 have:i=i':=by omega
 subst this
 rw[List.getElem?_eq_getElem hj]at h2
 exact⟨(List.getElem?_eq_some_iff.1 h2).1,by rw[List.getElem?_eq_getElem hj];exact h2⟩
theorem rowP_us {s:List PR}(hs:QL l' s){c c':Int}(hc:∀x∈s,(u x.At<c↔x.At<c'))(v:Int):Ja l (Fy u s) c v=(Ja l' s c' v).map g:=by
 unfold Ja Fy;rw[List.filterMap_map,List.map_filterMap];refine Ql fun x hx=>?_;obtain⟨j,hj,e⟩:=hs x hx;have h1:=hc x hx;obtain⟨i,hi,hl⟩:=E.at_ j hj
 show(if u x.At<c∧x.Var=v then l[(u x.At).toNat]? else none)=_
 by_cases h:x.At<c'∧x.Var=v
 ·rw[if_pos h,if_pos ⟨h1.2 h.1,h.2⟩,e,hi];exact hl
 rw[if_neg h,if_neg fun k=>h ⟨h1.1 k.1,k.2⟩];rfl
theorem envP_us {s:List PR}(hs:QL l' s){c c':Int}(hc:∀x∈s,(u x.At<c↔x.At<c')):Gx l (Fy u s) c=gE g (Gx l' s c'):=by
 unfold Gx gE;rw[List.map_map];exact congrArg CH.mk (List.map_congr_left fun v _=>E.rowP_us hs hc _)
theorem hasA_us (s:List PR)(i:Int):HQ (Fy u s) (u i)=HQ s i:=by
 unfold HQ Fy;rw[List.any_map];refine congrArg (fun f=>List.any s f) (funext fun x=>?_);exact decide_eq_decide.2 ⟨fun h=>E.injU h,fun h=>congrArg u h⟩
end Sw
structure Cok (g:A3→A3) (c:A5):Prop where
 at_:∀env own ev,Y2 (gE g env) own (g ev) c=Y2 env own ev c
 no:∀env,Y2 (gE g env) (-1) ⟨0,0,0,0,[]⟩ c=Y2 env (-1) ⟨0,0,0,0,[]⟩ c
def Tok (l':List A3)(g:A3→A3):Prop:=∀x∈l',∀y∈l',ar .sub .i64 (g x).Time (g y).Time=ar .sub .i64 x.Time y.Time
def Cvx (l':List A3)(u:Int→Int):Prop:=∀a c i:Nat,a<l'.length→c<l'.length→u a<i→(i:Int)<u c→∃j:Nat,j<l'.length∧u j=i
theorem Nh {l:List A3} {p:A0} {b s:List PR}:HV l p b s=true↔∀i:Nat,i<l.length→QP s<(i:Int)→(i:Int)<X6 s→FD l p b s i=false:=by
 unfold HV;rw[Bool.not_eq_true',List.any_eq_false]
 constructor
 ·intro h i hi h1 h2;have:=h i (List.mem_range.2 hi)
  simpa[h1,h2]using this
 intro h i hi
 by_cases h1:QP s<(i:Int)∧(i:Int)<X6 s
 ·simp[h i (List.mem_range.1 hi) h1.1 h1.2]
 simp only[Bool.and_eq_true,decide_eq_true_eq];exact fun h=>h1 h.1
namespace Sw
variable {l' l:List A3}{g:A3→A3}{u:Int→Int}(E:Sw l' l g u)
include E
theorem testE_us {p:A0}(hc:Cok g p.cO){b:List PR}(hb:QL l' b){j i:Nat}(hj:j<l'.length)(hi:u j=i):testE l p (Fy u b) i=testE l' p b j:=by
 unfold testE;rw[(E.lt_lenU hj hi).2,List.getElem?_eq_getElem hj]
 show(decide ((g l'[j]).Typ=p.Typ)&&Y2 (Gx l (Fy u b) i) p.Var (g l'[j]) p.cO)=(decide (l'[j].Typ=p.Typ)&&Y2 (Gx l' b j) p.Var l'[j] p.cO)
 rw[E.typ,E.envP_us hb (c:=i) (c':=j) fun x _=>by rw[←hi];exact E.mono _ _,hc.at_]
theorem badAt_us {p:A0}(hc:Cok g p.cO){b s:List PR}(hb:QL l' b)(hs:QL l' s){j i:Nat}(hj:j<l'.length)(hi:u j=i):FD l p (Fy u b) (Fy u s) i=FD l' p b s j:=by
 unfold FD;rw[(E.lt_lenU hj hi).2,List.getElem?_eq_getElem hj,BI E.mono _ _ _ (Nat.le_refl _)]
 show(decide ((g l'[j]).Typ=p.Typ)&&(!HQ (Fy u s) i)&&Y2 (Gx l (Fy u (mrg b s)) i) p.Var (g l'[j]) p.cO)=(decide (l'[j].Typ=p.Typ)&&(!HQ s j)&&Y2 (Gx l' (mrg b s) j) p.Var l'[j] p.cO)
 rw[E.typ,E.envP_us (hb.mrg hs) (c:=i) (c':=j) fun x _=>by rw[←hi];exact E.mono _ _,hc.at_,←hi,E.hasA_us]
theorem timeA_us {j:Int}{n:Nat}(e:j=n)(h:n<l'.length):∃x∈l',Jw l (u j)=(g x).Time∧Jw l' j=x.Time:=by
 subst e;obtain⟨i,hi,hl⟩:=E.at_ n h;refine⟨l'[n],List.getElem_mem h,?_,?_⟩
 ·unfold Jw;rw[hi,Int.toNat_natCast,hl,List.getElem?_eq_getElem h];rfl
 unfold Jw;rw[Int.toNat_natCast,List.getElem?_eq_getElem h]
theorem endsU {s:List PR}(hs:QL l' s)(hn:s≠[]):(∃j:Nat,j<l'.length∧QP s=j)∧∃j:Nat,j<l'.length∧X6 s=j:=by
 obtain⟨x,_,h2,h3⟩:=Di hn;refine⟨?_,by rw[h3];exact hs x h2⟩
 cases s with
 |nil=>exact absurd rfl hn
 |cons y s=>exact hs y (by simp)
theorem keeps_us {p:A0} (hc:Cok g p.cO) (ht:Tok l' g) {b s:List PR} (hb:QL l' b) (hs:QL l' s) (hn:s≠[]) (h57:5≤p.Op∧p.Op≤7):
 (keepsA l p (Fy u b) (Fy u s)=true→keepsA l' p b s=true)∧((p.Op=5→Cvx l' u)→keepsA l' p b s=true→keepsA l p (Fy u b) (Fy u s)=true):=by
 obtain⟨⟨a,ha,ea⟩,⟨c,hc',ec⟩⟩:=E.endsU hs hn;unfold keepsA;rw[WM hn,NW hn]
 by_cases h6:p.Op=6
 ·rw[if_pos h6,if_pos h6];obtain⟨x,hx,x1,x2⟩:=E.timeA_us ea ha;obtain⟨y,hy,y1,y2⟩:=E.timeA_us ec hc';rw[x1,x2,y1,y2,ht y hy x hx];exact⟨id,fun _=>id⟩
 rw[if_neg h6,if_neg h6]
 by_cases h7:p.Op=7
 ·rw[if_pos h7,if_pos h7,BI E.mono _ _ _ (Nat.le_refl _),E.envP_us (hb.mrg hs) (c:=l.length) (c':=l'.length) (fun x hx=>by
   obtain⟨j,hj,e⟩:=(hb.mrg hs) x hx;obtain⟨i,hi,_⟩:=E.at_ j hj;have:=(E.lt_lenU hj hi).1
   rw[e,hi];omega),hc.no]
  exact⟨id,fun _=>id⟩
 rw[if_neg h7,if_neg h7,Nh,Nh,WM hn,NW hn]
 constructor
 ·intro h j hj h1 h2;obtain⟨i,hi,_⟩:=E.at_ j hj;rw[←E.badAt_us hc hb hs hj hi];exact h i (E.lt_lenU hj hi).1 (by rw[←hi];exact(E.mono _ _).2 h1) (by rw[←hi];exact(E.mono _ _).2 h2)
 intro hv h i hi h1 h2;obtain⟨j,hj,e⟩:=hv (by omega) a c i ha hc' (by rw[←ea];exact h1) (by rw[←ec];exact h2);rw[E.badAt_us hc hb hs hj e];exact h j hj ((E.mono _ _).1 (by rw[e];exact h1)) ((E.mono _ _).1 (by rw[e];exact h2))
end Sw
theorem Kr {Q:A0→Prop}(hQ:∀y r,Q y→Q {y with cN:=r}){p:A0}{r:List A0}(h:∀y∈p.pre,Q y)(hr:∀q∈r,q∈p.cN):∀y∈({p with cN:=r}:A0).pre,Q y:=by
 intro y hy
 rw[A0.pre_eq]at hy
 rcases List.mem_cons.1 hy with rfl|hy
 ·exact hQ p r (h p (BE p))
 obtain⟨q,hq,hy⟩:=P6.1 hy;exact h y (by rw[A0.pre_eq];exact List.mem_cons_of_mem _ (P6.2 ⟨q,hr q hq,hy⟩))
theorem V8 {Q:A0→Prop}{p q:A0}(h:∀y∈p.pre,Q y)(hq:q∈p.cN):∀y∈q.pre,Q y:=fun y hy=>h y (by rw[A0.pre_eq];exact List.mem_cons_of_mem _ (P6.2 ⟨q,hq,hy⟩))
def Qn (g:A3→A3)(V:Prop)(y:A0):Prop:=Cok g y.cO∧(y.Op=5→V)
theorem Km {u:Int→Int}(hm:∀a b,u a<u b↔a<b){s:List PR}(hn:s≠[])(j:Int):X6 s+1≤j↔X6 (Fy u s)+1≤u j:=by
 rw[NW hn];have:=hm (X6 s) j;omega
theorem Sw.up {l' l:List A3} {g:A3→A3} {u:Int→Int} (E:Sw l' l g u) (ht:Tok l' g) {p:A0} {b:List PR} {f:Int} {s:List PR} (h:Sm l' p b f s):
 (∀y∈p.pre,Qn g (Cvx l' u) y)→QL l' b→∀f2:Int,(∀j:Int,f≤j↔f2≤u j)→Sm l p (Fy u b) f2 (Fy u s):=by
 have hQ:∀(y:A0) r,Qn g (Cvx l' u) y→Qn g (Cvx l' u) {y with cN:=r}:=fun y r h=>h
 induction h with
 |@ev p b f j h0 hf hj htt=>
  intro hq hb f2 hF;obtain⟨i,hi,_⟩:=E.at_ j hj
  have e:Fy u [⟨p.Var,(j:Int)⟩]=[⟨p.Var,(i:Int)⟩]:=by simp[Fy,TD,hi]
  rw[e];exact .ev h0 (by rw[←hi];exact(hF j).1 hf) (E.lt_lenU hj hi).1 (by rw[E.testE_us (hq p (BE p)).1 hb hj hi];exact htt)
 |seq1 h0 ha _ ih=>intro hq hb f2 hF;exact .seq1 h0 ha (ih (V8 hq (by rw[ha];simp)) hb f2 hF)
 |@seq p q q' r b f s t h0 ha hs _ ih1 ih2=>
  intro hq hb f2 hF;rw[←BI E.mono _ _ _ (Nat.le_refl _)];refine .seq h0 ha (ih1 (V8 hq (by rw[ha];simp)) hb f2 hF) ?_;rw[BI E.mono _ _ _ (Nat.le_refl _)];exact ih2 (Kr hQ hq fun x hx=>by rw[ha];exact List.mem_cons_of_mem _ hx) (hb.mrg hs.inl.2) _ (Km E.mono hs.inl.1)
 |alt h0 ha _ ih=>intro hq hb f2 hF;exact .alt h0 ha (ih (V8 hq ha) hb f2 hF)
 |all1 h0 ha _ ih=>intro hq hb f2 hF;exact .all1 h0 ha (ih (V8 hq (by rw[ha];simp)) hb f2 hF)
 |@all p q r b f s t h0 ha hn _ _ hd ih1 ih2=>
  intro hq hb f2 hF;rw[←BI E.mono _ _ _ (Nat.le_refl _)];refine .all h0 ha hn (ih1 (Kr hQ hq fun x hx=>by rw[ha];simp[hx]) hb f2 hF) (ih2 (V8 hq (by rw[ha];simp)) hb f2 hF) ?_;intro x hx y hy;obtain⟨x',hx',rfl⟩:=List.mem_map.1 hx;obtain⟨y',hy',rfl⟩:=List.mem_map.1 hy;exact fun e=>hd x' hx' y' hy' (E.injU e)
 |plus1 h0 ha _ ih=>intro hq hb f2 hF;exact .plus1 h0 ha (ih (V8 hq (by rw[ha];simp)) hb f2 hF)
 |@plus p q b f s t h0 ha hs _ ih1 ih2=>
  intro hq hb f2 hF;rw[←BI E.mono _ _ _ (Nat.le_refl _)];refine .plus h0 ha (ih1 (V8 hq (by rw[ha];simp)) hb f2 hF) ?_;rw[BI E.mono _ _ _ (Nat.le_refl _)];exact ih2 hq (hb.mrg hs.inl.2) _ (Km E.mono hs.inl.1)
 |@some p q b f s h0 h1 ha hs hk ih=>
  intro hq hb f2 hF;have hp:=hq p (BE p);exact .some h0 h1 ha (ih (V8 hq (by rw[ha];simp)) hb f2 hF) ((E.keeps_us hp.1 ht hb hs.inl.2 hs.inl.1 ⟨h0,h1⟩).2 hp.2 hk)
theorem Sw.dn {l' l:List A3} {g:A3→A3} {u:Int→Int} (E:Sw l' l g u) (ht:Tok l' g) {p:A0} {b2:List PR} {f2:Int} {s2:List PR} (h:Sm l p b2 f2 s2):
 (∀y∈p.pre,Qn g True y)→∀(b:List PR) (f:Int),b2=Fy u b→QL l' b→(∀j:Int,f≤j↔f2≤u j)→(∀x∈s2,∃j:Nat,j<l'.length∧u j=x.At)→∃s,s2=Fy u s∧Sm l' p b f s:=by
 have hQ:∀(y:A0) r,Qn g True y→Qn g True {y with cN:=r}:=fun y r h=>h
 induction h with
 |@ev p b2 f2 i h0 hf hi htt=>
  intro hq b f eb hb hF hx;obtain⟨j,hj,e⟩:=hx ⟨p.Var,(i:Int)⟩ (by simp)
  simp only at e
  subst eb
  rw[E.testE_us (hq p (BE p)).1 hb hj e]at htt
  exact⟨[⟨p.Var,(j:Int)⟩],by simp[Fy,TD,e],.ev h0 ((hF j).2 (by rw[e];exact hf)) hj htt⟩
 |seq1 h0 ha _ ih=>
  intro hq b f eb hb hF hx;obtain⟨s,e,hs⟩:=ih (V8 hq (by rw[ha];simp)) b f eb hb hF hx;exact⟨s,e,.seq1 h0 ha hs⟩
 |@seq p q q' r b2 f2 s2 t2 h0 ha _ _ ih1 ih2=>
  intro hq b f eb hb hF hx;obtain⟨s,rfl,hs⟩:=ih1 (V8 hq (by rw[ha];simp)) b f eb hb hF fun x h=>hx x (V6.2 (.inl h));subst eb;obtain⟨t,rfl,ht⟩:=ih2 (Kr hQ hq fun x hx=>by rw[ha];exact List.mem_cons_of_mem _ hx) (mrg b s) (X6 s+1) (BI E.mono _ _ _ (Nat.le_refl _)) (hb.mrg hs.inl.2) (Km E.mono hs.inl.1) fun x h=>hx x (V6.2 (.inr h));exact⟨mrg s t,BI E.mono _ _ _ (Nat.le_refl _),.seq h0 ha hs ht⟩
 |alt h0 ha _ ih=>
  intro hq b f eb hb hF hx;obtain⟨s,e,hs⟩:=ih (V8 hq ha) b f eb hb hF hx;exact⟨s,e,.alt h0 ha hs⟩
 |all1 h0 ha _ ih=>
  intro hq b f eb hb hF hx;obtain⟨s,e,hs⟩:=ih (V8 hq (by rw[ha];simp)) b f eb hb hF hx;exact⟨s,e,.all1 h0 ha hs⟩
 |@all p q r b2 f2 s2 t2 h0 ha hn _ _ hd ih1 ih2=>
  intro hq b f eb hb hF hx;obtain⟨s,rfl,hs⟩:=ih1 (Kr hQ hq fun x hx=>by rw[ha];simp[hx]) b f eb hb hF fun x h=>hx x (V6.2 (.inl h));obtain⟨t,rfl,ht⟩:=ih2 (V8 hq (by rw[ha];simp)) b f eb hb hF fun x h=>hx x (V6.2 (.inr h));exact⟨mrg s t,BI E.mono _ _ _ (Nat.le_refl _),.all h0 ha hn hs ht fun x hx y hy e=>hd (TD u x) (List.mem_map_of_mem hx) (TD u y) (List.mem_map_of_mem hy) (congrArg u e)⟩
 |plus1 h0 ha _ ih=>
  intro hq b f eb hb hF hx;obtain⟨s,e,hs⟩:=ih (V8 hq (by rw[ha];simp)) b f eb hb hF hx;exact⟨s,e,.plus1 h0 ha hs⟩
 |@plus p q b2 f2 s2 t2 h0 ha _ _ ih1 ih2=>
  intro hq b f eb hb hF hx;obtain⟨s,rfl,hs⟩:=ih1 (V8 hq (by rw[ha];simp)) b f eb hb hF fun x h=>hx x (V6.2 (.inl h));subst eb;obtain⟨t,rfl,ht⟩:=ih2 hq (mrg b s) (X6 s+1) (BI E.mono _ _ _ (Nat.le_refl _)) (hb.mrg hs.inl.2) (Km E.mono hs.inl.1) fun x h=>hx x (V6.2 (.inr h));exact⟨mrg s t,BI E.mono _ _ _ (Nat.le_refl _),.plus h0 ha hs ht⟩
 |@some p q b2 f2 s2 h0 h1 ha _ hk ih=>
  intro hq b f eb hb hF hx;obtain⟨s,rfl,hs⟩:=ih (V8 hq (by rw[ha];simp)) b f eb hb hF hx;subst eb;have hp:=hq p (BE p);exact⟨s,rfl,.some h0 h1 ha hs ((E.keeps_us hp.1 ht hb hs.inl.2 hs.inl.1 ⟨h0,h1⟩).1 hk)⟩
end
end Go.Ab
