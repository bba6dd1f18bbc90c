/- GHV5 GHV6 GHV7 GHW0 GHW1 GHW2 GHW3 GHW4 GHW5 GHW6 GHW7 -/
import Derived.Test.YtmfdlklcmoklhaaGreatDoorB17
set_option linter.all false
open Go.Ab.Ar (an ar cmp scmp)
namespace Go.Ab
noncomputable section
open Classical
theorem YX (x y:A7):an (cmp .eql x.Kind y.Kind) (an (cmp .eql x.Num y.Num) (an (scmp .eql x.Text y.Text) true))=decide (x=y):=by
 rw[GT];simp only[N7,C8,ET];cases x;cases y;simp only[A7.mk.injEq];rw[Bb];simp
def BP (env:Cl)(own:Int)(ev:B3)(x:B0):Bool:=decide ((OX env own ev x).2=0)&&decide ((OX env own ev x).1=⟨1,1,⟨#[]⟩⟩)
theorem WC {N:Nat}(hN:40000000≤N){env:Cl}(he:Jd env)(own:Int)(ev:B3){x:B0}(hb:x.bulk≤16777216):Gm N x env own ev=some (BP env own ev x):=by
 unfold Gm BP;rw[AO3 hN he own ev hb];simp only[A4];rw[C8]
 by_cases h:(OX env own ev x).2=0
 ·rw[A2 (D5 h),VX];simp only[A4,D5 h,IC];rw[YX];exact J5 some (decide_eq_decide.2 EO)
 rw[A1 (by simpa using h),R8 h];rfl
end
end Go.Ab
namespace Go.Ab
noncomputable section
theorem QG (N:Nat){k:Int}(h0:0≤k)(h5:k≤5)(v:A7):AU N k v=some (decide (v.Kind=0∨(k≠1∧k≠2∧k≠3))):=by
 unfold AU;simp only[P1,C8,E6]
 have h:k=0∨k=1∨k=2∨k=3∨k=4∨k=5:=by omega
 by_cases hz:v.Kind=0<;>rcases h with rfl|rfl|rfl|rfl|rfl|rfl<;>simp[hz]
theorem Uj (N:Nat) {k:Int} (h0:0≤k) (h5:k≤5) (v:A7):Ct N k v=some (S7 k v):=by
 unfold Ct S7;rw[Mz];simp only[A4]
 by_cases h:N3 v=0
 ·rw[A1 (T5 h),A1 (show¬N3 v≠0 by simpa using h),QG N h0 h5];simp only[A4]
  by_cases h2:v.Kind=0∨(k≠1∧k≠2∧k≠3)
  ·rw[A1 (by rw[Q5,D5 h2];decide),A2 h2]
  rw[A2 (by rw[Q5,R8 h2];rfl),A1 h2]
 rw[A2 (W0 h),A2 h]
theorem Xi (N:Nat)(k:Int)(a b:A7):Ej N k a b=some (No k a b):=by
 unfold Ej No;simp only[C8,D9]
 repeat (split;rfl)
 rfl
theorem Xf (N:Nat)(k:Int):HX N k=some (decide (0≤k)&&decide (k≤5)):=rfl
theorem OA {N:Nat} {k:Int} (h0:0≤k) (h5:k≤5) {l:List A7} (hl:l.length≤4096) (hv:∀v∈l,S7 k v=0):Fe N (W3 k l)=some 0:=by
 unfold Fe;rw[Xf];simp only[A4]
 have e1:¬(Ar.nt (decide (0≤(W3 k l).Kind)&&decide ((W3 k l).Kind≤5))=true):=by
  show¬((!(decide (0≤k)&&decide (k≤5)))=true)
  simp;omega
 have e2:¬(Ar.or (cmp .lss (W3 k l).Count 0) (cmp .gtr (W3 k l).Count 4096)=true):=by
  show¬((decide ((l.length:Int)<0)||decide (4096<(l.length:Int)))=true)
  simp;omega
 rw[A1 e1,A1 e2]
 by_cases hz:l=[]∨k=0
 ·have e3:Ar.or (cmp .eql (W3 k l).Count 0) (cmp .eql (W3 k l).Kind 0)=true:=by
   show(decide ((l.length:Int)=0)||decide (k=0))=true
   rcases hz with rfl|h
   ·rfl
   simp[h]
  have e4:(W3 k l).Value=Bu:=by
   by_cases hn:l=[]
   ·subst hn;rfl
   exact(OU _ rfl hn hl hv).c (hz.resolve_left hn)
  rw[A2 e3,e4];exact A1 (by simp[Q5,N7,C8,GT,Bu])
 have hn:l≠[]:=fun h=>hz (.inl h);have hk:k≠0:=fun h=>hz (.inr h);have hlen:l.length≠0:=fun h=>hn (Dx h)
 have e3:¬(Ar.or (cmp .eql (W3 k l).Count 0) (cmp .eql (W3 k l).Kind 0)=true):=by
  show¬((decide ((l.length:Int)=0)||decide (k=0))=true)
  simp[hk,hn]
 rw[A1 e3];have g:=OU _ rfl hn hl hv
 by_cases k1:k=1
 ·rw[A2 (show cmp .eql (W3 k l).Kind 1=true from D5 k1)];obtain⟨a,b,c,d⟩:=g.s k1;have ev:(W3 k l).Value=Ce k l:=rfl;have ec:(W3 k l).Count=(l.length:Int):=rfl;have em:ar .mul .i64 (l.length:Int) 1099511627776=(l.length:Int)*1099511627776:=Eh (by omega) (by omega)
  have en:Ar.neg .i64 ((l.length:Int)*1099511627776)= - ((l.length:Int)*1099511627776):=by
   show IntKind.wrap .i64 (0 - (l.length:Int)*1099511627776)=_
   rw[Eh (by omega) (by omega)];omega
  rw[ev,ec,em,en];rw[A1];rw[show scmp .neq (Ce k l).Text ⟨#[]⟩= !(scmp .eql (Ce k l).Text ⟨#[]⟩)from rfl,GT];simp only[P1,H8,D1,CM];rw[D5 a,D5 b,R8 (show¬(Ce k l).Num< -((l.length:Int)*1099511627776) by omega),R8 (show¬(l.length:Int)*1099511627776<(Ce k l).Num by omega)]
  decide
 rw[A1 (show¬(cmp .eql (W3 k l).Kind 1=true)from(by show¬decide (k=1)=true;simpa using k1))]
 have hvb:N3 (Ce k l)=0:=by
  by_cases h23:k=2∨k=3
  ·exact(g.m h23).1
  exact g.f (by omega)
 have hsu:(Ce k l).Kind=0∨(k≠1∧k≠2∧k≠3):=by
  by_cases h23:k=2∨k=3
  ·exact .inl (g.m h23).2
  exact .inr (by omega)
 show((Bz N (Ce k l)).bind _)=_
 rw[Mz,hvb];simp only[A4];rw[A1 (show¬(cmp .neq 0 0=true) by decide)]
 show((AU N k (Ce k l)).bind _)=_
 rw[QG N h0 h5,D5 hsu];rfl
theorem AK3 {N:Nat} {k:Int} (h0:0≤k) (h5:k≤5) {l:List A7} (hl:l.length<4096) (hv:∀v∈l,S7 k v=0) (v:A7):
 ∃z,Ff N (W3 k l) v=some (if S7 k v=0 then(W3 k (l++[v]),0)else(z,S7 k v)):=by
 refine⟨⟨0,0,Bu⟩,?_⟩;unfold Ff;rw[OA h0 h5 (by omega) hv];simp only[A4];rw[A1 (show¬(cmp .neq 0 0=true) by decide)]
 show((Ct N k v).bind _)=_
 rw[Uj N h0 h5];simp only[A4]
 by_cases hw:S7 k v=0
 ·rw[A1 (T5 hw),A2 hw];have ec:(W3 k l).Count=(l.length:Int):=rfl;have ek:(W3 k l).Kind=k:=rfl;have ev:(W3 k l).Value=Ce k l:=rfl
  have ea:W3 k (l++[v])=⟨k,(l.length:Int)+1,if l=[]then Ei k v else No k (Ce k l) (Ei k v)⟩:=by
   unfold W3;rw[NX];simp
  rw[ec,ek,ev,ea,E9 (a:=(l.length:Int)) (by omega) (by omega)];rw[A1 (show¬(cmp .eql (l.length:Int) 4096=true) by rw[C8];simp;omega)]
  by_cases k0:k=0
  ·subst k0;rw[A2 (show cmp .eql 0 0=true by rfl)]
   have:(if l=[]then Ei 0 v else No 0 (Ce 0 l) (Ei 0 v))=Bu:=by split<;>rfl
   rw[this];rfl
  rw[A1 (show¬(cmp .eql k 0=true) by rw[C8];simpa using k0)];have es:Ei k v=v:=A1 k0;rw[es]
  by_cases hn:l=[]
  ·subst hn;rw[A1 (show¬(cmp .gtr (([]:List A7).length:Int) 0=true) by decide),A2 rfl]
  have:0<l.length:=List.length_pos_iff.2 hn;rw[A2 (show cmp .gtr (l.length:Int) 0=true from D5 (by omega)),Xi,A1 hn];rfl
 rw[A2 (W0 hw),A1 hw];rfl
theorem QH {N:Nat} {k:Int} (h0:0≤k) (h5:k≤5):∀(l p:List A7),p.length+l.length≤4096→(∀v∈p,S7 k v=0)→
 ∃z,K9 (fun(s:C6) v=>(Ff N s v).bind fun r=>if cmp .neq r.2 0=true then some (Sum.inr (Sum.inr (α:=C6) (r.2,s)))else some (.inl r.1)) l (W3 k p)=
  some (if Av (S7 k) l=0 then .inl (W3 k (p++l))else .inr (.inr (Av (S7 k) l,z)))
 |[],p,_,_=>⟨W3 k p,by simp[K9,Av]⟩
 |v::l,p,hl,hp=>by
  simp only[J7]at hl
  obtain⟨z,hz⟩:=AK3 (N:=N) h0 h5 (l:=p) (by omega) hp v;simp only[K9,hz,A4,Av]
  by_cases hw:S7 k v=0
  ·obtain⟨z',h'⟩:=QH (N:=N) h0 h5 l (p++[v]) (by simp;omega) (by intro x hx;rcases List.mem_append.1 hx with h|h;exact hp x h;rw[List.mem_singleton.1 h];exact hw);refine⟨z',?_⟩;simp only[hw,C7,A1 (T5 (rfl:(0:Int)=0))];rw[h',D4];rfl
  refine⟨W3 k p,?_⟩;simp only[hw,E4,A2 (W0 hw)]
theorem AK2 {N:Nat} (hN:40000000≤N) (k:Int) (l:List A7) (o:A7):LO N k l o=some (AG9 k l o):=by
 unfold LO AG9;rw[Xf];simp only[A4]
 by_cases h0:k<0∨5<k
 ·rw[A2 (by show(!(decide (0≤k)&&decide (k≤5)))=true;simp;omega),A2 h0];rfl
 rw[A1 (by show¬((!(decide (0≤k)&&decide (k≤5)))=true);simp;omega),A1 h0]
 by_cases h1:4096<l.length
 ·rw[A2 (BX (by rw[B5];omega)),A2 h1];rfl
 rw[A1 (An (by rw[B5];omega)),A1 h1];rw[P6 l (by omega) (mk:=fun(s:C6) i=>(i,s)) (body:=fun(s:C6) v=>(Ff N s v).bind fun r=>if cmp .neq r.2 0=true then some (Sum.inr (Sum.inr (α:=C6) (r.2,s)))else some (.inl r.1)) (fin:=fun s=>.inl s) (s:=⟨k,0,⟨0,0,⟨#[]⟩⟩⟩) (by omega) ?_ ?_]
 ·obtain⟨z,hz⟩:=QH (N:=N) (k:=k) (by omega) (by omega) l [] (by simpa using by omega) (by simp);rw[show(⟨k,0,⟨0,0,⟨#[]⟩⟩⟩:C6)=W3 k []from rfl,hz]
  by_cases h2:Av (S7 k) l=0
  ·rw[A2 h2,A1 (show¬Av (S7 k) l≠0 by simpa using h2)];have hv:=Fk.1 h2;simp only[A4,J1];unfold Hv;rw[OA (by omega) (by omega) (by omega) hv];simp only[A4];rw[A1 (show¬(cmp .neq 0 0=true) by decide)]
   show((Ct N k o).bind _).bind _=_
   rw[Uj N (by omega) (by omega)];simp only[A4]
   by_cases h3:S7 k o=0
   ·rw[A1 (T5 h3),A1 (show¬S7 k o≠0 by simpa using h3)]
    by_cases h4:k=0
    ·rw[A2 (show cmp .eql (W3 k l).Kind 0=true from D5 h4),A2 h4];rfl
    rw[A1 (show¬(cmp .eql (W3 k l).Kind 0=true)from(by show¬decide (k=0)=true;simpa using h4)),A1 h4]
    by_cases h5:l=[]∧k≠1
    ·rw[A2 (show an (cmp .eql (W3 k l).Count 0) (cmp .neq (W3 k l).Kind 1)=true by show(decide ((l.length:Int)=0)&& !decide (k=1))=true;simp[h5.1,h5.2]),A2 h5];rfl
    rw[A1 (show¬(an (cmp .eql (W3 k l).Count 0) (cmp .neq (W3 k l).Kind 1)=true) by show¬((decide ((l.length:Int)=0)&& !decide (k=1))=true);simpa using h5),A1 h5];rfl
   rw[A2 (W0 h3),A2 (show S7 k o≠0 from h3)];rfl
  rw[A1 h2,A2 (show Av (S7 k) l≠0 from h2)];rfl
 ·intro s i a ha hi;have e:ar .add .i64 (i:Int) 1=i+1:=E9 (by omega) (by omega);simp only[D1,B5,hi,I6,C7,G2,ha,A4,e]
  cases Ff N s a with
  |none=>rfl
  |some r=>simp only[A4];split<;>rfl
 intro s;simp[D1,B5]
end
end Go.Ab
namespace Go.Ab
noncomputable section
theorem Se (N:Nat)(b:Bool):X6 N b=some (Nl b):=by unfold X6 Nl;cases b<;>rfl
theorem Vx (N:Nat)(env:Cl)(v:Int):CF N env v=some (Gp env v):=by
 unfold CF Gp
 by_cases h:v<0∨(env.dO.length:Int)≤v
 ·rw[A2 (by simp only[P1,D1,R6,B5];simpa using h),A2 h]
 rw[A1 (by simp only[P1,D1,R6,B5];simpa using h),A1 h]
 have hi:v.toNat<env.dO.length:=by omega
 have hv:v=(v.toNat:Int):=by omega
 rw[hv,G2];simp only[N1,Z8,E2 hi,A4,V8]
theorem XV {l:List A7}{k:Int}(h0:0≤k)(h1:k<l.length):C5 l k=some (l.getD k.toNat Bu):=by
 obtain⟨i,rfl⟩:=BN h0
 have hi:i<l.length:=by omega
 rw[G2];simp[N1,E2 hi]
theorem Ax5 (N:Nat) {env:Cl} (he:Jd env) (v own:Int) (ev:B3):HV N env v own ev=some (match NO (Gp env v) own ev v with|some y=>(y,true)|none=>(⟨0,0,0,0,[]⟩,false)):=by
 have hl:=RA he v;unfold HV NO
 by_cases hv:v=own
 ·rw[A2 (by rw[C8];exact D5 hv),A1 (by simpa using hv)]
 rw[A1 (by rw[C8];simpa using hv),A2 hv,Vx];simp only[A4]
 generalize Gp env v=rows at hl
 rcases Dw rows with rfl|⟨q,y,rfl⟩
 ·rfl
 rw[Dv]at *
 have e1:ar .sub .i64 (Ar.len (q++[y])) 1=(q.length:Int):=by
  have:ar .sub .i64 (Ar.len (q++[y])) 1=Ar.len (q++[y]) - 1:=Eh (by rw[B5];omega) (by rw[B5];omega);rw[this,B5];simp
 rw[A1 (by rw[C8,B5];simp;omega),e1,G2];simp
theorem Ax4 {N:Nat} (hN:40000000≤N) {env:Cl} (he:Jd env) (own:Int) (ev:B3) {x:B0} (hx:BY x=0) (ha:x.dD=[]):HU N x env own ev=some (Ho env own ev x):=by
 have hok:=AS1 hx
 have hop:0≤x.Op∧x.Op<5:=by
  have:=MQ hx
  rw[ha]at this
  simp only[T7]at this
  obtain⟨h1,h2,h3⟩:=this
  by_cases h5:x.Op<5
  ·exact⟨h1,h5⟩
  rw[A1 h5]at h3
  split at h3<;>omega
 have hl:=RA he x.Var;unfold HU Ho
 by_cases h0:x.Op=0
 ·rw[A2 (by rw[C8];exact D5 h0),A2 h0]
 rw[A1 (by rw[C8];simpa using h0),A1 h0]
 by_cases h3:x.Op=3
 ·rw[A2 (by rw[C8];exact D5 h3),A2 h3,Vx];rfl
 rw[A1 (by rw[C8];simpa using h3),A1 h3]
 by_cases h4:x.Op=4
 ·have hf:=(hok.1 (.inr h4)).1;rw[A2 (by rw[C8];exact D5 h4),A2 h4,Vx];simp only[A4];unfold Ve
  generalize Gp env x.Var=rows at hl
  rw[P6 rows (by omega) (mk:=fun(s:List A7) i=>(s,i)) (body:=fun s e=>if cmp .geq x.Field (Ar.len e.Values)=true then some (.inr (.inr ()))else(C5 e.Values x.Field).bind fun v=>(N6 s [v]).bind fun l=>some (.inl l)) (fin:=fun s=>.inl s) (s:=[]) (by omega) ?_ ?_]
  ·rw[NE (p:=fun e=>decide (x.Field<(e.Values.length:Int))) (g:=fun e=>e.Values.getD x.Field.toNat Bu) (r:=.inr ()) (by simp;omega) (fun s e _ hs=>by
    by_cases h:(e.Values.length:Int)≤x.Field
    ·rw[A2 (by rw[R6,B5];exact D5 h),A1 (by simpa using h)]
    rw[A1 (by rw[R6,B5];simpa using h),A2 (by simpa using h),XV hf (by omega)];simp only[A4]
    rw[U8 (by simp;omega)];rfl)]
   by_cases h:(rows.all fun e=>decide (x.Field<(e.Values.length:Int)))=true
   ·rw[A2 h,A2 h];simp only[A4,J1];rw[AK2 hN];rfl
   rw[A1 h,A1 h];rfl
  ·intro s i a ha hi;have e:ar .add .i64 (i:Int) 1=i+1:=E9 (by omega) (by omega);simp only[D1,B5,hi,I6,C7,G2,ha,A4,e]
   split
   ·rfl
   cases C5 a.Values x.Field with
   |none=>rfl
   |some v=>
    simp only[A4];cases N6 s [v]<;>rfl
  intro s;simp[D1,B5]
 rw[A1 (by rw[C8];simpa using h4),A1 h4,Ax5 N he];simp only[A4]
 cases hy:NO (Gp env x.Var) own ev x.Var with
 |none=>rfl
 |some y=>
  simp only[Q5,W5,F6,E4];unfold Ax8
  by_cases h2:x.Op=2
  ·rw[A2 (by rw[C8];exact D5 h2),A2 h2]
  rw[A1 (by rw[C8];simpa using h2),A1 h2]
  have h1:x.Op=1:=by omega
  have hf:=(hok.1 (.inl h1)).1;unfold Il
  by_cases hb:(y.Values.length:Int)≤x.Field
  ·rw[A2 (by rw[R6,B5];exact D5 hb),A2 hb];rfl
  rw[A1 (by rw[R6,B5];simpa using hb),A1 hb,XV hf (by omega)];simp only[A4];rw[Mz];simp only[A4];rw[A1 (show¬((0:Int)≠0) by simp)]
  by_cases hc:N3 (y.Values.getD x.Field.toNat Bu)=0
  ·rw[A1 (T5 hc),A1 (show¬N3 (y.Values.getD x.Field.toNat Bu)≠0 by simpa using hc)]
  rw[A2 (W0 hc),A2 hc];rfl
theorem AJ9 (N:Nat)(op:Int):DG N op=some (if op=5∨op=6∨op=7∨op=8 then 0 else if op=10∨op=11∨op=12 then 1 else -1):=by
 unfold DG;simp only[C8,D9]
 by_cases h5:op=5
 ·simp[h5]
 by_cases h6:op=6
 ·simp[h6]
 by_cases h7:op=7
 ·simp[h7]
 by_cases h8:op=8
 ·simp[h8]
 simp only[h5,h6,h7,h8,E4,A4,ES,F6,or_self,false_or]
 by_cases h10:op=10
 ·simp[h10]
 by_cases h11:op=11
 ·simp[h11]
 by_cases h12:op=12
 ·simp[h12]
 simp[h10,h11,h12]
theorem Vw {N:Nat} (hN:40000000≤N) (op:Int) {kinds:List Int} (hl:kinds.length<1000000):DE N op kinds=some (KJ op kinds):=by
 unfold DE KJ;rw[P6 kinds (by omega) (mk:=fun(_:Unit) i=>i) (body:=fun _ k=>some (if Kr op kinds k=true then .inl ()else .inr (.inr ()))) (fin:=fun _=>.inl ()) (s:=()) (by omega) ?_ ?_]
 ·rw[NF (p:=Kr op kinds) (r:=.inr ()) fun x _=>rfl]
  by_cases h:kinds.all (Kr op kinds)=true
  ·rw[A2 h,A2 h];rfl
  rw[A1 h,A1 h];rfl
 ·intro s i k hk hi;have e:ar .add .i64 (i:Int) 1=i+1:=E9 (by omega) (by omega)
  have h0:C5 kinds 0=some (kinds.getD 0 0):=by
   have:C5 kinds 0=kinds[0]? :=G2 (i:=0);rw[this,N1,E2 (by omega)];rfl
  simp only[D1,B5,hi,I6,C7,G2,hk,A4,e,C8,h0,Q5,AJ9,H8,R6];unfold Kr
  by_cases a5:op=5
  ·subst a5;by_cases hz:k=0<;>simp[hz]
  by_cases a6:op=6
  ·subst a6;by_cases hz:k=0<;>simp[hz]
  by_cases a7:op=7
  ·subst a7;by_cases hz:k=0<;>simp[hz]
  by_cases a8:op=8
  ·subst a8;by_cases hz:k=0<;>simp[hz]
  by_cases a10:op=10
  ·subst a10;by_cases hz:k=1<;>simp[hz]
  by_cases a11:op=11
  ·subst a11;by_cases hz:k=1<;>simp[hz]
  by_cases a12:op=12
  ·subst a12;by_cases hz:k=1<;>simp[hz]
  by_cases a9:op=9
  ·subst a9;generalize kinds.getD 0 0=z
   by_cases hz:k=z<;>simp[hz]
  simp[a5,a6,a7,a8,a9,a10,a11,a12]
 intro s;simp[D1,B5]
theorem Zs {N:Nat} (hN:40000000≤N) {env:Cl} (he:Jd env) (own:Int) (ev:B3):∀(n:Nat) (x:B0),x.dep≤n→x.bulk≤16777216→(∀y∈x.pre,BY y=0)→CE N n x env own ev=some (Jm (Ho env own ev) x):=by
 intro n
 induction n with
 |zero=>intro x h;rw[B0.dep_eq]at h;omega
 | succ n ih=>
  intro x hd hb hbad;have hx:=hbad x (by rw[B0.pre_eq];simp);have hd':=B0.dep_eq x;unfold CE;rw[Yf]
  by_cases h0:x.dD.length=0
  ·rw[A2 (by rw[C8,B5];exact D5 (by omega)),A2 h0,Ax4 hN he own ev hx (Dx h0)];rfl
  rw[A1 (by rw[C8,B5];simpa using(show¬(x.dD.length:Int)=0 by omega)),A1 h0];obtain⟨a1,a2,a3⟩:=MQ hx
  have hlen:x.dD.length≤2:=by
   split at a3
   ·omega
   split at a3<;>omega
  have hop5:5≤x.Op:=by
   by_cases h5:x.Op<5
   ·rw[A2 h5]at a3;omega
   omega
  have hF:∀a∈x.dD,CE N n a env own ev=some (Jm (Ho env own ev) a):=fun a ha=>ih a (by have:=SX ha;omega) (by have:=BT ha;omega) fun y hy=>hbad y (by rw[B0.pre_eq];exact Q1 _ (PU ha hy));rw[P6 x.dD (by omega) (mk:=fun(s:List A7×List Int) i=>(s.1,s.2,i)) (body:=fun(s:List A7×List Int) a=>(CE N n a env own ev).bind fun r8=>if cmp .neq r8.2 0=true then some (.inr (.inr r8.2))else(N6 s.1 [r8.1]).bind fun l9=>(N6 s.2 [r8.1.Kind]).bind fun l12=>some (.inl (l9,l12))) (fin:=fun s=>.inl s) (s:=([],[])) (by omega) ?_ ?_]
  ·rw [LQ (R:=Ho env own ev) rfl (by simp;omega) hF]
   cases hq:Gr (Ho env own ev) x.dD with
   |inr f=>rfl
   | inl q=>
    simp only[A4,J1];have hql:=NZ hq;rw[Vw hN _ (by simp;omega)];simp only[A4]
    by_cases hz:KJ x.Op (q.map (·.Kind))=0
    ·rw[A1 (T5 hz),A1 (show¬KJ x.Op (q.map (·.Kind))≠0 by simpa using hz)]
     have hi0:C5 q 0=some (q.getD 0 Bu):=by
      have:C5 q 0=q[0]? :=G2 (i:=0);rw[this,Mk (by omega)]
     unfold Je
     by_cases h12:x.Op=12
     ·have e1:q.length - 1=0:=by rw[A1 (by omega),A2 h12]at a3;omega
      rw[h12];simp only[C8,hi0,A4,Se,H8];rfl
     have h2:q.length=2:=by rw[A1 (by omega),A1 h12]at a3;omega
     have hi1:C5 q 1=some (q.getD 1 Bu):=by
      have:C5 q 1=q[1]? :=G2 (i:=1);rw[this,Mk (by omega)]
     have e1:q.length - 1=1:=by omega
     unfold Wi;rw[e1];simp only[C8,hi0,hi1,A4,Se,H8,D1,Kw];generalize q.getD 0 Bu=v;generalize q.getD 1 Bu=w
     have hop:x.Op=5∨x.Op=6∨x.Op=7∨x.Op=8∨x.Op=9∨x.Op=10∨x.Op=11:=by omega
     rcases hop with h|h|h|h|h|h|h
     ·simp[h]
     ·simp[h]
     ·simp[h]
     ·simp[h]
     ·simp only[h];have:=YX v w
      simp only[C8]at this
      rw[this];simp
     ·simp only[h]
      by_cases hv:v.Num=1<;>simp[hv]
     simp only[h]
     by_cases hv:v.Num=1<;>simp[hv]
    rw[A2 (W0 hz),A2 hz];rfl
  ·intro s i a ha hi;have e:ar .add .i64 (i:Int) 1=i+1:=E9 (by omega) (by omega);simp only[D1,B5,hi,I6,C7,G2,ha,A4,e]
   cases CE N n a env own ev with
   |none=>rfl
   | some r=>
    simp only[A4]
    split
    ·rfl
    cases N6 s.1 [r.1]with
    |none=>rfl
    |some l=>
     simp only[A4];cases N6 s.2 [r.1.Kind]<;>rfl
  intro s;simp[D1,B5]
theorem Ax7 {N:Nat}(hN:40000000≤N){env:Cl}(he:Jd env)(own:Int)(ev:B3){x:B0}(hb:x.bulk≤16777216):HW N x env own ev=some (OX env own ev x):=by
 unfold HW OX;rw[Tf hN hb];simp only[A4]
 by_cases h:R7 x=0
 ·rw[A1 (T5 h),A2 h];have hd:=Of x;rw[Zs hN he own ev N x (by omega) hb (Nm h)];rfl
 rw[A2 (W0 h),A1 h];rfl
theorem Uk {N:Nat}(hN:40000000≤N){env:Cl}(he:Jd env)(own:Int)(ev:B3){x:B0}(hb:x.bulk≤16777216):DH N x env own ev=some (BP env own ev x):=by
 unfold DH BP;rw[Ax7 hN he own ev hb];simp only[A4];rw[C8]
 by_cases h:(OX env own ev x).2=0
 ·rw[A2 (D5 h),Se];simp only[A4,D5 h,IC];rw[YX];exact J5 some (decide_eq_decide.2 EO)
 rw[A1 (by simpa using h),R8 h];rfl
end
end Go.Ab
namespace Go.Ab
open Classical
noncomputable section
abbrev BD :=A3
abbrev PR :=Eg
def pr (b:BD):PR:=⟨b.dI,b.at_⟩
def Ov (b:PR):BD:=⟨b.Var,b.At⟩
theorem AL0 (b:PR):pr (Ov b)=b:=rfl
theorem Ad7 (b:BD):Ov (pr b)=b:=rfl
abbrev L8 (s:List BD):List PR:=s.map pr
theorem Y1 (s:List PR):L8 (s.map Ov)=s:=by rw[L8,Co];exact(BM fun x _=>AL0 x).trans (List.map_id s)
theorem AU4 {a b:BD}(h:pr a=pr b):a=b:=by have:=J5 Ov h;simpa[Ad7]using this
theorem ME {a b:List BD}(h:L8 a=L8 b):a=b:=(List.map_inj_right (fun _ _ h=>AU4 h)).1 h
def mrg :List PR→List PR→List PR
 |[],b=>b
 |x::a,[]=>x::a
 |x::a,y::b=>if x.At<y.At then x::mrg a (y::b)else y::mrg (x::a) b
 termination_by a b=>a.length+b.length
theorem OJ (b:List PR):mrg [] b=b:=by unfold mrg;rfl
theorem XE (a:List PR):mrg a []=a:=by cases a<;>(unfold mrg;rfl)
theorem XF (x y:PR)(a b:List PR):mrg (x::a) (y::b)=if x.At<y.At then x::mrg a (y::b)else y::mrg (x::a) b:=by rw[mrg]
theorem LY :∀(n:Nat) (a b:List PR),a.length+b.length≤n→(mrg a b).Perm (a++b)
 |_,[],b,_=>by rw[OJ];exact .refl _
 |_,x::a,[],_=>by rw[XE];simp
 |0,x::a,y::b,h=>by simp at h
 |n+1,x::a,y::b,h=>by
  simp only[J7]at h
  rw[XF]
  split
  ·exact(LY n a (y::b) (by simp;omega)).cons x
  exact((LY n (x::a) b (by simp;omega)).cons y).trans (List.perm_middle.symm)
theorem GD {a b:List PR}{x:PR}:x∈mrg a b↔x∈a∨x∈b:=by rw[(LY _ a b (C4 _)).mem_iff,Az]
theorem Af9 (a b:List PR):(mrg a b).length=a.length+b.length:=by rw[(LY _ a b (C4 _)).length_eq,K7]
def Asc (a:List PR):Prop:=a.Pairwise fun x y=>x.At<y.At
def FW (a b:List PR):Prop:=∀x∈a,∀y∈b,x.At≠y.At
theorem Rs :∀(n:Nat) {a b:List PR},a.length+b.length≤n→Asc a→Asc b→FW a b→Asc (mrg a b)
 |_,[],b,_,_,hb,_=>by rw[OJ];exact hb
 |_,x::a,[],_,ha,_,_=>by rw[XE];exact ha
 |0,x::a,y::b,h,_,_,_=>by simp at h
 | n+1,x::a,y::b,h,ha,hb,hd=>by
  simp only[J7]at h
  unfold Asc at ha hb
  rw[HM]at ha hb
  rw[XF];have hxy:=hd x (by simp) y (by simp)
  split
  ·rename_i hlt;refine List.pairwise_cons.2 ⟨fun z hz=>?_,Rs n (by simp;omega) ha.2 (List.pairwise_cons.2 hb) fun u hu v hv=>hd u (by simp[hu]) v hv⟩
   rcases GD.1 hz with hz|hz
   ·exact ha.1 z hz
   rcases List.mem_cons.1 hz with rfl|hz
   ·exact hlt
   have:=hb.1 z hz;omega
  rename_i hlt;refine List.pairwise_cons.2 ⟨fun z hz=>?_,Rs n (by simp;omega) (List.pairwise_cons.2 ha) hb.2 fun u hu v hv=>hd u hu v (by simp[hv])⟩
  rcases GD.1 hz with hz|hz
  ·rcases List.mem_cons.1 hz with rfl|hz
   ·omega
   have:=ha.1 z hz;omega
  exact hb.1 z hz
theorem RM {α:Type}(x:α)(l:List α):Bg (x::l) (some 1) none none=some l:=by
 unfold Bg;rw[A2 (by simp;omega)];simp
def InS (n:Int)(s:List PR):Prop:=∀x∈s,0≤x.At∧x.At<n
theorem Kh {a b:Int}(h0: -9223372036854775808≤a - b)(h1:a - b<9223372036854775808):ar .sub .i64 a b=a - b:=Eh h0 h1
theorem Rx {N:Nat} {a b:List BD} {n:Int} (hn:n≤1000000) (hla:a.length≤1000000) (hlb:b.length≤1000000) (ha:Asc (L8 a)) (hb:Asc (L8 b)) (hd:FW (L8 a) (L8 b)) (ia:InS n (L8 a)) (ib:InS n (L8 b)):
 ∃c,S3 N a b=some c∧L8 c=mrg (L8 a) (L8 b):=by
 refine⟨(mrg (L8 a) (L8 b)).map Ov,?_,Y1 _⟩;unfold S3
 have h1:mkL 0 (ar .add .i64 (Ar.len a) (Ar.len b)) (⟨0,0⟩:BD)=some []:=by
  rw[B5,B5,E9 (by omega) (by omega)];unfold mkL;rw[A2 (by omega)];rfl
 rw[h1];simp only[A4];rw[U8 (by simp;omega)];simp only[A4,J1];rw[U8 (by omega)];simp only[A4];have hm:=Rs _ (C4 _) ha hb hd;have hin:∀x∈mrg (L8 a) (L8 b),0≤x.At∧x.At<n:=fun x hx=>(GD.1 hx).elim (ia x) (ib x)
 have hs:LG (fun y1 y2=>DS N y1 y2) (a++b)=some ((mrg (L8 a) (L8 b)).map Ov):=by
  refine WL ?_ (Fa.2 ⟨?_,?_⟩) (by simp;omega)
  ·have:=(LY _ (L8 a) (L8 b) (C4 _)).map Ov;refine this.trans (List.Perm.of_eq ?_);rw[←Z5,Co];exact(BM fun x _=>Ad7 x).trans (List.map_id _)
  ·intro x _
   show(match some (ar .sub .i64 x.at_ x.at_)with|some c=>decide (0≤c)|none=>false)=true
   rw[Kh (by omega) (by omega)];simp
  rw[GM];refine Lx (fun{x y} hx hy hlt=>?_) hm;have:=hin x hx;have:=hin y hy
  constructor
  ·show(match some (ar .sub .i64 x.At y.At)with|some c=>decide (c<0)|none=>false)=true
   rw[Kh (by omega) (by omega)];simp;omega
  show(match some (ar .sub .i64 y.At x.At)with|some c=>decide (0≤c)|none=>false)=true
  rw[Kh (by omega) (by omega)];simp;omega
 rw[hs];rfl
def TI (s:List PR)(i:Int):Bool:=s.any fun x=>decide (x.At=i)
def PM (a b:List PR):Bool:=a.any fun x=>TI b x.At
theorem VQ {s:List PR}{i:Int}:TI s i=true↔∃x∈s,x.At=i:=by simp[TI]
theorem Ut {a b:List PR}:PM a b=false↔FW a b:=by
 unfold PM FW;rw[Lf]
 constructor
 ·intro h x hx y hy e;exact h x hx (VQ.2 ⟨y,hy,e.symm⟩)
 intro h x hx hc;obtain⟨y,hy,e⟩:=VQ.1 hc;exact h x hx y hy e.symm
theorem Bi {α:Type}{l:List α}{i:Int}(h:i<l.length):cmp .lss i (Ar.len l)=true:=Ez h
theorem EG {α:Type}{l:List α}:¬cmp .lss (l.length:Int) (Ar.len l)=true:=Cb (Int.lt_irrefl _)
theorem XM {α A B:Type} {N:Nat} {l:List α} (hl:l.length<N) (hN:l.length<1000000000) {step:Int→Option (Int⊕(A⊕B))} (P:α→Bool) (u:A) (r:Int→B)
 (hstep:∀(i:Nat) x,l[i]? =some x→(i:Int)<l.length→step i=some (if P x=true then .inr (.inr (r i))else .inl ((i:Int)+1)))
 (hend:step (l.length:Int)=some (.inr (.inl u))):∃i,loopN step N 0=some (if l.any P=true then .inr (r i)else .inl u)∧0≤i:=by
 have key:∀(k i n:Nat),i+k=l.length→k<n→∃j,loopN step n (i:Int)=some (if(l.drop i).any P=true then .inr (r j)else .inl u)∧0≤j:=by
  intro k
  induction k with
  |zero=>
   intro i n hi hn;obtain⟨n,rfl⟩:∃m,n=m+1:=⟨n - 1,by omega⟩;refine⟨0,?_,by omega⟩;rw[CA (by omega),show(i:Int)=l.length by omega];simp[loopN,hend]
  | succ k ih=>
   intro i n hi hn;obtain⟨n,rfl⟩:∃m,n=m+1:=⟨n - 1,by omega⟩
   have hlt:i<l.length:=by omega
   obtain⟨j,h,hj⟩:=ih (i+1) n (by omega) (by omega);rw[R9 hlt,IB];have hs:=hstep i l[i] (by simp[hlt]) (by omega)
   by_cases hp:P l[i]=true
   ·refine⟨i,?_,by omega⟩
    rw[A2 hp]at hs
    simp[loopN,hs,hp]
   refine⟨j,?_,hj⟩
   rw[A1 hp]at hs
   simp only[loopN,hs];rw[show((i:Int)+1)=((i+1:Nat):Int) by omega,h];simp[hp]
 obtain⟨j,h,hj⟩:=key l.length 0 N (by omega) hl;exact⟨j,by simpa using h,hj⟩
theorem Ux {α:Type}{N:Nat}{l:List α}{step:Int→Option (Int⊕(Unit⊕Unit))}(P:α→Bool)(hl:l.length<N)(hN:l.length<1000000000)
 (hstep:∀(i:Nat) x,l[i]? =some x→(i:Int)<l.length→step i=some (if P x=true then .inr (.inr ())else .inl ((i:Int)+1)))
 (hend:step (l.length:Int)=some (.inr (.inl ()))):loopN step N 0=some (if l.any P=true then .inr ()else .inl ()):=by
 obtain⟨_,h,_⟩:=XM hl hN P () (fun _=>()) hstep hend;exact h
theorem Uw {α S σ R:Type} {L:List α} {N:Nat} {step:S→Option (S⊕R)} (mk:σ→Int→S) (g:σ→α→σ) (fin:σ→R) (Inv:Nat→σ→Prop) {s0:σ} (hN:L.length<N) (hl:L.length<1000000000) (h0:Inv 0 s0)
 (hs:∀s (i:Nat) x,L[i]? =some x→(i:Int)<L.length→x∈L→ar .add .i64 (i:Int) 1=i+1→Inv i s→step (mk s i)=some (.inl (mk (g s x) ((i:Int)+1)))∧Inv (i+1) (g s x)) (he:∀s,step (mk s L.length)=some (.inr (fin s))):loopN step N (mk s0 0)=some (fin (L.foldl g s0))∧Inv L.length (L.foldl g s0):=by
 have key:∀(k i N:Nat) (s:σ),i+k=L.length→k<N→Inv i s→loopN step N (mk s (i:Int))=some (fin ((L.drop i).foldl g s))∧Inv L.length ((L.drop i).foldl g s):=by
  intro k
  induction k with
  |zero=>
   intro i N s hi hN ho;obtain⟨N,rfl⟩:∃m,N=m+1:=⟨N - 1,by omega⟩
   have e:i=L.length:=by omega
   subst e;rw[List.drop_length];exact⟨by simp[loopN,he],ho⟩
  |succ k ih=>
   intro i N s hi hN ho;obtain⟨N,rfl⟩:∃m,N=m+1:=⟨N - 1,by omega⟩
   have hlt:i<L.length:=by omega
   obtain⟨h1,h2⟩:=hs s i L[i] (by simp[hlt]) (by omega) (O9 hlt) (E9 (by omega) (by omega)) ho;rw[R9 hlt];simp only[loopN,h1];exact ih (i+1) N _ (by omega) (by omega) h2
 simpa using key L.length 0 N s0 (by omega) hN h0
theorem Pg {N:Nat} (hN:40000000≤N) {s:List BD} (hl:s.length≤1000000) {f:BD→Option Bool} {P:BD→Bool} (hf:∀x∈s,f x=some (P x)):L6 N s f=some (s.any P):=by
 unfold L6 X0
 obtain⟨j,h,hj⟩:=XM (N:=N) (l:=s) (by omega) (by omega) (A:=Unit) (B:=Int) (step:=(fun(s1:Int)=>
  (
   if cmp .lss s1 (Ar.len s)=true then
    (C5 s s1).bind fun x3=>
    (f x3).bind fun r4=>
    if r4=true then
     some (.inr (.inr s1))
    else
     some (.inl (ar .add .i64 s1 1))
   else
    some (.inr (.inl ()))
   :Option ((Int)⊕(Unit⊕Int))))) P () (fun i=>i) (fun i x hx hi=>by
  have e:ar .add .i64 (i:Int) 1=i+1:=E9 (by omega) (by omega);simp only[D1,B5,hi,I6,C7,G2,hx,A4,e,hf x (EC hx)]
  split<;>rfl) (by simp[D1,B5])
 rw[h]
 by_cases ha:s.any P=true
 ·rw[A2 ha,ha];simp only[A4,R6,D5 hj]
 rw[A1 ha];simp only[A4,R6]
 rw[GH]at ha
 rw[ha];rfl
theorem Ae3 {N:Nat}(hN:40000000≤N){s:List BD}(hl:s.length≤1000000)(i:Int):Aw N s i=some (TI (L8 s) i):=by
 unfold Aw;rw[Pg hN hl (f:=fun y1=>AF N y1 i) (P:=fun x=>decide (x.at_=i)) fun x _=>rfl];simp only[A4,TI,L8,List.any_map];rfl
theorem Ak8 {N:Nat}(hN:40000000≤N){a b:List BD}(ha:a.length≤1000000)(hb:b.length≤1000000):CQ N a b=some (PM (L8 a) (L8 b)):=by
 unfold CQ;rw[Pg hN ha (P:=fun x=>TI (L8 b) x.at_) fun x _=>by unfold Bv;rw[Ae3 hN hb];rfl];simp only[A4,PM,L8,List.any_map];rfl
def hdA (s:List PR):Int:=match s with|[]=>0|x::_=>x.At
def EH (s:List PR):Int:=match s.getLast? with|none=>0|some x=>x.At
theorem AC8 {α:Type} {l:List α} (h:l≠[]) (hl:l.length≤1000000):C5 l (ar .sub .i64 (Ar.len l) 1)=l.getLast? :=by
 rcases Dw l with rfl|⟨q,y,rfl⟩
 ·exact absurd rfl h
 rw[Dv]at *
 have e1:ar .sub .i64 (Ar.len (q++[y])) 1=(q.length:Int):=by
  have:ar .sub .i64 (Ar.len (q++[y])) 1=Ar.len (q++[y]) - 1:=Kh (by rw[B5];omega) (by rw[B5];omega);rw[this,B5];simp
 rw[e1,G2];simp
theorem ML {s:List PR}(h:s≠[]):∃x,s.getLast? =some x∧x∈s∧EH s=x.At:=by
 cases hs:s.getLast? with
 |none=>exact absurd (List.getLast?_eq_none_iff.1 hs) h
 |some x=>exact⟨x,rfl,List.mem_of_getLast? hs,by simp[EH,hs]⟩
theorem WO {N:Nat}{s:List BD}(h:s≠[])(hl:s.length≤1000000):S0 N s=some (EH (L8 s)):=by
 unfold S0;rw[AC8 h hl];unfold EH;rw[L8,List.getLast?_map]
 cases hs:s.getLast? with
 |none=>exact absurd (List.getLast?_eq_none_iff.1 hs) h
 |some x=>rfl
theorem OR {α:Type}(x:α)(l:List α):C5 (x::l) 0=some x:=rfl
theorem Tq {s:List PR}(ha:Asc s):∀x∈s,x.At≤EH s:=by
 intro x hx
 rcases Dw s with rfl|⟨q,y,rfl⟩
 ·cases hx
 rw[Dv]at *
 have e:EH (q++[y])=y.At:=by simp[EH]
 rw[e]
 unfold Asc at ha
 rw[Lo]at ha
 rcases List.mem_append.1 hx with h|h
 ·have:=ha.2.2 x h y (by simp);omega
 rw[List.mem_singleton.1 h];exact Z2 _
theorem Aj3 :∀{s:List PR} {k:Int} {m:Nat},Asc s→(∀x∈s,k≤x.At∧x.At<k+m)→s.length≤m
 |[],_,_,_,_=>Cn _
 |x::s,k,m,ha,h=>by
  unfold Asc at ha
  rw[HM]at ha
  have hx:=h x (by simp);obtain⟨m,rfl⟩:∃q,m=q+1:=⟨m - 1,by omega⟩
  have:=Aj3 (s:=s) (k:=x.At+1) (m:=m) ha.2 fun y hy=>by have:=ha.1 y hy;have:=h y (by simp[hy]);omega
  simp;omega
end
end Go.Ab
namespace Go.Ab
open Classical
noncomputable section
def Rb (l:List B3)(s:List PR)(b v:Int):List B3:=s.filterMap fun x=>if x.At<b∧x.Var=v then l[x.At.toNat]? else none
def JF (l:List B3)(s:List PR)(b:Int):Cl:=⟨(List.range 16).map fun(v:Nat)=>Rb l s b (v:Int)⟩
def WfS (l:List B3)(s:List PR):Prop:=∀x∈s,(0≤x.Var∧x.Var<16)∧(0≤x.At∧x.At<l.length)
theorem WfS.ins {l:List B3}{s:List PR}(h:WfS l s):InS l.length s:=fun x hx=>(h x hx).2
theorem Xe (l:List B3)(s:List PR)(b v:Int):(Rb l s b v).length≤s.length:=List.length_filterMap_le ..
theorem PV (l:List B3){s:List PR}(hs:s.length<1000000)(b:Int):Jd (JF l s b):=by
 constructor
 ·simp[JF]
 intro r hr
 simp only[JF,BI]at hr
 obtain⟨v,_,rfl⟩:=hr;have:=Xe l s b v;omega
theorem Um (l:List B3)(p:List PR)(x:PR)(b v:Int):Rb l (p++[x]) b v=Rb l p b v++(if x.At<b∧x.Var=v then(l[x.At.toNat]?).toList else[]):=by
 unfold Rb;rw[List.filterMap_append]
 congr 1
 by_cases h:x.At<b∧x.Var=v
 ·simp only[List.filterMap_cons,Lj,A2 h];cases l[x.At.toNat]? <;>rfl
 simp only[List.filterMap_cons,Lj,A1 h]
theorem Zu {α R:Type} (f:α→PR) (l:List B3) (b:Int) {s:List α} (hs:s.length≤1000000) (hw:WfS l (s.map f)):
 K9 (R:=R) (fun rows x=>if cmp .lss (f x).At b=true then(C5 rows (f x).Var).bind fun x9=>(C5 l (f x).At).bind fun x14=>(N6 x9 [x14]).bind fun l15=>(Kg rows (f x).Var (fun _=>l15)).bind fun l13=>some (.inl l13)else some (.inl rows)) s (List.replicate 16 [])=
  some (.inl ((List.range 16).map fun(v:Nat)=>Rb l (s.map f) b (v:Int))):=by
 obtain⟨s',h1,p,h2,h3⟩:=DU (R:=R) (step:=fun rows x=>if cmp .lss (f x).At b=true then(C5 rows (f x).Var).bind fun x9=>(C5 l (f x).At).bind fun x14=>(N6 x9 [x14]).bind fun l15=>(Kg rows (f x).Var (fun _=>l15)).bind fun l13=>some (.inl l13)else some (.inl rows))
  (fun r rows=>∃p,p++r=s∧rows=(List.range 16).map fun(v:Nat)=>Rb l (p.map f) b (v:Int)) (fun x r rows ⟨p,e1,e2⟩=>by
   subst e2
   have hx:x∈s:=by rw[←e1];simp
   obtain⟨⟨v0,v1⟩,a0,a1⟩:=hw (f x) (List.mem_map.2 ⟨x,hx,rfl⟩)
   have hpl:p.length≤1000000:=by have:=J5 List.length e1;simp at this;omega
   by_cases hb:(f x).At<b
   ·rw[A2 (by rw[D1];exact D5 hb)]
    generalize hv:(f x).Var=vv at *
    generalize ha:(f x).At=aa at *
    obtain⟨v,rfl⟩:=BN v0;obtain⟨a,rfl⟩:=BN a0
    have hva:v<16:=by omega
    have haa:a<l.length:=by omega
    have e1':C5 ((List.range 16).map fun(v:Nat)=>Rb l (p.map f) b (v:Int)) (v:Int)=some (Rb l (p.map f) b v):=by
     rw[G2];simp[hva]
    have e2':C5 l (a:Int)=some l[a]:=by rw[G2];simp[haa]
    have hpl':=Xe l (p.map f) b v;simp only[e1',e2',A4];rw[U8 (by simp at hpl' ⊢;omega)];simp only[A4];refine⟨_,by unfold Kg;rw[e1'];rfl,p++[x],by simpa using e1,?_⟩;apply Cy;intro j;rw[Bc]
    by_cases hj:j<16
    ·simp only[W6,EB hj,Z5,D8,H7,Um,hv,ha,Z8,G5,Ds,I7]
     by_cases hjv:v=j
     ·subst hjv;simp[hb,hj,haa]
     have:¬((v:Int)=(j:Int)):=by omega
     simp[hjv,this]
    have:¬(v=j):=by omega
    simp[hj,this]
   rw[A1 (by rw[D1];simpa using hb)];refine⟨_,rfl,p++[x],by simpa using e1,?_⟩;apply BM;intro v _
   rw[Z5,D8,H7,Um,A1 (by omega),F2]) (l:=s) (s:=List.replicate 16 []) ⟨[],rfl,by simp[Rb];rfl⟩
 rw[h1]
 rw[F2]at h2
 rw[h3,h2]
theorem Ae4 {N:Nat} (hN:40000000≤N) {l:List B3} {s:List BD} (hs:s.length≤1000000) (hw:WfS l (L8 s)) (f:Bool) (b:Int):Y0 N ⟨l,f⟩ s b=some (JF l (L8 s) b):=by
 unfold Y0;have h1:mkL 16 16 ([]:List B3)=some (List.replicate 16 []):=rfl;rw[h1];simp only[A4];rw[P6 s (by omega) (mk:=fun(rows:List (List B3)) i=>(i,rows)) (body:=fun rows x=>if cmp .lss (pr x).At b=true then(C5 rows (pr x).Var).bind fun x9=>(C5 l (pr x).At).bind fun x14=>(N6 x9 [x14]).bind fun l15=>(Kg rows (pr x).Var (fun _=>l15)).bind fun l13=>some (.inl l13)else some (.inl rows)) (fin:=fun s=>s) (s:=List.replicate 16 []) (by omega) ?_ ?_]
 ·rw[Zu pr l b hs hw];rfl
 ·intro rows i x hx hi;have e:ar .add .i64 (i:Int) 1=i+1:=E9 (by omega) (by omega);simp only[D1,B5,hi,I6,C7,G2,hx,A4,e]
  show(if decide (x.at_<b)=true then _ else _)=Option.bind (if decide (x.at_<b)=true then _ else _) _
  by_cases hb:x.at_<b
  ·rw [A2 (D5 hb),A2 (D5 hb)]
   show((C5 rows x.dI).bind _)=((C5 rows x.dI).bind _).bind _
   cases C5 rows x.dI with
   |none=>rfl
   | some r=>
    simp only[A4]
    show((C5 l x.at_).bind _)=((C5 l x.at_).bind _).bind _
    cases C5 l x.at_ with
    |none=>rfl
    | some y=>
     simp only[A4]
     cases N6 r [y]with
     |none=>rfl
     |some q=>
      simp only[A4]
      show((Kg rows x.dI _).bind _)=((Kg rows x.dI _).bind _).bind _
      cases Kg rows x.dI fun _=>q<;>rfl
  rw[A1 (by simpa using hb),A1 (by simpa using hb)];rfl
 intro s;simp[D1,B5]
theorem KB {l:List B3}{i:Nat}(h:i<l.length):C5 l (i:Int)=some l[i]:=by rw[G2];simp[h]
theorem Oz {N:Nat}(hN:40000000≤N){l:List B3}{s:List BD}(hs:s.length<1000000)(hw:WfS l (L8 s))(f:Bool){c:B0}(hc:c.bulk≤16777216)(own:Int){i:Nat}(hi:i<l.length):
 M3 N ⟨l,f⟩ c s own i=some (BP (JF l (L8 s) i) own l[i] c):=by
 unfold M3;rw[Ae4 hN (by omega) hw];simp only[A4];rw[KB hi];simp only[A4];rw[WC hN (PV l (by simpa using hs) _) own _ hc];rfl
def upT {β:Type}(T:Nat→Bool)(g:Nat→β):Nat→Nat→List β
 |0,_=>[]
 |k+1,i=>if T i=true then g i::upT T g k (i+1)else upT T g k (i+1)
theorem WB {β:Type}(T:Nat→Bool)(g:Nat→β)(k i:Nat):upT T g (k+1) i=if T i=true then g i::upT T g k (i+1)else upT T g k (i+1):=rfl
theorem Ag3 {β:Type} {T:Nat→Bool} {g:Nat→β} {x:β}:∀{k i:Nat},x∈upT T g k i↔∃j,i≤j∧j<i+k∧T j=true∧x=g j
 |0,i=>by simp[upT];intro j a b;omega
 | k+1,i=>by
  rw[WB];have ih:=Ag3 (T:=T) (g:=g) (x:=x) (k:=k) (i:=i+1)
  constructor
  ·intro h
   by_cases ht:T i=true
   ·rw[A2 ht]at h
    rcases List.mem_cons.1 h with h|h
    ·exact⟨i,by omega,by omega,ht,h⟩
    obtain⟨j,a,b,c⟩:=ih.1 h;exact⟨j,by omega,by omega,c⟩
   rw[A1 ht]at h
   obtain⟨j,a,b,c⟩:=ih.1 h;exact⟨j,by omega,by omega,c⟩
  rintro⟨j,a,b,c,d⟩
  by_cases hij:j=i
  ·subst hij;rw[A2 c,d];simp
  have:=ih.2 ⟨j,by omega,by omega,c,d⟩
  split
  ·exact Q1 _ this
  exact this
theorem XN {β A:Type} {n:Nat} {step:Int→Option (List β×(Int⊕A))} {T:Nat→Bool} {g:Nat→β} {u:A} (hs:∀i,i<n→step (i:Int)=some (if T i=true then[g i]else[],.inl ((i:Int)+1))) (he:step (n:Int)=some ([],.inr u)):
 ∀(k i N:Nat),i+k=n→k<N→W2 step N (i:Int)=some (upT T g k i,u)
 |0,i,N,h,hN=>by
  obtain⟨N,rfl⟩:∃m,N=m+1:=⟨N - 1,by omega⟩;rw[show(i:Int)=n by omega];simp[W2,he,upT]
 |k+1,i,N,h,hN=>by
  obtain⟨N,rfl⟩:∃m,N=m+1:=⟨N - 1,by omega⟩;have ih:=XN hs he k (i+1) N (by omega) (by omega);simp only[W2,hs i (by omega)];rw[show((i:Int)+1)=((i+1:Nat):Int) by omega,ih];rw[WB]
  by_cases ht:T i=true<;>simp[ht]
end
end Go.Ab
namespace Go.Ab
open Classical
noncomputable section
theorem SF {A:Type} {n:Nat} {step:Int→Option (Int⊕(A⊕Unit))} {P:Nat→Bool} {u:A} (m:Nat) (hs:∀i,m≤i→i<n→step (i:Int)=some (if P i=true then .inr (.inr ())else .inl ((i:Int)+1))) (he:∀i:Nat,n≤i→step (i:Int)=some (.inr (.inl u))):
 ∀(k i N:Nat),n≤i+k→m≤i→k<N→loopN step N (i:Int)=some (if(List.range' i (n - i)).any P=true then .inr ()else .inl u)
 |0,i,N,h,_,hN=>by
  obtain⟨N,rfl⟩:∃m,N=m+1:=⟨N - 1,by omega⟩;rw[show n - i=0 by omega];simp[loopN,he i (by omega)]
 | k+1,i,N,h,hm,hN=>by
  obtain⟨N,rfl⟩:∃m,N=m+1:=⟨N - 1,by omega⟩
  by_cases hi:i<n
  ·have ih:=SF m hs he k (i+1) N (by omega) (by omega) (by omega);simp only[loopN,hs i hm hi];rw[show n - i=(n - (i+1))+1 by omega,EX,IB]
   by_cases hp:P i=true
   ·simp[hp]
   rw[A1 hp]
   dsimp only
   rw[show((i:Int)+1)=((i+1:Nat):Int) by omega,ih];simp[hp]
  rw[show n - i=0 by omega];simp[loopN,he i (by omega)]
def Ad9 (l:List B3)(i:Int):Int:=match l[i.toNat]? with|some e=>e.Time|none=>0
def Yz (l:List B3)(p:A0)(b s:List PR)(i:Nat):Bool:=match l[i]? with|some e=>decide (e.Typ=p.Typ)&&(!TI s i)&&BP (JF l (mrg b s) i) p.Var e p.dE|none=>false
def Te (l:List B3)(p:A0)(b s:List PR):Bool:= !((List.range l.length).any fun i=>decide (hdA s<(i:Int))&&decide ((i:Int)<EH s)&&Yz l p b s i)
def Mc (l:List B3)(p:A0)(b s:List PR):Bool:=
 if p.Op=6 then decide (ar .sub .i64 (Ad9 l (EH s)) (Ad9 l (hdA s))≤p.Span)else if p.Op=7 then BP (JF l (mrg b s) l.length) (-1) ⟨0,0,0,0,[]⟩ p.dE else Te l p b s
structure Gd (l:List B3) (s:List PR):Prop where
 wf:WfS l s
 asc:Asc s
theorem Gd.len {l:List B3}{s:List PR}(h:Gd l s):s.length≤l.length:=Aj3 (k:=0) h.asc fun x hx=>by have:=(h.wf x hx).2;omega
theorem Gd.nil (l:List B3):Gd l []:=⟨fun _ h=>absurd h List.not_mem_nil,List.Pairwise.nil⟩
theorem Gd.mrg {l:List B3}{a b:List PR}(ha:Gd l a)(hb:Gd l b)(h:FW a b):Gd l (mrg a b):=⟨fun x hx=>(GD.1 hx).elim (ha.wf x) (hb.wf x),Rs _ (Nat.le_refl _) ha.asc hb.asc h⟩
theorem Gd.lst {l:List B3}{s:List PR}(h:Gd l s)(hn:s≠[]):0≤EH s∧EH s<l.length:=by
 obtain⟨x,_,hx,e⟩:=ML hn;rw[e];exact(h.wf x hx).2
theorem Gd.hd {l:List B3} {s:List PR} (h:Gd l s) (hn:s≠[]):0≤hdA s∧hdA s<l.length∧hdA s≤EH s∧TI s (hdA s)=true:=by
 cases s with
 |nil=>exact absurd rfl hn
 |cons x s=>
  have:=(h.wf x (by simp)).2;exact⟨this.1,this.2,Tq h.asc x (by simp),VQ.2 ⟨x,by simp,rfl⟩⟩
theorem Ad8 {l:List B3}{i:Int}(h0:0≤i)(h1:i<l.length):∃e,C5 l i=some e∧e.Time=Ad9 l i:=by
 obtain⟨i,rfl⟩:=BN h0
 have hi:i<l.length:=by omega
 exact⟨l[i],KB hi,by simp[Ad9,hi]⟩
theorem AN9 {s:List BD}(h:s≠[]):∃x,C5 s 0=some x∧x.at_=hdA (L8 s):=by
 cases s with
 |nil=>exact absurd rfl h
 |cons x s=>exact⟨x,rfl,rfl⟩
theorem AU3 {s:List BD}(h:s≠[]):L8 s≠[]:=fun e=>h (List.map_eq_nil_iff.1 e)
theorem Ap6 {l:List B3} {p:A0} {b s:List PR} {a n:Nat} (h1:(a:Int)≤hdA s+1) (h2:hdA s≤(a:Int)) (hn:(n:Int)=EH s) (hh:TI s (hdA s)=true) (hl:EH s<l.length):
 (List.range' a (n - a)).any (Yz l p b s)= !Te l p b s:=by
 unfold Te;rw[Bool.not_not,Bb,Dr,Dr]
 constructor
 ·rintro⟨i,hi,hb⟩
  rw[List.mem_range'_1]at hi
  refine⟨i,List.mem_range.2 (by omega),?_⟩
  have hne:hdA s≠(i:Int):=by
   intro e
   rw[e]at hh
   unfold Yz at hb
   split at hb
   ·rw[hh]at hb;simp at hb
   cases hb
  simp only[F3,D9];exact⟨⟨by omega,by omega⟩,hb⟩
 rintro⟨i,hi,hb⟩
 simp only[F3,D9]at hb
 exact⟨i,List.mem_range'_1.2 (by omega),hb.2⟩
theorem Al2 {N:Nat} (hN:40000000≤N) {l:List B3} (hl:l.length≤10) {p:A0} (hc:p.dE.bulk≤16777216) (hop:5≤p.Op∧p.Op≤7) {b s:List BD} (gb:Gd l (L8 b)) (gs:Gd l (L8 s)) (hn:s≠[]) (hd:FW (L8 b) (L8 s)) (f:Bool):
 Y6 N ⟨l,f⟩ p b s=some (Mc l p (L8 b) (L8 s)):=by
 have lb:=gb.len;have ls:=gs.len
 rw[G5]at lb ls
 have gm:=gb.mrg gs hd;have lm:=gm.len;have hnp:=AU3 hn;have hlst:=gs.lst hnp;obtain⟨h0,h1,h2,hh⟩:=gs.hd hnp;obtain⟨x0,hx0,e0⟩:=AN9 hn;obtain⟨c,hj,ec⟩:=Rx (N:=N) (n:=l.length) (by omega) (by omega) (by omega) gb.asc gs.asc hd gb.wf.ins gs.wf.ins
 have lc:c.length≤10:=by have:=J5 List.length ec;rw[G5]at this;omega
 have wc:WfS l (L8 c):=by rw[ec];exact gm.wf
 unfold Y6 Mc;rw[hx0,WO hn (by omega),hj];simp only[A4,Ae4 hN (show c.length≤1000000 by omega) wc,WC hN (PV l (show(L8 c).length<1000000 by rw[G5];omega) _) _ _ hc]
 by_cases h6:p.Op=6
 ·rw[A2 (by rw[C8];exact D5 h6),A2 h6];obtain⟨y1,hy1,t1⟩:=Ad8 (l:=l) (i:=EH (L8 s)) (by omega) (by omega);obtain⟨y0,hy0,t0⟩:=Ad8 (l:=l) (i:=x0.at_) (by omega) (by omega);rw[hy1,hy0];simp only[A4,Kw,t1,t0,e0]
 rw[A1 h6,A1 (by rw[C8];simpa using h6)]
 by_cases h7:p.Op=7
 ·rw[A2 (by rw[C8];exact D5 h7),A2 h7,ec];rfl
 rw[A1 h7,A1 (by rw[C8];simpa using h7)];obtain⟨n,hnn⟩:=BN hlst.1;obtain⟨a,ha⟩:=BN h0;rw[e0,ha,E9 (a:=((a:Nat):Int)) (by omega) (by omega),show((a:Int)+1)=((a+1:Nat):Int) by omega];rw[SF (A:=Unit) (n:=n) (P:=Yz l p (L8 b) (L8 s)) (u:=()) 0 ?_ ?_ n (a+1) N (by omega) (by omega) (by omega),Ap6 (by omega) (by omega) (by omega) hh hlst.2]
 ·cases Te l p (L8 b) (L8 s)<;>rfl
 ·intro i _ hi
  have hil:i<l.length:=by omega
  have e:ar .add .i64 (i:Int) 1=i+1:=E9 (by omega) (by omega);rw[A2 (Ez (by omega)),Ae3 hN (by omega),KB hil,Oz hN (by omega) wc _ hc _ hil,ec];simp only[A4,Q5,C8,e];unfold Yz;simp only[E2 hil];cases TI (L8 s) (i:Int)<;>by_cases ht:l[i].Typ=p.Typ<;>cases BP (JF l (mrg (L8 b) (L8 s)) (i:Int)) p.Var l[i] p.dE<;>simp[ht]
 intro i hi;rw[A1 (Cb (by omega))]
end
end Go.Ab
namespace Go.Ab
open Classical
noncomputable section
def RK (l:List B3)(p:A0)(b:List PR)(i:Nat):Bool:=match l[i]? with|some e=>decide (e.Typ=p.Typ)&&BP (JF l b i) p.Var e p.dE|none=>false
theorem Am8 {N:Nat} (hN:40000000≤N) {l:List B3} (hl:l.length≤10) {p:A0} (hc:p.dE.bulk≤16777216) {b:List BD} (gb:Gd l (L8 b)) (f:Bool) {i:Nat} (hi:i≤l.length):
 Q4 N ⟨l,f⟩ p b (i:Int)=some (upT (RK l p (L8 b)) (fun j=>[(⟨p.Var,(j:Int)⟩:BD)]) (l.length - i) i):=by
 have lb:=gb.len
 rw[G5]at lb
 unfold Q4 Ax
 have h:=XN (β:=List BD) (A:=Unit) (n:=l.length) (T:=RK l p (L8 b)) (g:=fun j=>[(⟨p.Var,(j:Int)⟩:BD)]) (u:=()) (step:=(fun(s1:Int)=>
  (
   if cmp .lss s1 (Ar.len (⟨l,f⟩:B7).dP)=true then
    (C5 (⟨l,f⟩:B7).dP s1).bind fun x7=>
    if cmp .eql x7.Typ p.Typ=true then
     (M3 N ⟨l,f⟩ p.dE b p.Var s1).bind fun r8=>
     if r8=true then
      J2 (some ([[(⟨p.Var,s1⟩:A3)]],())) fun _=>
      some ([],.inl (ar .add .i64 s1 1))
     else
      some ([],.inl (ar .add .i64 s1 1))
    else
     some ([],.inl (ar .add .i64 s1 1))
   else
    some ([],.inr ())
   :Option (List (List A3)×((Int)⊕(Unit)))))) ?_ ?_ (l.length - i) i N (by omega) (by omega)
 ·rw[h];simp[J2]
 ·intro j hj;have e:ar .add .i64 (j:Int) 1=j+1:=E9 (by omega) (by omega);rw[A2 (Ez (by rw[B5];show(j:Int)<(l.length:Int);omega))]
  show((C5 l (j:Int)).bind _)=_
  rw[KB hj,Oz hN (by omega) gb.wf _ hc _ hj,e];simp only[A4,C8,J2];unfold RK;simp only[E2 hj]
  by_cases ht:l[j].Typ=p.Typ<;>cases BP (JF l (L8 b) (j:Int)) p.Var l[j] p.dE<;>simp[ht]
 rw[A1 EG]
def YY (x:PR):List UInt8:=Bf x.Var.toNat++64::(Bf x.At.toNat++[32])
def NQ (s:List PR):List UInt8:=s.flatMap YY
def Kz (l:List UInt8):List Int:=l.map fun b=>(b.toNat:Int)
theorem AT2 {n:Int}(h0:0≤n)(h1:n<1000):Ar.wr .i64 n=n:=Eh (by omega) (by omega)
theorem AT1 {n:Int} (h0:0≤n) (h1:n<1000):Ar.wr .u64 n=n:=by
 have e:IntKind.wrap .u64 n=n % 18446744073709551616:=by
  unfold IntKind.wrap;simp[IntKind.bits,IntKind.signed]
 exact e.trans (by omega)
theorem Pn {N:Nat} {d:List Int} (hd:d.length≤1000000) {i:Int} (h0:0≤i) (h1:i<100):K5 N d i 10=some (d++Kz (Bf i.toNat)):=by
 unfold K5 BW Be Jx;rw[A1 (Cb (by omega)),AT1 h0 (by omega),A2 (show cmp .eql 10 10=true by rfl),A2 (Ez h1),AT2 h0 (by omega)]
 have hs:RV i=some ⟨(Bf i.toNat).toArray⟩:=by
  unfold RV;rw[A2 (by simp;omega)]
 rw[hs];simp only[A4]
 have hl:(Bf i.toNat).length≤2:=by unfold Bf;split<;>simp
 rw[U8 (by simp[Qa];omega)];rfl
theorem AI3 (x:PR):(YY x).length≤6:=by
 have h:∀i,(Bf i).length≤2:=fun i=>by unfold Bf;split<;>simp
 have:=h x.Var.toNat;have:=h x.At.toNat;simp[YY];omega
theorem Ah7 :∀s:List PR,(NQ s).length≤6*s.length
 |[]=>by simp[NQ]
 |x::s=>by
  have:=Ah7 s;have:=AI3 x
  simp only[NQ,BL,K7,J7]at *
  omega
theorem AI8 {N:Nat} (hN:40000000≤N) {l:List B3} (hl:l.length≤10) {s:List BD} (hs:s.length≤1000) (hw:WfS l (L8 s)):U5 N s=Ae1 (Kz (NQ (L8 s))):=by
 unfold U5;rw[P6 s (by omega) (mk:=fun(out:List Int) i=>(i,out)) (body:=fun out x=>(K5 N out x.dI 10).bind fun l6=>(N6 l6 [64]).bind fun l90=>(K5 N l90 x.at_ 10).bind fun l209=>(N6 l209 [32]).bind fun l290=>some (.inl l290)) (fin:=fun s=>s) (s:=[]) (by omega) ?_ ?_]
 ·obtain⟨s',h1,p,h2,h3⟩:=DU (R:=List Int) (step:=fun out x=>(K5 N out x.dI 10).bind fun l6=>(N6 l6 [64]).bind fun l90=>(K5 N l90 x.at_ 10).bind fun l209=>(N6 l209 [32]).bind fun l290=>some (.inl l290))
   (fun r out=>∃p,p++r=s∧out=Kz (NQ (L8 p))) (fun x r out ⟨p,e1,e2⟩=>by
    subst e2
    have hx:x∈s:=by rw[←e1];simp
    obtain⟨⟨v0,v1⟩,a0,a1⟩:=hw (pr x) (List.mem_map.2 ⟨x,hx,rfl⟩);have hv0:0≤x.dI:=v0;have hv1:x.dI<16:=v1;have ha0:0≤x.at_:=a0;have ha1:x.at_<l.length:=a1
    have hp:p.length≤1000:=by have:=J5 List.length e1;simp at this;omega
    have hk:(Kz (NQ (L8 p))).length≤6000:=by
     have:=Ah7 (L8 p)
     rw[G5]at this
     simp[Kz];omega
    have hsm:∀i,(Kz (Bf i)).length≤2:=fun i=>by simp only[Kz,G5];unfold Bf;split<;>simp
    have:=hsm x.dI.toNat;have:=hsm x.at_.toNat;refine⟨Kz (NQ (L8 p))++Kz (Bf x.dI.toNat)++[64]++Kz (Bf x.at_.toNat)++[32],?_,p++[x],by simpa using e1,?_⟩
    ·rw[Pn (by omega) hv0 (by omega)];simp only[A4];rw[U8 (by simp only[K7,J7,T7];omega)];simp only[A4];rw[Pn (by simp only[K7,J7,T7];omega) ha0 (by omega)];simp only[A4];rw[U8 (by simp only[K7,J7,T7];omega)];rfl
    simp[Kz,NQ,YY,L8,pr]) (l:=s) (s:=[]) ⟨[],rfl,rfl⟩
  rw[h1];simp only[A4]
  rw[F2]at h2
  rw[h3,h2];cases Ae1 (Kz (NQ (L8 s)))<;>rfl
 ·intro out i x hx hi;have e:ar .add .i64 (i:Int) 1=i+1:=E9 (by omega) (by omega);simp only[D1,B5,hi,I6,C7,G2,hx,A4,e]
  cases K5 N out x.dI 10 with
  |none=>rfl
  | some a=>
   simp only[A4]
   cases N6 a [64]with
   |none=>rfl
   | some b=>
    simp only[A4]
    cases K5 N b x.at_ 10 with
    |none=>rfl
    |some c=>
     simp only[A4];cases N6 c [32]<;>rfl
 intro s;simp[D1,B5]
theorem SD {m:UInt8}:∀{a b r q:List UInt8},m∉a→m∉b→a++m::r=b++m::q→a=b∧r=q
 |[],[],r,q,_,_,h=>⟨rfl,by simpa using h⟩
 |[],y::b,r,q,_,hb,h=>by simp at h;exact absurd h.1 (by intro e;exact hb (by simp[e]))
 |x::a,[],r,q,ha,_,h=>by simp at h;exact absurd h.1 (by intro e;exact ha (by simp[←e]))
 |x::a,y::b,r,q,ha,hb,h=>by
  simp only[Cx,T6]at h
  have:=SD (fun e=>ha (by simp[e])) (fun e=>hb (by simp[e])) h.2;exact⟨by rw[h.1,this.1],this.2⟩
theorem Jc {i:Nat}(h:i<100):(64:UInt8)∉Bf i∧(32:UInt8)∉Bf i:=by
 have:∀i<100,(64:UInt8)∉Bf i∧(32:UInt8)∉Bf i:=by decide
 exact this i h
theorem Ue {i j:Nat}(hi:i<16)(hj:j<16)(h:Bf i=Bf j):i=j:=by
 have:∀i<16,∀j<16,Bf i=Bf j→i=j:=by decide
 exact this i hi j hj h
theorem Sc {l:List B3} (hl:l.length≤10):∀{a b:List PR},WfS l a→WfS l b→NQ a=NQ b→a=b
 |[],[],_,_,_=>rfl
 |[],y::b,_,_,h=>by simp[NQ,YY]at h
 |x::a,[],_,_,h=>by simp[NQ,YY]at h
 | x::a,y::b,ha,hb,h=>by
  obtain⟨⟨v0,v1⟩,a0,a1⟩:=ha x (by simp);obtain⟨⟨w0,w1⟩,b0,b1⟩:=hb y (by simp);obtain⟨m1,m2⟩:=Jc (i:=x.Var.toNat) (by omega);obtain⟨m3,m4⟩:=Jc (i:=x.At.toNat) (by omega);obtain⟨n1,n2⟩:=Jc (i:=y.Var.toNat) (by omega);obtain⟨n3,n4⟩:=Jc (i:=y.At.toNat) (by omega)
  simp only[NQ,BL,YY,D4,Cx,J1]at h
  obtain⟨e1,e2⟩:=SD m1 n1 h;obtain⟨e3,e4⟩:=SD m4 n4 e2;have i1:=Ue (by omega) (by omega) e1;have i2:=Ue (by omega) (by omega) e3
  have hxy:x=y:=by
   cases x;cases y
   simp only[Eg.mk.injEq]at *
   omega
  rw[hxy,Sc hl (fun z hz=>ha z (by simp[hz])) (fun z hz=>hb z (by simp[hz])) e4]
end
end Go.Ab
namespace Go.Ab
open Classical
noncomputable section
structure WfN (y:A0):Prop where
 op:0≤y.Op∧y.Op≤7
 var:y.Op=0→0≤y.Var∧y.Var<16
 a0:y.Op=0→y.dD=[]
 a1:1≤y.Op→y.Op≤3→y.dD≠[]
 a2:4≤y.Op→∃q,y.dD=[q]
 cond:y.dE.bulk≤16777216
def Pp (p:A0):Prop:=∀y∈p.pre,WfN y
theorem Ub {N:Nat} (hN:40000000≤N) {x:A0} (hb:x.bulk≤16777216) (h:Wf N x=0):Pp x∧x.pre.length≤64:=by
 unfold Wf at h
 by_cases hr:N8 N x=0
 ·rw [A1 (by simpa using hr)]at h
  by_cases ha:x.pre.any (fun y=>cmp .geq y.Op 8)=true
  ·rw[A2 ha]at h;cases h
  obtain⟨hp,hd,hg⟩:=JQ hr;refine⟨fun y hy=>?_,hp⟩;have h1:=Kq x y hy;have h2:=It y
  have hyb:y.bulk≤16777216:=by omega
  have hyl:y.dD.length≤64:=by omega
  obtain⟨ho,s,ng,hs,hc⟩:=NI hN hyb hyl (hg y hy)
  have h7:y.Op≤7:=by
   rw[GH,Lf]at ha
   have:=ha y hy
   rw[R6]at this
   simp at this;omega
  have hz:=Ui hN N y.dE (⟨0,[],0,0,0,(⟨0,0,⟨#[]⟩⟩:A7)⟩:B0) (by omega) (by omega);have h1:=Gs hN (by omega) ho.1 ho.2 hs hz
  rw[(Gl hN hyb hyl).2,hg y hy]at h1
  have h1:=AA h1
  by_cases har:s.dK≤y.dD.length∧(y.dD.length:Int)≤s.most
  ·rw[A2 har]at h1
   unfold LU at h1
   by_cases e1:EN s.typed y.Typ 15=true
   ·rw[A2 e1]at h1;cases h1
   rw[A1 e1]at h1
   by_cases e2:EN s.typed y.Var 15=true
   ·rw[A2 e2]at h1;cases h1
   have ht:=hs.tab
   have hop:y.Op=0∨y.Op=1∨y.Op=2∨y.Op=3∨y.Op=4∨y.Op=5∨y.Op=6∨y.Op=7:=by omega
   refine⟨⟨ho.1,h7⟩,?_,?_,?_,?_,by omega⟩
   ·intro h0
    rw[h0]at ht
    have hs:s.typed=true:=by cases ht;rfl
    rw[hs]at e2
    unfold EN at e2
    simp at e2
    omega
   ·intro h0
    rw[h0]at ht
    have hm:s.most=0:=by cases ht;rfl
    exact Dx (by omega)
   ·intro h0 h3
    have hm:1≤s.dK:=by
     have:y.Op=1∨y.Op=2∨y.Op=3:=by omega
     rcases this with h|h|h<;>rw[h]at ht<;>cases ht<;>decide
    intro e
    rw[e]at har
    simp at har;omega
   intro h0
   have hm:s.dK=1∧s.most=1:=by
    have:y.Op=4∨y.Op=5∨y.Op=6∨y.Op=7:=by omega
    rcases this with h|h|h|h<;>rw[h]at ht<;>cases ht<;>decide
   have hl:y.dD.length=1:=by omega
   match he:y.dD,hl with
   |[q],_=>exact⟨q,rfl⟩
  rw[A1 har]at h1;cases h1
 rw[A2 (show N8 N x≠0 from hr)]at h;exact absurd h hr
theorem BA {y : A0}:∀{l:List A0},y∈A0.pres l↔∃a∈l,y∈a.pre
 |[]=>by simp[A0.pres]
 | a :: l => by simp only[A0.pres,Az,BA (l:=l),Dy];constructor
                ·rintro(h|⟨b,h1,h2⟩)
                 ·exact⟨a,.inl rfl,h⟩
                 exact⟨b,.inr h1,h2⟩
                rintro⟨b,rfl|h1,h2⟩
                ·exact .inl h2
                exact .inr ⟨b,h1,h2⟩
theorem Pp.self {p:A0}(h:Pp p):WfN p:=h p (LJ p)
theorem Pp.arg {p q:A0}(h:Pp p)(hq:q∈p.dD):Pp q:=fun y hy=>h y (by rw[A0.pre_eq];exact List.mem_cons_of_mem _ (BA.2 ⟨q,hq,hy⟩))
theorem Pp.sub {p:A0}{r:List A0}(h:Pp p)(h1:1≤p.Op)(h3:p.Op≤3)(hr:∀q∈r,q∈p.dD)(hn:r≠[]):Pp {p with dD:=r}:=by
 intro y hy
 rw[A0.pre_eq]at hy
 rcases List.mem_cons.1 hy with rfl|hy
 ·exact⟨h.self.op,fun e=>by have:p.Op=0:=e;omega,fun e=>by have:p.Op=0:=e;omega,fun _ _=>hn,fun e=>by have:4≤p.Op:=e;omega,h.self.cond⟩
 obtain⟨q,hq,hy⟩:=BA.1 hy;exact h.arg (hr q hq) y hy
inductive Sm (l:List B3):A0→List PR→Int→List PR→Prop
 |ev {p:A0} {b:List PR} {f:Int} {j:Nat}:p.Op=0→f≤j→j<l.length→RK l p b j=true→Sm l p b f [⟨p.Var,j⟩]
 |seq1 {p q:A0} {b:List PR} {f:Int} {s:List PR}:p.Op=1→p.dD=[q]→Sm l q b f s→Sm l p b f s
 |seq {p q q':A0} {r:List A0} {b:List PR} {f:Int} {s t:List PR}:p.Op=1→p.dD=q::q'::r→Sm l q b f s→Sm l {p with dD:=q'::r} (mrg b s) (EH s+1) t→Sm l p b f (mrg s t)
 |alt {p q:A0} {b:List PR} {f:Int} {s:List PR}:p.Op=2→q∈p.dD→Sm l q b f s→Sm l p b f s
 |all1 {p q:A0} {b:List PR} {f:Int} {s:List PR}:p.Op=3→p.dD=[q]→Sm l q b f s→Sm l p b f s
 |all {p q:A0} {r:List A0} {b:List PR} {f:Int} {s t:List PR}:p.Op=3→p.dD=r++[q]→r≠[]→Sm l {p with dD:=r} b f s→Sm l q b f t→FW s t→Sm l p b f (mrg s t)
 |plus1 {p q:A0} {b:List PR} {f:Int} {s:List PR}:p.Op=4→p.dD=[q]→Sm l q b f s→Sm l p b f s
 |plus {p q:A0} {b:List PR} {f:Int} {s t:List PR}:p.Op=4→p.dD=[q]→Sm l q b f s→Sm l p (mrg b s) (EH s+1) t→Sm l p b f (mrg s t)
 |some {p q:A0} {b:List PR} {f:Int} {s:List PR}:5≤p.Op→p.Op≤7→p.dD=[q]→Sm l q b f s→Mc l p b s=true→Sm l p b f s
theorem Sm.i0 {l:List B3} {p:A0} {b:List PR} {f:Int} {s:List PR} (h0:p.Op=0):Sm l p b f s↔∃j:Nat,f≤j∧j<l.length∧RK l p b j=true∧s=[⟨p.Var,j⟩]:=by
 constructor
 ·intro h
  cases h with
  |ev e0 e1 e2 e3=>exact⟨_,e1,e2,e3,rfl⟩
  |_=>omega
 rintro⟨j,e1,e2,e3,rfl⟩;exact .ev h0 e1 e2 e3
theorem Sm.i1 {l:List B3} {p q:A0} {b:List PR} {f:Int} {s:List PR} (h0:p.Op=1) (ha:p.dD=[q]):Sm l p b f s↔Sm l q b f s:=by
 constructor
 ·intro h
  cases h with
  |seq1 e0 ea hs=>rw[ha]at ea;cases ea;exact hs
  |seq e0 ea hs ht=>rw[ha]at ea;cases ea
  |_=>omega
 exact .seq1 h0 ha
theorem Sm.i1c {l:List B3} {p q q':A0} {r:List A0} {b:List PR} {f:Int} {s:List PR} (h0:p.Op=1) (ha:p.dD=q::q'::r):Sm l p b f s↔∃u t,Sm l q b f u∧Sm l {p with dD:=q'::r} (mrg b u) (EH u+1) t∧s=mrg u t:=by
 constructor
 ·intro h
  cases h with
  |seq1 e0 ea hs=>rw[ha]at ea;cases ea
  |seq e0 ea hs ht=>rw[ha]at ea;cases ea;exact⟨_,_,hs,ht,rfl⟩
  |_=>omega
 rintro⟨u,t,hs,ht,rfl⟩;exact .seq h0 ha hs ht
theorem Sm.i2 {l:List B3} {p:A0} {b:List PR} {f:Int} {s:List PR} (h0:p.Op=2):Sm l p b f s↔∃q∈p.dD,Sm l q b f s:=by
 constructor
 ·intro h
  cases h with
  |alt e0 ea hs=>exact⟨_,ea,hs⟩
  |_=>omega
 rintro⟨q,ha,hs⟩;exact .alt h0 ha hs
theorem Sm.i3 {l:List B3} {p q:A0} {b:List PR} {f:Int} {s:List PR} (h0:p.Op=3) (ha:p.dD=[q]):Sm l p b f s↔Sm l q b f s:=by
 constructor
 ·intro h
  cases h with
  |all1 e0 ea hs=>rw[ha]at ea;cases ea;exact hs
  |all e0 ea en hs ht hd=>
   rw[ha]at ea
   exact absurd (Ls (s₁:=[]) ea rfl).symm en
  |_=>omega
 exact .all1 h0 ha
theorem Sm.i3c {l:List B3} {p q:A0} {r:List A0} {b:List PR} {f:Int} {s:List PR} (h0:p.Op=3) (ha:p.dD=r++[q]) (hr:r≠[]):Sm l p b f s↔∃u t,Sm l {p with dD:=r} b f u∧Sm l q b f t∧FW u t∧s=mrg u t:=by
 constructor
 ·intro h
  cases h with
  |all1 e0 ea hs=>
   rw[ha]at ea
   exact absurd (Ls (s₂:=[]) ea rfl) hr
  |all e0 ea en hs ht hd=>
   rw[ha]at ea
   have e1:=Ls ea rfl;have e2:=List.append_inj_right' ea rfl;cases e1;cases e2;exact⟨_,_,hs,ht,hd,rfl⟩
  |_=>omega
 rintro⟨u,t,hs,ht,hd,rfl⟩;exact .all h0 ha hr hs ht hd
theorem Sm.i4 {l:List B3} {p q:A0} {b:List PR} {f:Int} {s:List PR} (h0:p.Op=4) (ha:p.dD=[q]):Sm l p b f s↔Sm l q b f s∨∃u t,Sm l q b f u∧Sm l p (mrg b u) (EH u+1) t∧s=mrg u t:=by
 constructor
 ·intro h
  cases h with
  |plus1 e0 ea hs=>rw[ha]at ea;cases ea;exact .inl hs
  |plus e0 ea hs ht=>rw[ha]at ea;cases ea;exact .inr ⟨_,_,hs,ht,rfl⟩
  |_=>omega
 rintro(hs|⟨u,t,hs,ht,rfl⟩)
 ·exact .plus1 h0 ha hs
 exact .plus h0 ha hs ht
theorem Sm.i5 {l:List B3} {p q:A0} {b:List PR} {f:Int} {s:List PR} (h0:5≤p.Op) (h1:p.Op≤7) (ha:p.dD=[q]):Sm l p b f s↔Sm l q b f s∧Mc l p b s=true:=by
 constructor
 ·intro h
  cases h with
  |some e0 e1 ea hs hk=>rw[ha]at ea;cases ea;exact⟨hs,hk⟩
  |_=>omega
 rintro⟨hs,hk⟩;exact .some h0 h1 ha hs hk
structure TV (l:List B3) (b:List PR) (f:Int):Prop where
 gd:Gd l b
 lt:∀x∈b,x.At<f
 f0:0≤f
 f1:f≤l.length
structure TU (l:List B3) (f:Int) (s:List PR):Prop where
 gd:Gd l s
 ge:∀x∈s,f≤x.At
 ne:s≠[]
theorem TV.apart {l:List B3}{b s:List PR}{f:Int}(h:TV l b f)(r:TU l f s):FW b s:=fun x hx y hy=>by have:=h.lt x hx;have:=r.ge y hy;omega
theorem TV.next {l:List B3}{b s:List PR}{f:Int}(h:TV l b f)(r:TU l f s):TV l (mrg b s) (EH s+1):=by
 have hl:=r.gd.lst r.ne;refine⟨h.gd.mrg r.gd (h.apart r),fun x hx=>?_,by omega,by omega⟩
 rcases GD.1 hx with hx|hx
 ·obtain⟨y,_,hy,e⟩:=ML r.ne;have:=h.lt x hx;have:=r.ge y hy;omega
 have:=Tq r.gd.asc x hx;omega
theorem TU.seq {l:List B3} {s t:List PR} {f:Int} (r:TU l f s) (q:TU l (EH s+1) t):TU l f (mrg s t)∧FW s t:=by
 have ha:FW s t:=fun x hx y hy=>by have:=Tq r.gd.asc x hx;have:=q.ge y hy;omega
 refine⟨⟨r.gd.mrg q.gd ha,fun x hx=>?_,fun e=>?_⟩,ha⟩
 ·rcases GD.1 hx with hx|hx
  ·exact r.ge x hx
  obtain⟨y,_,hy,e⟩:=ML r.ne;have:=r.ge y hy;have:=q.ge x hx;omega
 have h1:=J5 List.length e
 rw[Af9,T7]at h1
 have:=List.length_pos_iff.2 r.ne;omega
theorem TU.all {l:List B3}{s t:List PR}{f:Int}(r:TU l f s)(q:TU l f t)(ha:FW s t):TU l f (mrg s t):=by
 refine⟨r.gd.mrg q.gd ha,fun x hx=>(GD.1 hx).elim (r.ge x) (q.ge x),fun e=>?_⟩;have h1:=J5 List.length e
 rw[Af9,T7]at h1
 have:=List.length_pos_iff.2 r.ne;omega
theorem Sm.res {l:List B3} {p:A0} {b:List PR} {f:Int} {s:List PR} (h:Sm l p b f s):Pp p→TV l b f→TU l f s:=by
 induction h with
 |@ev p b f j h0 hf hj ht=>
  intro hw ho;refine⟨⟨fun x hx=>?_,List.pairwise_singleton _ _⟩,fun x hx=>?_,by simp⟩
  ·rw[List.mem_singleton.1 hx];exact⟨hw.self.var h0,by show 0≤(j:Int)∧(j:Int)<l.length;omega⟩
  rw[List.mem_singleton.1 hx];exact hf
 |seq1 h0 ha _ ih=>intro hw ho;exact ih (hw.arg (by rw[ha];simp)) ho
 |@seq p q q' r b f s t h0 ha _ _ ih1 ih2=>
  intro hw ho;have r1:=ih1 (hw.arg (by rw[ha];simp)) ho;have r2:=ih2 (hw.sub (by omega) (by omega) (fun x hx=>by rw[ha];exact Q1 _ hx) (by simp)) (ho.next r1);exact(r1.seq r2).1
 |alt h0 ha _ ih=>intro hw ho;exact ih (hw.arg ha) ho
 |all1 h0 ha _ ih=>intro hw ho;exact ih (hw.arg (by rw[ha];simp)) ho
 |@all p q r b f s t h0 ha hn _ _ hd ih1 ih2=>
  intro hw ho;exact(ih1 (hw.sub (by omega) (by omega) (fun x hx=>by rw[ha];simp[hx]) hn) ho).all (ih2 (hw.arg (by rw[ha];simp)) ho) hd
 |plus1 h0 ha _ ih=>intro hw ho;exact ih (hw.arg (by rw[ha];simp)) ho
 |@plus p q b f s t h0 ha _ _ ih1 ih2=>
  intro hw ho;have r1:=ih1 (hw.arg (by rw[ha];simp)) ho;exact(r1.seq (ih2 hw (ho.next r1))).1
 |some h0 h1 ha _ _ ih=>intro hw ho;exact ih (hw.arg (by rw[ha];simp)) ho
def Vs (p:A0)(v:Int):Prop:=∃y∈p.pre,y.Op=0∧y.Var=v
theorem Vs.arg {p q:A0}{v:Int}(hq:q∈p.dD)(h:Vs q v):Vs p v:=by
 obtain⟨y,hy,h⟩:=h;exact⟨y,by rw[A0.pre_eq];exact Q1 _ (BA.2 ⟨q,hq,hy⟩),h⟩
theorem Vs.sub {p:A0}{r:List A0}{v:Int}(h0:p.Op≠0)(hr:∀q∈r,q∈p.dD)(h:Vs {p with dD:=r} v):Vs p v:=by
 obtain⟨y,hy,h1,h2⟩:=h
 rw[A0.pre_eq]at hy
 rcases List.mem_cons.1 hy with rfl|hy
 ·exact absurd h1 h0
 obtain⟨q,hq,hy⟩:=BA.1 hy;exact Vs.arg (hr q hq) ⟨y,hy,h1,h2⟩
theorem Sm.vars {l:List B3} {p:A0} {b:List PR} {f:Int} {s:List PR} (h:Sm l p b f s):∀x∈s,Vs p x.Var:=by
 induction h with
 |@ev p b f j h0 hf hj ht=>intro x hx;rw[List.mem_singleton.1 hx];exact⟨p,LJ p,h0,rfl⟩
 |seq1 h0 ha _ ih=>intro x hx;exact Vs.arg (by rw[ha];simp) (ih x hx)
 |@seq p q q' r b f s t h0 ha _ _ ih1 ih2=>
  intro x hx
  rcases GD.1 hx with hx|hx
  ·exact Vs.arg (by rw[ha];simp) (ih1 x hx)
  exact Vs.sub (by omega) (fun x hx=>by rw[ha];exact Q1 _ hx) (ih2 x hx)
 |alt h0 ha _ ih=>intro x hx;exact Vs.arg ha (ih x hx)
 |all1 h0 ha _ ih=>intro x hx;exact Vs.arg (by rw[ha];simp) (ih x hx)
 |@all p q r b f s t h0 ha hn _ _ hd ih1 ih2=>
  intro x hx
  rcases GD.1 hx with hx|hx
  ·exact Vs.sub (by omega) (fun x hx=>by rw[ha];simp[hx]) (ih1 x hx)
  exact Vs.arg (by rw[ha];simp) (ih2 x hx)
 |plus1 h0 ha _ ih=>intro x hx;exact Vs.arg (by rw[ha];simp) (ih x hx)
 |@plus p q b f s t h0 ha _ _ ih1 ih2=>
  intro x hx
  rcases GD.1 hx with hx|hx
  ·exact Vs.arg (by rw[ha];simp) (ih1 x hx)
  exact ih2 x hx
 |some h0 h1 ha _ _ ih=>intro x hx;exact Vs.arg (by rw[ha];simp) (ih x hx)
end
end Go.Ab
namespace Go.Ab
open Classical
noncomputable section
def Mn (p:A0):Nat:=p.pre.countP fun y=>decide (y.Op=0)
def Hn (p:A0):Prop:=∀y∈p.pre,y.Op≠4
theorem Mm (p:A0):Mn p=(if p.Op=0 then 1 else 0)+(A0.pres p.dD).countP fun y=>decide (y.Op=0):=by
 unfold Mn;rw[A0.pre_eq,List.countP_cons]
 by_cases h:p.Op=0<;>simp[h]<;>omega
theorem Rz (p:A0)(r:List A0):Mn {p with dD:=r}=(if p.Op=0 then 1 else 0)+(A0.pres r).countP fun y=>decide (y.Op=0):=Mm _
theorem QU {q:A0}:∀{l:List A0},q∈l→Mn q≤(A0.pres l).countP fun y=>decide (y.Op=0)
 |a::l,h=>by
  simp only[A0.pres,GP]
  rcases List.mem_cons.1 h with rfl|h
  ·exact IM _ _
  have:=QU h;unfold Mn at *;omega
theorem MO {p q:A0}(h:q∈p.dD):Mn q≤Mn p:=by rw[Mm p];have:=QU h;omega
theorem Hn.arg {p q:A0}(h:Hn p)(hq:q∈p.dD):Hn q:=fun y hy=>h y (by rw[A0.pre_eq];exact List.mem_cons_of_mem _ (BA.2 ⟨q,hq,hy⟩))
theorem Hn.sub {p:A0}{r:List A0}(h:Hn p)(hr:∀q∈r,q∈p.dD):Hn {p with dD:=r}:=by
 intro y hy
 rw[A0.pre_eq]at hy
 rcases List.mem_cons.1 hy with rfl|hy
 ·exact h p (LJ p)
 obtain⟨q,hq,hy⟩:=BA.1 hy;exact h.arg (hr q hq) y hy
def TS (n:Nat)(p:A0):Prop:=(Mn p+1) ^ n≤1500∨(Hn p∧2≤n∧n ^ Mn p≤1500)
theorem TS.mono {n:Nat}{p q:A0}(h:TS n p)(h1:Mn q≤Mn p)(h2:Hn p→Hn q):TS n q:=by
 rcases h with h|⟨a,b,c⟩
 ·exact .inl (O8 (Nat.pow_le_pow_left (by omega) n) h)
 exact .inr ⟨h2 a,b,O8 (FX (by omega) h1) c⟩
theorem TS.arg {n:Nat}{p q:A0}(h:TS n p)(hq:q∈p.dD):TS n q:=h.mono (MO hq) fun k=>k.arg hq
theorem TS.tail {n:Nat}{p q:A0}{r:List A0}(h:TS n p)(ha:p.dD=q::r):TS n {p with dD:=r}:=by
 refine h.mono ?_ fun k=>k.sub fun x hx=>by rw[ha];exact Q1 _ hx
 rw[Rz,Mm,ha];simp only[A0.pres,GP];omega
theorem LS :∀(r m:List A0),A0.pres (r++m)=A0.pres r++A0.pres m
 |[],m=>by simp[A0.pres]
 |a::r,m=>by simp[A0.pres,LS r m]
def Mp (V:List Int):Nat→Int→List (List PR)
 |0,_=>[[]]
 |m+1,k=>Mp V m (k+1)++V.flatMap fun v=>(Mp V m (k+1)).map fun s=>⟨v,k⟩::s
theorem PW (V:List Int):∀(m:Nat) (k:Int),(Mp V m k).length=(V.length+1) ^ m
 |0,_=>rfl
 | m+1,k=>by
  have ih:=PW V m (k+1)
  have h:(V.flatMap fun v=>(Mp V m (k+1)).map fun s=>(⟨v,k⟩:PR)::s).length=V.length*(V.length+1) ^ m:=by
   clear ih;generalize hE:Mp V m (k+1)=E
   have hl:E.length=(V.length+1) ^ m:=by rw[←hE];exact PW V m (k+1)
   rw[←hl];clear hl hE
   induction V with
   |nil=>simp
   |cons v V ih=>rw[BL,K7,ih,G5,J7,IA];omega
  rw[Mp,K7,ih,h,Nat.pow_succ];rw[EQ _ (V.length+1),IA];omega
theorem MP (V:List Int):∀(m:Nat) (k:Int) (s:List PR),Asc s→(∀x∈s,k≤x.At∧x.At<k+m)→(∀x∈s,x.Var∈V)→s∈Mp V m k
 |0,k,[],_,_,_=>by simp[Mp]
 |0,k,x::s,_,h,_=>by have:=h x (by simp);omega
 |m+1,k,[],ha,_,_=>by
  rw[Mp];exact Dt _ (MP V m (k+1) [] ha (by simp) (by simp))
 | m+1,k,x::s,ha,h,hv=>by
  rw[Mp];have ha':=ha
  unfold Asc at ha
  rw[HM]at ha
  have hx:=h x (by simp)
  by_cases e:x.At=k
  ·refine IV _ (List.mem_flatMap.2 ⟨x.Var,hv x (by simp),List.mem_map.2 ⟨s,MP V m (k+1) s ha.2 (fun y hy=>?_) (fun y hy=>hv y (by simp[hy])),?_⟩⟩)
   ·have:=ha.1 y hy;have:=h y (by simp[hy]);omega
   rw[←e]
  refine Dt _ (MP V m (k+1) (x::s) ha' (fun y hy=>?_) hv);have:=h y hy
  rcases List.mem_cons.1 hy with rfl|hy
  ·omega
  have:=ha.1 y hy;omega
def Ad4 (p:A0):List Int:=(p.pre.filter fun y=>decide (y.Op=0)).map (·.Var)
theorem Ak2 (p:A0):(Ad4 p).length=Mn p:=by unfold Ad4 Mn;rw[G5,List.countP_eq_length_filter]
theorem Vs.mem {p:A0}{v:Int}(h:Vs p v):v∈Ad4 p:=by
 obtain⟨y,hy,h0,h1⟩:=h;exact List.mem_map.2 ⟨y,List.mem_filter.2 ⟨hy,by simpa using h0⟩,h1⟩
theorem Bc9 {l:List B3} {p:A0} {L:List (List PR)} (hn:L.Nodup) (h:∀s∈L,Gd l s∧∀x∈s,Vs p x.Var):L.length≤(Mn p+1) ^ l.length:=by
 have:=Qx hn (l₂:=Mp (Ad4 p) l.length 0) fun s hs=>by
  obtain⟨g,hv⟩:=h s hs;exact MP _ _ _ s g.asc (fun x hx=>by have:=(g.wf x hx).2;omega) fun x hx=>(hv x hx).mem
 rwa[PW,Ak2]at this
theorem Ae9 {α β:Type}(A B:List α)(f:α→α→β):(A.flatMap fun a=>B.map (f a)).length=A.length*B.length:=by
 induction A with
 |nil=>simp
 |cons a A ih=>rw[BL,K7,ih,G5,J7,IA];omega
theorem Af0 :∀(n:Nat) (p:A0),p.pre.length≤n→Pp p→1≤Mn p
 |0,p,h,_=>by rw[A0.pre_eq]at h;simp at h
 | n+1,p,h,hw=>by
  by_cases h0:p.Op=0
  ·rw[Mm,A2 h0];omega
  have hne:∃q,q∈p.dD:=by
   by_cases h3:p.Op≤3
   ·exact Qt _ (hw.self.a1 (by have:=hw.self.op;omega) h3)
   obtain⟨q,hq⟩:=hw.self.a2 (by omega);exact⟨q,by rw[hq];simp⟩
  obtain⟨q,hq⟩:=hne;have:=Af0 n q (by have:=Ag hq;omega) (hw.arg hq);have:=MO hq;omega
theorem YF {x y:Nat} (hx:2≤x) (hy:2≤y):x+y≤x*y:=by
 obtain⟨a,rfl⟩:∃a,x=a+2:=⟨x - 2,by omega⟩;obtain⟨b,rfl⟩:∃b,y=b+2:=⟨y - 2,by omega⟩
 have:(a+2)*(b+2)=a*b+2*a+2*b+4:=by
  rw[Nat.mul_add,E5,E5];omega
 omega
theorem Ro {p q:A0}{r:List A0}(ha:p.dD=q::r):({p with dD:=r}:A0).pre.length<p.pre.length:=by
 have h1:=A0.pre_eq ({p with dD:=r}:A0);have h2:=A0.pre_eq p;rw[h1,h2,ha];have:=A0.pre_eq q;simp only[A0.pres,J7,K7,this];omega
theorem Ay4 {p q:A0}{r:List A0}(ha:p.dD=r++[q]):({p with dD:=r}:A0).pre.length<p.pre.length:=by
 have h1:=A0.pre_eq ({p with dD:=r}:A0);have h2:=A0.pre_eq p;rw[h1,h2,ha,LS];have:=A0.pre_eq q;simp only[A0.pres,J7,K7,this];omega
theorem Np {l:List B3} (hl:2≤l.length):∀(n:Nat) (p:A0),p.pre.length≤n→Pp p→Hn p→∃C:List (List PR),C.length≤l.length ^ Mn p∧∀b f s,Sm l p b f s→s∈C
 |0,p,h,_,_=>by rw[A0.pre_eq]at h;simp at h
 | n +1,p,h,hw,hp=>by
  have hop:=hw.self.op;have hnp:=hp p (LJ p)
  have hpow:∀q:A0,Pp q→2≤l.length ^ Mn q:=fun q hq=>by
   have h1:=Af0 _ q (C4 _) hq;have:=FX (n:=l.length) (by omega) h1
   rw[Nat.pow_one]at this;omega
  by_cases h0:p.Op=0
  ·refine⟨(List.range l.length).map fun(j:Nat)=>[⟨p.Var,(j:Int)⟩],?_,fun b f s hs=>?_⟩
   ·rw[Mm,A2 h0,hw.self.a0 h0,G5,Ds];simp[A0.pres]
   obtain⟨j,_,hj,_,rfl⟩:=(Sm.i0 h0).1 hs;exact List.mem_map.2 ⟨j,List.mem_range.2 hj,rfl⟩
  by_cases h1:p.Op=1
  ·match ha:p.dD with
   |[]=>exact absurd ha (hw.self.a1 (by omega) (by omega))
   |[q]=>
    have hq:q∈p.dD:=by rw[ha];simp
    obtain⟨C,h2,h3⟩:=Np hl n q (by have:=Ag hq;omega) (hw.arg hq) (hp.arg hq);refine⟨C,O8 h2 (FX (by omega) (MO hq)),fun b f s hs=>?_⟩;exact h3 _ _ _ ((Sm.i1 h1 ha).1 hs)
   | q::q'::r=>
    have hq:q∈p.dD:=by rw[ha];simp
    obtain⟨C,h2,h3⟩:=Np hl n q (by have:=Ag hq;omega) (hw.arg hq) (hp.arg hq);obtain⟨D,h4,h5⟩:=Np hl n {p with dD:=q'::r} (by have:=Ro ha;omega) (hw.sub (by omega) (by omega) (fun x hx=>by rw[ha];exact Q1 _ hx) (by simp)) (hp.sub fun x hx=>by rw[ha];exact Q1 _ hx);refine⟨C.flatMap fun s=>D.map (mrg s),?_,fun b f s hs=>?_⟩
    ·rw[Ae9,show Mn p=Mn q+Mn {p with dD:=q'::r}from ?_,Nat.pow_add]
     ·exact Ba h2 h4
     rw[Rz,Mm p,ha,A1 h0];rw[A0.pres,GP];unfold Mn;omega
    obtain⟨u,t,hu,ht,rfl⟩:=(Sm.i1c h1 ha).1 hs;exact List.mem_flatMap.2 ⟨_,h3 _ _ _ hu,List.mem_map.2 ⟨_,h5 _ _ _ ht,rfl⟩⟩
  by_cases h2':p.Op=2
  ·match ha:p.dD with
   |[]=>exact absurd ha (hw.self.a1 (by omega) (by omega))
   |[q]=>
    have hq:q∈p.dD:=by rw[ha];simp
    obtain⟨C,h2,h3⟩:=Np hl n q (by have:=Ag hq;omega) (hw.arg hq) (hp.arg hq);refine⟨C,O8 h2 (FX (by omega) (MO hq)),fun b f s hs=>?_⟩;obtain⟨q',ha',hs⟩:=(Sm.i2 h2').1 hs
    rw[ha]at ha'
    rw[List.mem_singleton.1 ha']at hs
    exact h3 _ _ _ hs
   | q::q'::r=>
    have hq:q∈p.dD:=by rw[ha];simp
    have hws:Pp {p with dD:=q'::r}:=hw.sub (by omega) (by omega) (fun x hx=>by rw[ha];exact Q1 _ hx) (by simp);obtain⟨C,h2,h3⟩:=Np hl n q (by have:=Ag hq;omega) (hw.arg hq) (hp.arg hq);obtain⟨D,h4,h5⟩:=Np hl n {p with dD:=q'::r} (by have:=Ro ha;omega) hws (hp.sub fun x hx=>by rw[ha];exact Q1 _ hx);refine⟨C++D,?_,fun b f s hs=>?_⟩
    ·rw[K7,show Mn p=Mn q+Mn {p with dD:=q'::r}from ?_,Nat.pow_add]
     ·have e1:=hpow q (hw.arg hq);have e2:=hpow _ hws;have:=YF e1 e2;omega
     rw[Rz,Mm p,ha,A1 h0];rw[A0.pres,GP];unfold Mn;omega
    obtain⟨x,ha',hs⟩:=(Sm.i2 h2').1 hs
    rw[ha]at ha'
    rcases List.mem_cons.1 ha' with e|hm
    ·rw[e]at hs;exact Dt _ (h3 _ _ _ hs)
    exact IV _ (h5 _ _ _ (Sm.alt (p:={p with dD:=q'::r}) h2' hm hs))
  by_cases h3':p.Op=3
  ·rcases Dw p.dD with ha|⟨r,q,ha⟩
   ·exact absurd ha (hw.self.a1 (by omega) (by omega))
   rw[Dv]at ha
   have hq:q∈p.dD:=by rw[ha];simp
   obtain⟨C,h2,h3⟩:=Np hl n q (by have:=Ag hq;omega) (hw.arg hq) (hp.arg hq)
   by_cases hr:r=[]
   ·subst hr;refine⟨C,O8 h2 (FX (by omega) (MO hq)),fun b f s hs=>?_⟩;exact h3 _ _ _ ((Sm.i3 h3' ha).1 hs)
   have hws:Pp {p with dD:=r}:=hw.sub (by omega) (by omega) (fun x hx=>by rw[ha];simp[hx]) hr;obtain⟨D,h4,h5⟩:=Np hl n {p with dD:=r} (by have:=Ay4 ha;omega) hws (hp.sub fun x hx=>by rw[ha];simp[hx]);refine⟨D.flatMap fun s=>C.map (mrg s),?_,fun b f s hs=>?_⟩
   ·rw[Ae9,show Mn p=Mn {p with dD:=r}+Mn q from ?_,Nat.pow_add]
    ·exact Ba h4 h2
    rw[Rz,Mm p,ha,A1 h0,LS,GP];simp only[A0.pres,F2];unfold Mn;omega
   obtain⟨u,t,hu,ht,_,rfl⟩:=(Sm.i3c h3' ha hr).1 hs;exact List.mem_flatMap.2 ⟨_,h5 _ _ _ hu,List.mem_map.2 ⟨_,h3 _ _ _ ht,rfl⟩⟩
  obtain⟨q,ha⟩:=hw.self.a2 (by omega)
  have hq:q∈p.dD:=by rw[ha];simp
  obtain⟨C,h2,h3⟩:=Np hl n q (by have:=Ag hq;omega) (hw.arg hq) (hp.arg hq);refine⟨C,O8 h2 (FX (by omega) (MO hq)),fun b f s hs=>?_⟩;exact h3 _ _ _ ((Sm.i5 (by omega) hop.2 ha).1 hs).1
theorem card {l:List B3} {p:A0} (hw:Pp p) (hs:TS l.length p) {L:List (List PR)} (hn:L.Nodup) (h:∀s∈L,Gd l s∧∃b f,Sm l p b f s):L.length≤1500:=by
 rcases hs with hs|⟨h1,h2,h3⟩
 ·refine O8 (Bc9 hn fun s m=>?_) hs;obtain⟨g,b,f,hm⟩:=h s m;exact⟨g,hm.vars⟩
 obtain⟨C,h4,h5⟩:=Np h2 _ p (C4 _) hw h1
 have:=Qx hn (l₂:=C) fun s m=>by
  obtain⟨g,b,f,hm⟩:=h s m;exact h5 b f s hm
 omega
end
end Go.Ab
namespace Go.Ab
open Classical
noncomputable section
theorem JJ {β σ τ:Type}{m:Option (List β×σ)}{f:σ→Option (List β×τ)}{w w':List β}{x:σ}{o:τ}(h1:m=some (w,x))(h2:f x=some (w',o)):J2 m f=some (w++w',o):=by
 unfold J2;rw[h1];simp only[A4,h2]
theorem Sq {α β R:Type} {body:Unit→α→Option (List β×(Unit⊕R))} {Q:α→β→Prop}:∀{L:List α},(∀x∈L,∃w,body () x=some (w,.inl ())∧∀s,s∈w↔Q x s)→∃W,Ca body L ()=some (W,.inl ())∧∀s,s∈W↔∃x∈L,Q x s
 |[],_=>⟨[],rfl,by simp⟩
 |x::L,h=>by
  obtain⟨w,h1,h2⟩:=h x (by simp);obtain⟨W,h3,h4⟩:=Sq (L:=L) fun y hy=>h y (by simp[hy]);refine⟨w++W,by simp only[Ca,h1,h3],fun s=>?_⟩;rw[Az,h2,h4];simp
theorem Uz {α β A:Type} {L:List α} {N:Nat} (hN:L.length<N) {step:Int→Option (List β×(Int⊕A))} {u:A} {Q:α→β→Prop}
 (hs:∀(i:Nat) x,L[i]? =some x→(i:Int)<L.length→x∈L→∃w,step (i:Int)=some (w,.inl ((i:Int)+1))∧∀s,s∈w↔Q x s) (he:step (L.length:Int)=some ([],.inr u)):∃W,W2 step N 0=some (W,u)∧∀s,s∈W↔∃x∈L,Q x s:=by
 have key:∀(k i N:Nat),i+k=L.length→k<N→∃W,W2 step N (i:Int)=some (W,u)∧∀s,s∈W↔∃x∈L.drop i,Q x s:=by
  intro k
  induction k with
  |zero=>
   intro i N hi hN;obtain⟨N,rfl⟩:∃m,N=m+1:=⟨N - 1,by omega⟩;rw[CA (by omega),show(i:Int)=L.length by omega];exact⟨[],by simp[W2,he],by simp⟩
  |succ k ih=>
   intro i N hi hN;obtain⟨N,rfl⟩:∃m,N=m+1:=⟨N - 1,by omega⟩
   have hlt:i<L.length:=by omega
   obtain⟨w,h1,h2⟩:=hs i L[i] (by simp[hlt]) (by omega) (O9 hlt);obtain⟨W,h3,h4⟩:=ih (i+1) N (by omega) (by omega);rw[R9 hlt];refine⟨w++W,?_,fun s=>?_⟩
   ·simp only[W2,h1];rw[show((i:Int)+1)=((i+1:Nat):Int) by omega,h3]
   rw[Az,h2,h4];simp only[Dy,or_and_right,exists_or,exists_eq_left]
 simpa using key L.length 0 N (by omega) hN
def KK (s:List BD):ByteArray:=WJ (Kz (NQ (L8 s)))
theorem AF4 {a b:List UInt8} (h:WJ (Kz a)=WJ (Kz b)):a=b:=by
 have e0:∀(a:List UInt8) (acc:ByteArray),((Kz a).foldl (fun r n=>r.push (UInt8.ofNat n.toNat)) acc).data.toList=acc.data.toList++a:=fun a=>by
  induction a with
  |nil=>intro acc;simp[Kz]
  |cons x a ih=>
   intro acc
   simp only[Kz,D8,EV]at ih ⊢
   rw[ih];simp
 have e:∀a:List UInt8,(WJ (Kz a)).data.toList=a:=fun a=>by
  have:=e0 a ByteArray.empty
  simpa[WJ]using this
 rw[←e a,←e b,h]
theorem Ap5 {l:List B3}(hl:l.length≤10){a b:List BD}(ha:WfS l (L8 a))(hb:WfS l (L8 b))(h:KK a=KK b):a=b:=ME (Sc hl ha hb (AF4 h))
theorem Al1 {N:Nat}(hN:40000000≤N){l:List B3}(hl:l.length≤10){s:List BD}(g:Gd l (L8 s)):U5 N s=some (KK s):=by
 have:=g.len
 rw[G5]at this
 rw[AI8 hN hl (by omega) g.wf];rfl
def NP (out:List (List BD)):List (ByteArray×Bool):=out.map fun s=>(KK s,true)
theorem Aq7 (out:List (List BD)) (k:ByteArray):∃b,NW (NP out) k false=some (decide (∃s∈out,KK s=k),b):=by
 unfold NW NP
 induction out with
 |nil=>exact⟨false,by simp⟩
 |cons x out ih=>
  obtain⟨b,ih⟩:=ih;rw[D8,List.find?_cons]
  by_cases h:KK x=k
  ·exact⟨true,by simp[h]⟩
  refine⟨b,?_⟩;simp only[h,ES];rw[ih];simp[h]
theorem Am9 {out:List (List BD)}{s:List BD}(h:¬∃t∈out,KK t=KK s):MS (NP out) (KK s) true=some (NP (out++[s])):=by
 unfold MS;rw[A1]
 ·simp[NP]
 intro e
 rw[Dr]at e
 obtain⟨p,hp,he⟩:=e
 simp only[NP,BI]at hp
 obtain⟨t,ht,rfl⟩:=hp;exact h ⟨t,ht,by simpa using he⟩
theorem Xp {N:Nat} (hN:40000000≤N) {l:List B3} (hl:l.length≤10) {R:List (List BD)} (hR:∀s∈R,Gd l (L8 s)) (hc:∀L:List (List BD),L.Nodup→(∀s∈L,s∈R)→L.length≤4096):
 ∃ m out,K9 (fun(s11:(List (ByteArray×Bool))×(List (List A3))) (y10:(List A3))=>
  (
   (U5 N y10).bind fun r17=>
   (NW s11.1 r17 (false:Bool)).bind fun r18=>
   if r18.1=true then
    some (.inl (s11.1,s11.2))
   else
    (MS s11.1 r17 true).bind fun l20=>
    (N6 s11.2 ([y10])).bind fun l22=>
    ((
     if cmp .gtr (Ar.len l22) 4096=true then
      none
     else
      some ()
    ):Option (Unit)).bind fun s23=>
    if(⟨l,false⟩:B7).full=true then
     some (.inr (l20,l22))
    else
     some (.inl (l20,l22))
   :Option (((List (ByteArray×Bool))×(List (List A3)))⊕(((List (ByteArray×Bool))×(List (List A3))))))
  ) R (([]:List (ByteArray×Bool)),[])=some (.inl (m,out))∧out.Nodup∧∀s,s∈out↔s∈R:=by
 obtain⟨s',h1,p,out,h2,h3,h4,h5⟩:=DU (R:=(List (ByteArray×Bool))×(List (List A3))) (step:=fun(s11:(List (ByteArray×Bool))×(List (List A3))) (y10:(List A3))=>
  (
   (U5 N y10).bind fun r17=>
   (NW s11.1 r17 (false:Bool)).bind fun r18=>
   if r18.1=true then
    some (.inl (s11.1,s11.2))
   else
    (MS s11.1 r17 true).bind fun l20=>
    (N6 s11.2 ([y10])).bind fun l22=>
    ((
     if cmp .gtr (Ar.len l22) 4096=true then
      none
     else
      some ()
    ):Option (Unit)).bind fun s23=>
    if(⟨l,false⟩:B7).full=true then
     some (.inr (l20,l22))
    else
     some (.inl (l20,l22))
   :Option (((List (ByteArray×Bool))×(List (List A3)))⊕(((List (ByteArray×Bool))×(List (List A3)))))))
  (fun r s=>∃p out,p++r=R∧s=(NP out,out)∧out.Nodup∧∀x,x∈out↔x∈p) (fun y r s ⟨p,out,e1,e2,e3,e4⟩=>by
   subst e2
   have hy:y∈R:=by rw[←e1];simp
   have hout:∀x∈out,x∈R:=fun x hx=>by rw[←e1];simp[(e4 x).1 hx]
   rw[Al1 hN hl (hR y hy)];simp only[A4];obtain⟨b,hb⟩:=Aq7 out (KK y);rw[hb];simp only[A4];have hiff:(∃s∈out,KK s=KK y)↔y∈out:=⟨fun⟨s,hs,e⟩=>by rw[←Ap5 hl (hR s (hout s hs)).wf (hR y hy).wf e];exact hs,fun h=>⟨y,h,rfl⟩⟩
   by_cases hm:y∈out
   ·rw[A2 (D5 (hiff.2 hm))];refine⟨_,rfl,p++[y],out,by simpa using e1,rfl,e3,fun x=>?_⟩;rw[e4,Az,GO]
    constructor
    ·exact .inl
    rintro(h|rfl)
    ·exact h
    exact(e4 _).1 hm
   have hn:(out++[y]).Nodup:=by
    rw[IQ];exact⟨e3,by simp,fun a ha b hb'=>by rw[List.mem_singleton.1 hb'];intro e;exact hm (e▸ha)⟩
   have hlen:(out++[y]).length≤4096:=hc _ hn fun x hx=>by
    rcases List.mem_append.1 hx with h|h
    ·exact hout x h
    rw[List.mem_singleton.1 h];exact hy
   rw[A1 (by simpa using fun x hx e=>hm (hiff.1 ⟨x,hx,e⟩)),Am9 (fun e=>hm (hiff.1 e))];simp only[A4];rw[U8 (by simp at hlen ⊢;omega)];simp only[A4];rw[A1 (An (by rw[B5];omega))];refine⟨_,rfl,p++[y],out++[y],by simpa using e1,rfl,hn,fun x=>?_⟩
   rw[Az,Az,e4]) (l:=R) (s:=([],[])) ⟨[],[],rfl,rfl,by simp,by simp⟩
 subst h3
 rw[F2]at h2
 subst h2;exact⟨_,_,h1,h4,h5⟩
def Ik (N n:Nat)(c:B7)(p:A0)(o:List BD)(f:Int):Option (List (List BD)):=
 if p.Op=0 then Q4 N c p o f else if p.Op=1 then T9 N n c p o f else if p.Op=2 then U0 N n c p o f else if p.Op=3 then U1 N n c p o f else if p.Op=4 then S2 N n c p o f else J9 N n c p o f
def AH0 (N n:Nat)(l:List B3)(p:A0)(o:List BD)(f:Int):Prop:=∃L,E8 N n ⟨l,false⟩ p o f=some L∧L.Nodup∧∀s,s∈L↔Sm l p (L8 o) f (L8 s)
theorem JH {l:List B3} {p:A0} (hw:Pp p) (hs:TS l.length p) {b:List PR} {f:Int} (ho:TV l b f) {L:List (List BD)} (hn:L.Nodup) (h:∀s∈L,Sm l p b f (L8 s)):L.length≤1500:=by
 have:=card hw hs (L:=L.map L8) (by
  rw[List.Nodup,GM]
  exact hn.imp fun hne e=>hne (ME e)) fun s hs=>by
   obtain⟨t,ht,rfl⟩:=List.mem_map.1 hs;exact⟨((h t ht).res hw ho).gd,b,f,h t ht⟩
 rwa[G5]at this
theorem AT5 {N:Nat} (hN:40000000≤N) {l:List B3} (hl:l.length≤10) {p:A0} (hw:Pp p) (hs:TS l.length p) {o:List BD} {f:Int} (ho:TV l (L8 o) f) {n:Nat} {R:List (List BD)} (h:Ik N n ⟨l,false⟩ p o f=some R) (hm:∀s,s∈R↔Sm l p (L8 o) f (L8 s)):AH0 N (n+1) l p o f:=by
 obtain⟨m,out,h1,h2,h3⟩:=Xp hN hl (R:=R) (fun s hs=>(((hm s).1 hs).res hw ho).gd) fun L hL hsub=>by have:=JH hw hs ho hL fun s hs=>(hm s).1 (hsub s hs);omega
 refine⟨out,?_,h2,fun s=>(h3 s).trans (hm s)⟩;have hop:=hw.self.op;unfold E8 Db
 have key:∀{F:List (List BD)→Option (List (List BD))},((C5 ([fun y1 y2 y3 y4=>Q4 N y1 y2 y3 y4,fun y1 y2 y3 y4=>T9 N n y1 y2 y3 y4,fun y1 y2 y3 y4=>U0 N n y1 y2 y3 y4,fun y1 y2 y3 y4=>U1 N n y1 y2 y3 y4,fun y1 y2 y3 y4=>S2 N n y1 y2 y3 y4,fun y1 y2 y3 y4=>J9 N n y1 y2 y3 y4,fun y1 y2 y3 y4=>J9 N n y1 y2 y3 y4,fun y1 y2 y3 y4=>J9 N n y1 y2 y3 y4]:List (B7→A0→(List A3)→Int→Option (List (List A3)))) p.Op).bind fun f7=>(f7 ⟨l,false⟩ p o f).bind F)=F R:=by
  intro F
  have hb:∀{g:B7→A0→(List A3)→Int→Option (List (List A3))} {L:List (B7→A0→(List A3)→Int→Option (List (List A3)))} {i:Int},C5 L i=some g→g ⟨l,false⟩ p o f=some R→((C5 L i).bind fun f7=>(f7 ⟨l,false⟩ p o f).bind F)=F R:=fun e1 e2=>by rw[e1];simp only[A4,e2]
  have hc:p.Op=0∨p.Op=1∨p.Op=2∨p.Op=3∨p.Op=4∨p.Op=5∨p.Op=6∨p.Op=7:=by omega
  unfold Ik at h
  rcases hc with e|e|e|e|e|e|e|e<;>(rw[e]at h ⊢;exact hb rfl (by simpa using h))
 simp only[A4];rw[key,h1];rfl
end
end Go.Ab
namespace Go.Ab
open Classical
noncomputable section
theorem ED {α β A B:Type}{L:List α}{N:Nat}{step:Int→Option (List β×(Int⊕A))}{u:A}{f:A→Option (List β×B)}{y:B}{Q:α→β→Prop}{G:β→Prop}(hN:L.length<N)
 (hs:∀(i:Nat) x,L[i]? =some x→(i:Int)<L.length→x∈L→∃w,step (i:Int)=some (w,.inl ((i:Int)+1))∧∀s,s∈w↔Q x s) (he:step (L.length:Int)=some ([],.inr u)) (hf:f u=some ([],y)) (hG:∀s,(∃x∈L,Q x s)↔G s):∃W,J2 (W2 step N 0) f=some (W,y)∧∀s,s∈W↔G s:=by
 obtain⟨W,h1,h2⟩:=Uz hN hs he;exact⟨W++[],JJ h1 hf,fun s=>by rw[F2];exact(h2 s).trans (hG s)⟩
theorem Py {β:Type}{m:Option (List β×Unit)}{G:β→Prop}(h:∃W,m=some (W,())∧∀s,s∈W↔G s):∃R,(m.bind fun q=>some q.1)=some R∧∀s,s∈R↔G s:=by
 obtain⟨W,h1,h2⟩:=h;exact⟨W,by rw[h1];rfl,h2⟩
theorem JT {β A:Type}{x:β}{o:A}{P:β→Prop}(h:∀s,s=x↔P s):∃w,J2 (some ([x],())) (fun _=>some ([],o))=some (w,o)∧∀s,s∈w↔P s:=⟨[x],rfl,fun s=>by rw[GO];exact h s⟩
section
variable {N:Nat}(hN:40000000≤N){l:List B3}(hl:l.length≤10)
include hN hl
theorem AC3 {o u:List BD}{f:Int}(ho:TV l (L8 o) f)(r:TU l f (L8 u)):∃c,S3 N o u=some c∧L8 c=mrg (L8 o) (L8 u):=by
 have h1:=ho.gd.len;have h2:=r.gd.len
 rw[G5]at h1 h2
 exact Rx (n:=l.length) (by omega) (by omega) (by omega) ho.gd.asc r.gd.asc (ho.apart r) ho.gd.wf.ins r.gd.wf.ins
theorem AC2 {u t:List BD}{f g:Int}(r:TU l f (L8 u))(q:TU l g (L8 t))(hd:FW (L8 u) (L8 t)):∃c,S3 N u t=some c∧L8 c=mrg (L8 u) (L8 t):=by
 have h1:=r.gd.len;have h2:=q.gd.len
 rw[G5]at h1 h2
 exact Rx (n:=l.length) (by omega) (by omega) (by omega) r.gd.asc q.gd.asc hd r.gd.wf.ins q.gd.wf.ins
theorem AC0 {u:List BD}{f:Int}(r:TU l f (L8 u)):S0 N u=some (EH (L8 u)):=by
 have h1:=r.gd.len
 rw[G5]at h1
 exact WO (fun e=>r.ne (by rw[e];rfl)) (by omega)
theorem Ae0 {q:A0} {o:List BD} {f:Int} {n:Nat} (wq:Pp q) (sq:TS l.length q) (ho:TV l (L8 o) f) (hq:AH0 N n l q o f) {x5:List BD→Int→Option (List (List BD))} {Qr:List BD→List BD→Prop}
 (hr:∀u,Sm l q (L8 o) f (L8 u)→∀r9,L8 r9=mrg (L8 o) (L8 u)→∃T,x5 r9 (EH (L8 u)+1)=some T∧T.length≤4096∧∀t,t∈T↔Qr u t) (hres:∀u t,Sm l q (L8 o) f (L8 u)→Qr u t→TU l (EH (L8 u)+1) (L8 t)):
 ∃R,S1 N (n+2) ⟨l,false⟩ q o f x5=some R∧∀s,s∈R↔∃u t,Sm l q (L8 o) f (L8 u)∧Qr u t∧L8 s=mrg (L8 u) (L8 t):=by
 obtain⟨L,h1,h2,h3⟩:=hq;have hc:=JH wq sq ho h2 fun s hs=>(h3 s).1 hs;unfold S1 X2;refine Py ?_;rw[h1];simp only[A4];refine ED (L:=L) (u:=.inl ()) (Q:=fun u s=>∃t,Qr u t∧L8 s=mrg (L8 u) (L8 t)) (by omega) ?_ ?_ rfl ?_
 ·intro i u hu hi hm;have hsm:=(h3 u).1 hm;have r:=hsm.res wq ho;have hlst:=r.gd.lst r.ne;obtain⟨c,hc1,hc2⟩:=AC3 hN hl ho r;obtain⟨T,t1,t2,t3⟩:=hr u hsm c hc2;have e:ar .add .i64 (i:Int) 1=i+1:=E9 (by omega) (by omega);rw[A2 (Bi hi),G2,hu];simp only[A4];rw[hc1,AC0 hN hl r];simp only[A4];rw[E9 (a:=EH (L8 u)) (by omega) (by omega),t1];simp only[A4,e];refine ED (L:=T) (u:=.inl ()) (Q:=fun t s=>L8 s=mrg (L8 u) (L8 t)) (by omega) ?_ ?_ rfl ?_
  ·intro j t ht hj hmt;have qr:=(t3 t).1 hmt;have rt:=hres u t hsm qr;obtain⟨d,d1,d2⟩:=AC2 hN hl r rt (r.seq rt).2;have e:ar .add .i64 (j:Int) 1=j+1:=E9 (by omega) (by omega);rw[A2 (Bi hj),G2,ht];simp only[A4,F6,E4,d1,e];exact JT fun s=>⟨fun e=>by rw[e,d2],fun e=>ME (e.trans d2.symm)⟩
  ·rw[A1 EG]
  intro s
  constructor
  ·rintro⟨t,ht,e⟩;exact⟨t,(t3 t).1 ht,e⟩
  rintro⟨t,ht,e⟩;exact⟨t,(t3 t).2 ht,e⟩
 ·rw[A1 EG]
 intro s
 constructor
 ·rintro⟨u,hu,t,ht,e⟩;exact⟨u,t,(h3 u).1 hu,ht,e⟩
 rintro⟨u,t,hu,ht,e⟩;exact⟨u,(h3 u).2 hu,t,ht,e⟩
def mu (l:List B3)(p:A0)(f:Nat):Nat:=p.pre.length*(l.length+2)+(l.length - f)
omit hN hl in
theorem Kp {p q:A0}{f g:Nat}(h:q.pre.length<p.pre.length):mu l q g+1≤mu l p f:=by
 unfold mu;have:=H5 (l.length+2) (show q.pre.length+1≤p.pre.length from h)
 rw[E5]at this
 omega
omit hN hl in
theorem AM4 {p:A0}{f g:Nat}(h:f<g)(hg:g≤l.length):mu l p g+1≤mu l p f:=by unfold mu;omega
def IHk (N:Nat)(l:List B3)(k:Nat):Prop:=∀(p:A0) (o:List BD) (f n:Nat),mu l p f≤k→8*k+8≤n→p.pre.length≤64→Pp p→TS l.length p→TV l (L8 o) f→AH0 N n l p o f
omit hN hl in
theorem Ag4 {u:List PR}{f:Int}(r:TU l f u)(h0:0≤f):∃g:Nat,EH u+1=(g:Int)∧g≤l.length∧f<g:=by
 have:=r.gd.lst r.ne;obtain⟨x,_,hx,e⟩:=ML r.ne;have:=r.ge x hx;exact⟨(EH u+1).toNat,by omega,by omega,by omega⟩
theorem ZZ {p:A0}(hw:Pp p)(h0:p.Op=0){o:List BD}{f:Nat}(ho:TV l (L8 o) f)(n:Nat):∃R,Ik N n ⟨l,false⟩ p o f=some R∧∀s,s∈R↔Sm l p (L8 o) f (L8 s):=by
 have:=ho.f1;refine⟨_,by unfold Ik;rw[A2 h0];exact Am8 hN hl hw.self.cond ho.gd false (by omega),fun s=>?_⟩;rw[Ag3,Sm.i0 h0]
 constructor
 ·rintro⟨j,h1,h2,h3,rfl⟩;exact⟨j,by omega,by omega,h3,rfl⟩
 rintro⟨j,h1,h2,h3,e⟩;exact⟨j,by omega,by omega,h3,ME (e.trans rfl)⟩
theorem Ak3 {L:List (List BD)}(hL:L.length≤1000000):∃R,W9 N L=some R∧∀s,s∈R↔s∈L:=by
 unfold W9 J6;refine Py ?_;refine ED (L:=L) (u:=()) (Q:=fun x s=>s=x) (by omega) ?_ ?_ rfl ?_
 ·intro i u hu hi hm;have e:ar .add .i64 (i:Int) 1=i+1:=E9 (by omega) (by omega);rw[A2 (Bi hi),G2,hu];simp only[A4,e];exact JT fun s=>EO
 ·rw[A1 EG]
 intro s;simp
theorem AE1 {k:Nat} (ih:IHk N l k) {p:A0} (hw:Pp p) (hp:p.pre.length≤64) (hs:TS l.length p) (h0:p.Op=1) {o:List BD} {f:Nat} (ho:TV l (L8 o) f) {n:Nat} (hmu:mu l p f≤k+1) (hn:8*k+15≤n):∃R,Ik N n ⟨l,false⟩ p o f=some R∧∀s,s∈R↔Sm l p (L8 o) f (L8 s):=by
 unfold Ik;rw[A1 (by omega),A2 h0];obtain⟨n,rfl⟩:∃m,n=m+1:=⟨n - 1,by omega⟩;unfold T9
 match ha:p.dD with
 |[]=>exact absurd ha (hw.self.a1 (by omega) (by omega))
 |[q]=>
  have hq:q∈p.dD:=by rw[ha];simp
  have:=Kp (l:=l) (f:=f) (g:=f) (Ag hq);obtain⟨L,h1,h2,h3⟩:=ih q o f n (by omega) (by omega) (by have:=Ag hq;omega) (hw.arg hq) (hs.arg hq) ho;have hc:=JH (hw.arg hq) (hs.arg hq) ho h2 fun s hs=>(h3 s).1 hs;obtain⟨R,h4,h5⟩:=Ak3 hN hl (L:=L) (by omega);rw[A2 (show cmp .eql (Ar.len [q]) 1=true from rfl),OR];simp only[A4];rw[h1];simp only[A4];rw[h4];exact⟨R,rfl,fun s=>(h5 s).trans ((h3 s).trans (Sm.i1 h0 ha).symm)⟩
 | q::q'::r=>
  have hq:q∈p.dD:=by rw[ha];simp
  have hwr:Pp {p with dD:=q'::r}:=hw.sub (by omega) (by omega) (fun x hx=>by rw[ha];exact Q1 _ hx) (by simp);have hsr:TS l.length {p with dD:=q'::r}:=hs.tail ha;rw[A1 (by rw[C8,B5];simp;omega),RM,OR];simp only[A4];obtain⟨n,rfl⟩:∃m,n=m+2:=⟨n - 2,by omega⟩;have m1:=Kp (l:=l) (f:=f) (g:=f) (Ag hq)
  obtain⟨R,h1,h2⟩:=Ae0 hN hl (hw.arg hq) (hs.arg hq) ho (ih q o f n (by omega) (by omega) (by have:=Ag hq;omega) (hw.arg hq) (hs.arg hq) ho) (x5:=fun y1 y2=>Q3 N (n+2) y1 y2 ⟨l,false⟩ {p with dD:=q'::r})
   (Qr:=fun u t=>Sm l {p with dD:=q'::r} (mrg (L8 o) (L8 u)) (EH (L8 u)+1) (L8 t)) (fun u hu r9 e9=>by
    have ru:=hu.res (hw.arg hq) ho;obtain⟨g,hg,hgl,hfg⟩:=Ag4 ru ho.f0
    have ho':TV l (L8 r9) (g:Int):=by rw[e9,←hg];exact ho.next ru
    have m2:=Kp (l:=l) (f:=f) (g:=g) (Ro ha);obtain⟨T,t1,t2,t3⟩:=ih {p with dD:=q'::r} r9 g (n+1) (by omega) (by omega) (by have:=Ro ha;omega) hwr hsr ho';have hc:=JH hwr hsr ho' t2 fun s hs=>(t3 s).1 hs;refine⟨T,?_,by omega,fun t=>?_⟩
    ·unfold Q3;rw[hg,t1];rfl
    rw[t3,e9,hg]) (fun u t hu ht=>ht.res hwr (ho.next (hu.res (hw.arg hq) ho)))
  rw[h1];refine⟨R,rfl,fun s=>(h2 s).trans ?_⟩;rw[Sm.i1c h0 ha]
  constructor
  ·rintro⟨u,t,a,b,c⟩;exact⟨L8 u,L8 t,a,b,c⟩
  rintro⟨u,t,a,b,c⟩;exact⟨u.map Ov,t.map Ov,by rw[Y1];exact a,by simp only[Y1];exact b,by rw[Y1,Y1];exact c⟩
end
end
end Go.Ab
