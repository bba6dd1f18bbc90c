/- GTV6 GTV7 GTW0 GTW1 GTW2 GTW3 GTW4 GTW5 GTW6 -/
import Derived.Test.YtanbgjgaafeplaaGreatDoorC17
set_option linter.all false
open List (any_cons append_nil countP_append)
open Go.Ab.Ar (ar cmp)
namespace Go.Ab
noncomputable section
theorem Lk (N:Nat){k:Int}(h0:0≤k)(h5:k≤5)(v:A6):V7 N k v=some (decide (v.Kind=0∨(k≠1∧k≠2∧k≠3))):=by
 unfold V7;simp only[G7,B9,Option.some.injEq]
 have h:k=0∨k=1∨k=2∨k=3∨k=4∨k=5:=by omega
 by_cases hz:v.Kind=0<;>rcases h with rfl|rfl|rfl|rfl|rfl|rfl<;>simp[hz]
theorem Ok (N:Nat) {k:Int} (h0:0≤k) (h5:k≤5) (v:A6):Ak N k v=some (M1 k v):=by
 unfold Ak M1;rw[Id];simp only[Option.bind_some]
 by_cases h:I3 v=0
 ·rw[if_neg (J1 h),if_neg (show¬I3 v≠0 by simpa using h),Lk N h0 h5];simp only[Option.bind_some]
  by_cases h2:v.Kind=0∨(k≠1∧k≠2∧k≠3)
  ·rw[if_neg (by rw[M6,decide_eq_true h2];decide),if_pos h2]
  rw[if_pos (by rw[M6,decide_eq_false h2];rfl),if_neg h2]
 rw[if_pos (J9 h),if_pos h]
theorem Ro (N:Nat)(k:Int)(a b:A6):BR N k a b=some (IJ k a b):=by
 unfold BR IJ;simp only[B9,decide_eq_true_eq]
 repeat (split;rfl)
 rfl
theorem Rg (N:Nat)(k:Int):Ex N k=some (decide (0≤k)&&decide (k≤5)):=rfl
theorem JT {N:Nat} {k:Int} (h0:0≤k) (h5:k≤5) {l:List A6} (hl:l.length≤4096) (hv:∀v∈l,M1 k v=0):Cm N (O1 k l)=some 0:=by
 unfold Cm;rw[Rg];simp only[Option.bind_some]
 have e1:¬(Ar.nt (decide (0≤(O1 k l).Kind)&&decide ((O1 k l).Kind≤5))=true):=by
  show¬((!(decide (0≤k)&&decide (k≤5)))=true)
  simp;omega
 have e2:¬(Ar.or (cmp .lss (O1 k l).Count 0) (cmp .gtr (O1 k l).Count 4096)=true):=by
  show¬((decide ((l.length:Int)<0)||decide (4096<(l.length:Int)))=true)
  simp;omega
 rw[if_neg e1,if_neg e2]
 by_cases hz:l=[]∨k=0
 ·have e3:Ar.or (cmp .eql (O1 k l).Count 0) (cmp .eql (O1 k l).Kind 0)=true:=by
   show(decide ((l.length:Int)=0)||decide (k=0))=true
   rcases hz with rfl|h
   ·rfl
   simp[h]
  have e4:(O1 k l).Value=X9:=by
   by_cases hn:l=[]
   ·subst hn;rfl
   exact(Ke _ rfl hn hl hv).c (hz.resolve_left hn)
  rw[if_pos e3,e4];exact if_neg (by simp[M6,M8,B9,Dr,X9])
 have hn:l≠[]:=fun h=>hz (.inl h);have hk:k≠0:=fun h=>hz (.inr h);have hlen:l.length≠0:=fun h=>hn (List.eq_nil_of_length_eq_zero h)
 have e3:¬(Ar.or (cmp .eql (O1 k l).Count 0) (cmp .eql (O1 k l).Kind 0)=true):=by
  show¬((decide ((l.length:Int)=0)||decide (k=0))=true)
  simp[hk,hn]
 rw[if_neg e3];have g:=Ke _ rfl hn hl hv
 by_cases k1:k=1
 ·rw[if_pos (show cmp .eql (O1 k l).Kind 1=true from decide_eq_true k1)];obtain⟨a,b,c,d⟩:=g.s k1;have ev:(O1 k l).Value=Af k l:=rfl;have ec:(O1 k l).Count=(l.length:Int):=rfl;have em:ar .mul .i64 (l.length:Int) 1099511627776=(l.length:Int)*1099511627776:=Bc (by omega) (by omega)
  have en:Ar.neg .i64 ((l.length:Int)*1099511627776)= - ((l.length:Int)*1099511627776):=by
   show IntKind.wrap .i64 (0 - (l.length:Int)*1099511627776)=_
   rw[Bc (by omega) (by omega)];omega
  rw[ev,ec,em,en];rw[if_neg];rw[show Ar.scmp .neq (Af k l).Text ⟨#[]⟩= !(Ar.scmp .eql (Af k l).Text ⟨#[]⟩)from rfl,Dr];simp only[G7,E5,C2,N8];rw[decide_eq_true a,decide_eq_true b,decide_eq_false (show¬(Af k l).Num< -((l.length:Int)*1099511627776) by omega),decide_eq_false (show¬(l.length:Int)*1099511627776<(Af k l).Num by omega)]
  decide
 rw[if_neg (show¬(cmp .eql (O1 k l).Kind 1=true)from(by show¬decide (k=1)=true;simpa using k1))]
 have hvb:I3 (Af k l)=0:=by
  by_cases h23:k=2∨k=3
  ·exact(g.m h23).1
  exact g.f (by omega)
 have hsu:(Af k l).Kind=0∨(k≠1∧k≠2∧k≠3):=by
  by_cases h23:k=2∨k=3
  ·exact .inl (g.m h23).2
  exact .inr (by omega)
 show((Y1 N (Af k l)).bind _)=_
 rw[Id,hvb];simp only[Option.bind_some];rw[if_neg (show¬(cmp .neq 0 0=true) by decide)]
 show((V7 N k (Af k l)).bind _)=_
 rw[Lk N h0 h5,decide_eq_true hsu];rfl
theorem Aa9 {N:Nat} {k:Int} (h0:0≤k) (h5:k≤5) {l:List A6} (hl:l.length<4096) (hv:∀v∈l,M1 k v=0) (v:A6):
 ∃z,Cn N (O1 k l) v=some (if M1 k v=0 then(O1 k (l++[v]),0)else(z,M1 k v)):=by
 refine⟨⟨0,0,X9⟩,?_⟩;unfold Cn;rw[JT h0 h5 (by omega) hv];simp only[Option.bind_some];rw[if_neg (show¬(cmp .neq 0 0=true) by decide)]
 show((Ak N k v).bind _)=_
 rw[Ok N h0 h5];simp only[Option.bind_some]
 by_cases hw:M1 k v=0
 ·rw[if_neg (J1 hw),if_pos hw];have ec:(O1 k l).Count=(l.length:Int):=rfl;have ek:(O1 k l).Kind=k:=rfl;have ev:(O1 k l).Value=Af k l:=rfl
  have ea:O1 k (l++[v])=⟨k,(l.length:Int)+1,if l=[]then BQ k v else IJ k (Af k l) (BQ k v)⟩:=by
   unfold O1;rw[Ju];simp
  rw[ec,ek,ev,ea,C5 (a:=(l.length:Int)) (by omega) (by omega)];rw[if_neg (show¬(cmp .eql (l.length:Int) 4096=true) by rw[B9];simp;omega)]
  by_cases k0:k=0
  ·subst k0;rw[if_pos (show cmp .eql 0 0=true by rfl)]
   have:(if l=[]then BQ 0 v else IJ 0 (Af 0 l) (BQ 0 v))=X9:=by split<;>rfl
   rw[this];rfl
  rw[if_neg (show¬(cmp .eql k 0=true) by rw[B9];simpa using k0)];have es:BQ k v=v:=if_neg k0;rw[es]
  by_cases hn:l=[]
  ·subst hn;rw[if_neg (show¬(cmp .gtr (([]:List A6).length:Int) 0=true) by decide),if_pos rfl]
  have:0<l.length:=List.length_pos_iff.2 hn;rw[if_pos (show cmp .gtr (l.length:Int) 0=true from decide_eq_true (by omega)),Ro,if_neg hn];rfl
 rw[if_pos (J9 hw),if_neg hw];rfl
theorem Ll {N:Nat} {k:Int} (h0:0≤k) (h5:k≤5):∀(l p:List A6),p.length+l.length≤4096→(∀v∈p,M1 k v=0)→
 ∃z,H7 (fun(s:C1) v=>(Cn N s v).bind fun r=>if cmp .neq r.2 0=true then some (Sum.inr (Sum.inr (α:=C1) (r.2,s)))else some (.inl r.1)) l (O1 k p)=
  some (if Q6 (M1 k) l=0 then .inl (O1 k (p++l))else .inr (.inr (Q6 (M1 k) l,z)))
 |[],p,_,_=>⟨O1 k p,by simp[H7,Q6]⟩
 |v::l,p,hl,hp=>by
  simp only[List.length_cons]at hl
  obtain⟨z,hz⟩:=Aa9 (N:=N) h0 h5 (l:=p) (by omega) hp v;simp only[H7,hz,Option.bind_some,Q6]
  by_cases hw:M1 k v=0
  ·obtain⟨z',h'⟩:=Ll (N:=N) h0 h5 l (p++[v]) (by simp;omega) (by intro x hx;rcases List.mem_append.1 hx with h|h;exact hp x h;rw[List.mem_singleton.1 h];exact hw);refine⟨z',?_⟩;simp only[hw,if_true,if_neg (J1 (rfl:(0:Int)=0))];rw[h',List.append_assoc];rfl
  refine⟨O1 k p,?_⟩;simp only[hw,if_false,if_pos (J9 hw)]
theorem Aa8 {N:Nat} (hN:40000000≤N) (k:Int) (l:List A6) (o:A6):Ht N k l o=some (Zx k l o):=by
 unfold Ht Zx;rw[Rg];simp only[Option.bind_some]
 by_cases h0:k<0∨5<k
 ·rw[if_pos (by show(!(decide (0≤k)&&decide (k≤5)))=true;simp;omega),if_pos h0];rfl
 rw[if_neg (by show¬((!(decide (0≤k)&&decide (k≤5)))=true);simp;omega),if_neg h0]
 by_cases h1:4096<l.length
 ·rw[if_pos (Y4 (by rw[B1];omega)),if_pos h1];rfl
 rw[if_neg (U3 (by rw[B1];omega)),if_neg h1];rw[F6 l (by omega) (mk:=fun(s:C1) i=>(i,s)) (body:=fun(s:C1) v=>(Cn N s v).bind fun r=>if cmp .neq r.2 0=true then some (Sum.inr (Sum.inr (α:=C1) (r.2,s)))else some (.inl r.1)) (fin:=fun s=>.inl s) (s:=⟨k,0,⟨0,0,⟨#[]⟩⟩⟩) (by omega) ?_ ?_]
 ·obtain⟨z,hz⟩:=Ll (N:=N) (k:=k) (by omega) (by omega) l [] (by simpa using by omega) (by simp);rw[show(⟨k,0,⟨0,0,⟨#[]⟩⟩⟩:C1)=O1 k []from rfl,hz]
  by_cases h2:Q6 (M1 k) l=0
  ·rw[if_pos h2,if_neg (show¬Q6 (M1 k) l≠0 by simpa using h2)];have hv:=BB.1 h2;simp only[Option.bind_some,List.nil_append];unfold DR;rw[JT (by omega) (by omega) (by omega) hv];simp only[Option.bind_some];rw[if_neg (show¬(cmp .neq 0 0=true) by decide)]
   show((Ak N k o).bind _).bind _=_
   rw[Ok N (by omega) (by omega)];simp only[Option.bind_some]
   by_cases h3:M1 k o=0
   ·rw[if_neg (J1 h3),if_neg (show¬M1 k o≠0 by simpa using h3)]
    by_cases h4:k=0
    ·rw[if_pos (show cmp .eql (O1 k l).Kind 0=true from decide_eq_true h4),if_pos h4];rfl
    rw[if_neg (show¬(cmp .eql (O1 k l).Kind 0=true)from(by show¬decide (k=0)=true;simpa using h4)),if_neg h4]
    by_cases h5:l=[]∧k≠1
    ·rw[if_pos (show Ar.an (cmp .eql (O1 k l).Count 0) (cmp .neq (O1 k l).Kind 1)=true by show(decide ((l.length:Int)=0)&& !decide (k=1))=true;simp[h5.1,h5.2]),if_pos h5];rfl
    rw[if_neg (show¬(Ar.an (cmp .eql (O1 k l).Count 0) (cmp .neq (O1 k l).Kind 1)=true) by show¬((decide ((l.length:Int)=0)&& !decide (k=1))=true);simpa using h5),if_neg h5];rfl
   rw[if_pos (J9 h3),if_pos (show M1 k o≠0 from h3)];rfl
  rw[if_neg h2,if_pos (show Q6 (M1 k) l≠0 from h2)];rfl
 ·intro s i a ha hi;have e:ar .add .i64 (i:Int) 1=i+1:=C5 (by omega) (by omega);simp only[C2,B1,hi,decide_true,if_true,C6,ha,Option.bind_some,e]
  cases Cn N s a with
  |none=>rfl
  |some r=>simp only[Option.bind_some];split<;>rfl
 intro s;simp[C2,B1]
end
end Go.Ab
namespace Go.Ab
noncomputable section
theorem MC (N:Nat)(b:Bool):P0 N b=some (IG b):=by unfold P0 IG;cases b<;>rfl
theorem Px (N:Nat)(env:AE)(v:Int):Ap N env v=some (FD env v):=by
 unfold Ap FD
 by_cases h:v<0∨(env.cZ.length:Int)≤v
 ·rw[if_pos (by simp only[G7,C2,K9,B1];simpa using h),if_pos h]
 rw[if_neg (by simp only[G7,C2,K9,B1];simpa using h),if_neg h]
 have hi:v.toNat<env.cZ.length:=by omega
 have hv:v=(v.toNat:Int):=by omega
 rw[hv,C6];simp only[List.getD_eq_getElem?_getD,Int.toNat_natCast,List.getElem?_eq_getElem hi,Option.bind_some,Option.getD_some]
theorem Sb {l:List A6}{k:Int}(h0:0≤k)(h1:k<l.length):B6 l k=some (l.getD k.toNat X9):=by
 obtain⟨i,rfl⟩:=Int.eq_ofNat_of_zero_le h0
 have hi:i<l.length:=by omega
 rw[C6];simp[List.getD_eq_getElem?_getD,List.getElem?_eq_getElem hi]
theorem XY (N:Nat) {env:AE} (he:GR env) (v own:Int) (ev:A4):Ev N env v own ev=some (match Jo (FD env v) own ev v with|some y=>(y,true)|none=>(⟨0,0,0,0,[]⟩,false)):=by
 have hl:=Me he v;unfold Ev Jo
 by_cases hv:v=own
 ·rw[if_pos (by rw[B9];exact decide_eq_true hv),if_neg (by simpa using hv)]
 rw[if_neg (by rw[B9];simpa using hv),if_pos hv,Px];simp only[Option.bind_some]
 generalize FD env v=rows at hl
 rcases List.eq_nil_or_concat rows with rfl|⟨q,y,rfl⟩
 ·rfl
 rw[List.concat_eq_append]at *
 have e1:ar .sub .i64 (Ar.len (q++[y])) 1=(q.length:Int):=by
  have:ar .sub .i64 (Ar.len (q++[y])) 1=Ar.len (q++[y]) - 1:=Bc (by rw[B1];omega) (by rw[B1];omega);rw[this,B1];simp
 rw[if_neg (by rw[B9,B1];simp;omega),e1,C6];simp
theorem XX {N:Nat} (hN:40000000≤N) {env:AE} (he:GR env) (own:Int) (ev:A4) {x:B0} (hx:Z6 x=0) (ha:x.cR=[]):Eu N x env own ev=some (FV env own ev x):=by
 have hok:=Ai6 hx
 have hop:0≤x.Op∧x.Op<5:=by
  have:=Iw hx
  rw[ha]at this
  simp only[List.length_nil]at this
  obtain⟨h1,h2,h3⟩:=this
  by_cases h5:x.Op<5
  ·exact⟨h1,h5⟩
  rw[if_neg h5]at h3
  split at h3<;>omega
 have hl:=Me he x.Var;unfold Eu FV
 by_cases h0:x.Op=0
 ·rw[if_pos (by rw[B9];exact decide_eq_true h0),if_pos h0]
 rw[if_neg (by rw[B9];simpa using h0),if_neg h0]
 by_cases h3:x.Op=3
 ·rw[if_pos (by rw[B9];exact decide_eq_true h3),if_pos h3,Px];rfl
 rw[if_neg (by rw[B9];simpa using h3),if_neg h3]
 by_cases h4:x.Op=4
 ·have hf:=(hok.1 (.inr h4)).1;rw[if_pos (by rw[B9];exact decide_eq_true h4),if_pos h4,Px];simp only[Option.bind_some];unfold Pf
  generalize FD env x.Var=rows at hl
  rw[F6 rows (by omega) (mk:=fun(s:List A6) i=>(s,i)) (body:=fun s e=>if cmp .geq x.Field (Ar.len e.Values)=true then some (.inr (.inr ()))else(B6 e.Values x.Field).bind fun v=>(H9 s [v]).bind fun l=>some (.inl l)) (fin:=fun s=>.inl s) (s:=[]) (by omega) ?_ ?_]
  ·rw[Jc (p:=fun e=>decide (x.Field<(e.Values.length:Int))) (g:=fun e=>e.Values.getD x.Field.toNat X9) (r:=.inr ()) (by simp;omega) (fun s e _ hs=>by
    by_cases h:(e.Values.length:Int)≤x.Field
    ·rw[if_pos (by rw[K9,B1];exact decide_eq_true h),if_neg (by simpa using h)]
    rw[if_neg (by rw[K9,B1];simpa using h),if_pos (by simpa using h),Sb hf (by omega)];simp only[Option.bind_some]
    rw[M2 (by simp;omega)];rfl)]
   by_cases h:(rows.all fun e=>decide (x.Field<(e.Values.length:Int)))=true
   ·rw[if_pos h,if_pos h];simp only[Option.bind_some,List.nil_append];rw[Aa8 hN];rfl
   rw[if_neg h,if_neg h];rfl
  ·intro s i a ha hi;have e:ar .add .i64 (i:Int) 1=i+1:=C5 (by omega) (by omega);simp only[C2,B1,hi,decide_true,if_true,C6,ha,Option.bind_some,e]
   split
   ·rfl
   cases B6 a.Values x.Field with
   |none=>rfl
   |some v=>
    simp only[Option.bind_some];cases H9 s [v]<;>rfl
  intro s;simp[C2,B1]
 rw[if_neg (by rw[B9];simpa using h4),if_neg h4,XY N he];simp only[Option.bind_some]
 cases hy:Jo (FD env x.Var) own ev x.Var with
 |none=>rfl
 |some y=>
  simp only[M6,Bool.not_true,Bool.false_eq_true,if_false];unfold Ye
  by_cases h2:x.Op=2
  ·rw[if_pos (by rw[B9];exact decide_eq_true h2),if_pos h2]
  rw[if_neg (by rw[B9];simpa using h2),if_neg h2]
  have h1:x.Op=1:=by omega
  have hf:=(hok.1 (.inl h1)).1;unfold EJ
  by_cases hb:(y.Values.length:Int)≤x.Field
  ·rw[if_pos (by rw[K9,B1];exact decide_eq_true hb),if_pos hb];rfl
  rw[if_neg (by rw[K9,B1];simpa using hb),if_neg hb,Sb hf (by omega)];simp only[Option.bind_some];rw[Id];simp only[Option.bind_some];rw[if_neg (show¬((0:Int)≠0) by simp)]
  by_cases hc:I3 (y.Values.getD x.Field.toNat X9)=0
  ·rw[if_neg (J1 hc),if_neg (show¬I3 (y.Values.getD x.Field.toNat X9)≠0 by simpa using hc)]
  rw[if_pos (J9 hc),if_pos hc];rfl
theorem Aa5 (N:Nat)(op:Int):Bg N op=some (if op=5∨op=6∨op=7∨op=8 then 0 else if op=10∨op=11∨op=12 then 1 else -1):=by
 unfold Bg;simp only[B9,decide_eq_true_eq]
 by_cases h5:op=5
 ·simp[h5]
 by_cases h6:op=6
 ·simp[h6]
 by_cases h7:op=7
 ·simp[h7]
 by_cases h8:op=8
 ·simp[h8]
 simp only[h5,h6,h7,h8,if_false,Option.bind_some,decide_false,Bool.false_eq_true,or_self,false_or]
 by_cases h10:op=10
 ·simp[h10]
 by_cases h11:op=11
 ·simp[h11]
 by_cases h12:op=12
 ·simp[h12]
 simp[h10,h11,h12]
theorem Pw {N:Nat} (hN:40000000≤N) (op:Int) {kinds:List Int} (hl:kinds.length<1000000):Bf N op kinds=some (GS op kinds):=by
 unfold Bf GS;rw[F6 kinds (by omega) (mk:=fun(_:Unit) i=>i) (body:=fun _ k=>some (if GB op kinds k=true then .inl ()else .inr (.inr ()))) (fin:=fun _=>.inl ()) (s:=()) (by omega) ?_ ?_]
 ·rw[Jd (p:=GB op kinds) (r:=.inr ()) fun x _=>rfl]
  by_cases h:kinds.all (GB op kinds)=true
  ·rw[if_pos h,if_pos h];rfl
  rw[if_neg h,if_neg h];rfl
 ·intro s i k hk hi;have e:ar .add .i64 (i:Int) 1=i+1:=C5 (by omega) (by omega)
  have h0:B6 kinds 0=some (kinds.getD 0 0):=by
   have:B6 kinds 0=kinds[0]? :=C6 (i:=0);rw[this,List.getD_eq_getElem?_getD,List.getElem?_eq_getElem (by omega)];rfl
  simp only[C2,B1,hi,decide_true,if_true,C6,hk,Option.bind_some,e,B9,h0,M6,Aa5,E5,K9];unfold GB
  by_cases a5:op=5
  ·subst a5;by_cases hz:k=0<;>simp[hz]
  by_cases a6:op=6
  ·subst a6;by_cases hz:k=0<;>simp[hz]
  by_cases a7:op=7
  ·subst a7;by_cases hz:k=0<;>simp[hz]
  by_cases a8:op=8
  ·subst a8;by_cases hz:k=0<;>simp[hz]
  by_cases a10:op=10
  ·subst a10;by_cases hz:k=1<;>simp[hz]
  by_cases a11:op=11
  ·subst a11;by_cases hz:k=1<;>simp[hz]
  by_cases a12:op=12
  ·subst a12;by_cases hz:k=1<;>simp[hz]
  by_cases a9:op=9
  ·subst a9;generalize kinds.getD 0 0=z
   by_cases hz:k=z<;>simp[hz]
  simp[a5,a6,a7,a8,a9,a10,a11,a12]
 intro s;simp[C2,B1]
theorem Ty {N:Nat} (hN:40000000≤N) {env:AE} (he:GR env) (own:Int) (ev:A4):∀(n:Nat) (x:B0),x.dep≤n→x.bulk≤16777216→(∀y∈x.pre,Z6 y=0)→Ao N n x env own ev=some (Fj (FV env own ev) x):=by
 intro n
 induction n with
 |zero=>intro x h;rw[B0.dep_eq]at h;omega
 | succ n ih=>
  intro x hd hb hbad;have hx:=hbad x (by rw[B0.pre_eq];simp);have hd':=B0.dep_eq x;unfold Ao;rw[So]
  by_cases h0:x.cR.length=0
  ·rw[if_pos (by rw[B9,B1];exact decide_eq_true (by omega)),if_pos h0,XX hN he own ev hx (List.eq_nil_of_length_eq_zero h0)];rfl
  rw[if_neg (by rw[B9,B1];simpa using(show¬(x.cR.length:Int)=0 by omega)),if_neg h0];obtain⟨a1,a2,a3⟩:=Iw hx
  have hlen:x.cR.length≤2:=by
   split at a3
   ·omega
   split at a3<;>omega
  have hop5:5≤x.Op:=by
   by_cases h5:x.Op<5
   ·rw[if_pos h5]at a3;omega
   omega
  have hF:∀a∈x.cR,Ao N n a env own ev=some (Fj (FV env own ev) a):=fun a ha=>ih a (by have:=Ns ha;omega) (by have:=Z0 ha;omega) fun y hy=>hbad y (by rw[B0.pre_eq];exact List.mem_cons_of_mem _ (KX ha hy));rw[F6 x.cR (by omega) (mk:=fun(s:List A6×List Int) i=>(s.1,s.2,i)) (body:=fun(s:List A6×List Int) a=>(Ao N n a env own ev).bind fun r8=>if cmp .neq r8.2 0=true then some (.inr (.inr r8.2))else(H9 s.1 [r8.1]).bind fun l9=>(H9 s.2 [r8.1.Kind]).bind fun l12=>some (.inl (l9,l12))) (fin:=fun s=>.inl s) (s:=([],[])) (by omega) ?_ ?_]
  ·rw [Hx (R:=FV env own ev) rfl (by simp;omega) hF]
   cases hq:Dd (FV env own ev) x.cR with
   |inr f=>rfl
   | inl q=>
    simp only[Option.bind_some,List.nil_append];have hql:=Jw hq;rw[Pw hN _ (by simp;omega)];simp only[Option.bind_some]
    by_cases hz:GS x.Op (q.map (·.Kind))=0
    ·rw[if_neg (J1 hz),if_neg (show¬GS x.Op (q.map (·.Kind))≠0 by simpa using hz)]
     have hi0:B6 q 0=some (q.getD 0 X9):=by
      have:B6 q 0=q[0]? :=C6 (i:=0);rw[this,HR (by omega)]
     unfold Fb
     by_cases h12:x.Op=12
     ·have e1:q.length - 1=0:=by rw[if_neg (by omega),if_pos h12]at a3;omega
      rw[h12];simp only[B9,hi0,Option.bind_some,MC,E5];rfl
     have h2:q.length=2:=by rw[if_neg (by omega),if_neg h12]at a3;omega
     have hi1:B6 q 1=some (q.getD 1 X9):=by
      have:B6 q 1=q[1]? :=C6 (i:=1);rw[this,HR (by omega)]
     have e1:q.length - 1=1:=by omega
     unfold Ql;rw[e1];simp only[B9,hi0,hi1,Option.bind_some,MC,E5,C2,CJ];generalize q.getD 0 X9=v;generalize q.getD 1 X9=w
     have hop:x.Op=5∨x.Op=6∨x.Op=7∨x.Op=8∨x.Op=9∨x.Op=10∨x.Op=11:=by omega
     rcases hop with h|h|h|h|h|h|h
     ·simp[h]
     ·simp[h]
     ·simp[h]
     ·simp[h]
     ·simp only[h];have:=Tc v w
      simp only[B9]at this
      rw[this];simp
     ·simp only[h]
      by_cases hv:v.Num=1<;>simp[hv]
     simp only[h]
     by_cases hv:v.Num=1<;>simp[hv]
    rw[if_pos (J9 hz),if_pos hz];rfl
  ·intro s i a ha hi;have e:ar .add .i64 (i:Int) 1=i+1:=C5 (by omega) (by omega);simp only[C2,B1,hi,decide_true,if_true,C6,ha,Option.bind_some,e]
   cases Ao N n a env own ev with
   |none=>rfl
   | some r=>
    simp only[Option.bind_some]
    split
    ·rfl
    cases H9 s.1 [r.1]with
    |none=>rfl
    |some l=>
     simp only[Option.bind_some];cases H9 s.2 [r.1.Kind]<;>rfl
  intro s;simp[C2,B1]
theorem Ya {N:Nat}(hN:40000000≤N){env:AE}(he:GR env)(own:Int)(ev:A4){x:B0}(hb:x.bulk≤16777216):Ew N x env own ev=some (Lt env own ev x):=by
 unfold Ew Lt;rw[Nz hN hb];simp only[Option.bind_some]
 by_cases h:K8 x=0
 ·rw[if_neg (J1 h),if_pos h];have hd:=JA x;rw[Ty hN he own ev N x (by omega) hb (IH h)];rfl
 rw[if_pos (J9 h),if_neg h];rfl
theorem KK {N:Nat}(hN:40000000≤N){env:AE}(he:GR env)(own:Int)(ev:A4){x:B0}(hb:x.bulk≤16777216):Bh N x env own ev=some (Z7 env own ev x):=by
 unfold Bh Z7;rw[Ya hN he own ev hb];simp only[Option.bind_some];rw[B9]
 by_cases h:(Lt env own ev x).2=0
 ·rw[if_pos (decide_eq_true h),MC];simp only[Option.bind_some,decide_eq_true h,Bool.true_and];rw[Tc];exact congrArg some (decide_eq_decide.2 Iff.rfl)
 rw[if_neg (by simpa using h),decide_eq_false h];rfl
end
end Go.Ab
namespace Go.Ab
open Classical
noncomputable section
abbrev BD :=A1
abbrev PR :=A2
def pr (b:BD):PR:=⟨b.cX,b.at_⟩
def JO (b:PR):BD:=⟨b.Var,b.At⟩
theorem Ab3 (b:PR):pr (JO b)=b:=rfl
theorem UB (b:BD):JO (pr b)=b:=rfl
abbrev H8 (s:List BD):List PR:=s.map pr
theorem P9 (s:List PR):H8 (s.map JO)=s:=by rw[H8,List.map_map];exact(List.map_congr_left fun x _=>Ab3 x).trans (List.map_id s)
theorem Ak8 {a b:BD}(h:pr a=pr b):a=b:=by have:=congrArg JO h;simpa[UB]using this
theorem Ik {a b:List BD}(h:H8 a=H8 b):a=b:=(List.map_inj_right (fun _ _ h=>Ak8 h)).1 h
def mrg :List PR→List PR→List PR
 |[],b=>b
 |x::a,[]=>x::a
 |x::a,y::b=>if x.At<y.At then x::mrg a (y::b)else y::mrg (x::a) b
 termination_by a b=>a.length+b.length
theorem DW (b:List PR):mrg [] b=b:=by unfold mrg;rfl
theorem HF (a:List PR):mrg a []=a:=by cases a<;>(unfold mrg;rfl)
theorem HG (x y:PR)(a b:List PR):mrg (x::a) (y::b)=if x.At<y.At then x::mrg a (y::b)else y::mrg (x::a) b:=by rw[mrg]
theorem HE :∀(n:Nat) (a b:List PR),a.length+b.length≤n→(mrg a b).Perm (a++b)
 |_,[],b,_=>by rw[DW];exact .refl _
 |_,x::a,[],_=>by rw[HF];simp
 |0,x::a,y::b,h=>by simp at h
 |n+1,x::a,y::b,h=>by
  simp only[List.length_cons]at h
  rw[HG]
  split
  ·exact(HE n a (y::b) (by simp;omega)).cons x
  exact((HE n (x::a) b (by simp;omega)).cons y).trans (List.perm_middle.symm)
theorem Y3 {a b:List PR}{x:PR}:x∈mrg a b↔x∈a∨x∈b:=by rw[(HE _ a b (Nat.le_refl _)).mem_iff,List.mem_append]
theorem PI (a b:List PR):(mrg a b).length=a.length+b.length:=by rw[(HE _ a b (Nat.le_refl _)).length_eq,List.length_append]
def Xn (a:List PR):Prop:=a.Pairwise fun x y=>x.At<y.At
def Cv (a b:List PR):Prop:=∀x∈a,∀y∈b,x.At≠y.At
theorem LY :∀(n:Nat) {a b:List PR},a.length+b.length≤n→Xn a→Xn b→Cv a b→Xn (mrg a b)
 |_,[],b,_,_,hb,_=>by rw[DW];exact hb
 |_,x::a,[],_,ha,_,_=>by rw[HF];exact ha
 |0,x::a,y::b,h,_,_,_=>by simp at h
 | n+1,x::a,y::b,h,ha,hb,hd=>by
  simp only[List.length_cons]at h
  unfold Xn at ha hb
  rw[List.pairwise_cons]at ha hb
  rw[HG];have hxy:=hd x (by simp) y (by simp)
  split
  ·rename_i hlt;refine List.pairwise_cons.2 ⟨fun z hz=>?_,LY n (by simp;omega) ha.2 (List.pairwise_cons.2 hb) fun u hu v hv=>hd u (by simp[hu]) v hv⟩
   rcases Y3.1 hz with hz|hz
   ·exact ha.1 z hz
   rcases List.mem_cons.1 hz with rfl|hz
   ·exact hlt
   have:=hb.1 z hz;omega
  rename_i hlt;refine List.pairwise_cons.2 ⟨fun z hz=>?_,LY n (by simp;omega) (List.pairwise_cons.2 ha) hb.2 fun u hu v hv=>hd u hu v (by simp[hv])⟩
  rcases Y3.1 hz with hz|hz
  ·rcases List.mem_cons.1 hz with rfl|hz
   ·omega
   have:=ha.1 z hz;omega
  exact hb.1 z hz
theorem CR {α:Type}(x:α)(l:List α):J5 (x::l) (some 1) none none=some l:=by
 unfold J5;rw[if_pos (by simp;omega)];simp
theorem Pg {N:Nat}:∀(k:Nat) (a b out:List PR),a.length+b.length≤k→out.length+a.length+b.length≤1000000→∀n,k<n→loopN
 (fun (s1:(List A2)×(List A2)×(List A2))=>
  (
   if Ar.or (cmp .gtr (Ar.len s1.1) 0) (cmp .gtr (Ar.len s1.2.1) 0)=true then
    if cmp .eql (Ar.len s1.2.1) 0=true then
     ((
      (B6 s1.1 0).bind fun x85=>
      (H9 s1.2.2 ([x85])).bind fun l206=>
      (J5 s1.1 (some 1) none none).bind fun l285=>
      some (l285,l206)
     ):Option (((List A2)×(List A2)))).bind fun s4=>
     some (.inl (s4.1,s1.2.1,s4.2))
    else
     if cmp .gtr (Ar.len s1.1) 0=true then
      (B6 s1.1 0).bind fun x446=>
      (B6 s1.2.1 0).bind fun x447=>
      if cmp .lss x446.At x447.At=true then
       ((
        (B6 s1.1 0).bind fun x529=>
        (H9 s1.2.2 ([x529])).bind fun l650=>
        (J5 s1.1 (some 1) none none).bind fun l729=>
        some (l729,l650)
       ):Option (((List A2)×(List A2)))).bind fun s448=>
       some (.inl (s448.1,s1.2.1,s448.2))
      else
       ((
        (B6 s1.2.1 0).bind fun x971=>
        (H9 s1.2.2 ([x971])).bind fun l1092=>
        (J5 s1.2.1 (some 1) none none).bind fun l1171=>
        some (l1171,l1092)
       ):Option (((List A2)×(List A2)))).bind fun s890=>
       some (.inl (s1.1,s890.1,s890.2))
     else
      ((
       (B6 s1.2.1 0).bind fun x1413=>
       (H9 s1.2.2 ([x1413])).bind fun l1534=>
       (J5 s1.2.1 (some 1) none none).bind fun l1613=>
       some (l1613,l1534)
      ):Option (((List A2)×(List A2)))).bind fun s1332=>
      some (.inl (s1.1,s1332.1,s1332.2))
   else
    some (.inr s1.2.2)
   :Option (((List A2)×(List A2)×(List A2)) ⊕ (((List A2))))))
 n (a,b,out)=some (out++mrg a b):=by
 intro k;have h0:∀(x:PR) l,B6 (x::l) 0=some x:=fun x l=>rfl
 induction k with
 |zero=>
  intro a b out h _ n hn;obtain⟨n,rfl⟩:∃m,n=m+1:=⟨n - 1,by omega⟩
  cases a<;>cases b<;>simp at h
  simp[loopN,DW,B1,N8,G7]
 | succ k ih=>
  intro a b out h ho n hn;obtain⟨n,rfl⟩:∃m,n=m+1:=⟨n - 1,by omega⟩
  cases a with
  | nil=>
   cases b with
   |nil=>simp[loopN,DW,B1,N8,G7]
   |cons y b=>
    simp only[List.length_cons,List.length_nil]at h ho
    have:=ih [] b (out++[y]) (by simp;omega) (by simp;omega) n (by omega)
    rw[DW]at this ⊢
    unfold loopN;simp only[B1,N8,B9,G7,List.length_nil,List.length_cons,h0,Option.bind_some,CR];rw[if_pos (by simp<;>omega),if_neg (by simp<;>omega),if_neg (by simp),M2 (by simp<;>omega)];simp only[Option.bind_some]
    simp only[B1,N8,B9,G7]at this
    rw[this];simp
  | cons x a=>
   cases b with
   |nil=>
    simp only[List.length_cons,List.length_nil]at h ho
    have:=ih a [] (out++[x]) (by simp;omega) (by simp;omega) n (by omega)
    rw[HF]at this ⊢
    unfold loopN;simp only[B1,N8,B9,G7,List.length_nil,List.length_cons,h0,Option.bind_some,CR];rw[if_pos (by simp<;>omega),if_pos (by simp),M2 (by simp<;>omega)];simp only[Option.bind_some]
    simp only[B1,N8,B9,G7]at this
    rw[this];simp
   |cons y b=>
    simp only[List.length_cons]at h ho
    have h1:=ih a (y::b) (out++[x]) (by simp;omega) (by simp;omega) n (by omega);have h2:=ih (x::a) b (out++[y]) (by simp;omega) (by simp;omega) n (by omega);rw[HG];unfold loopN
    simp only[B1,N8,B9,C2,G7,List.length_cons,h0,Option.bind_some,CR]at h1 h2 ⊢
    rw[if_pos (by simp<;>omega),if_neg (by simp<;>omega),if_pos (by simp<;>omega),M2 (by simp<;>omega),M2 (by simp<;>omega)]
    by_cases hlt:x.At<y.At
    ·rw[if_pos (decide_eq_true hlt),if_pos hlt];simp only[Option.bind_some];rw[h1];simp
    rw[if_neg (by simpa using hlt),if_neg hlt];simp only[Option.bind_some];rw[h2];simp
theorem EX {N:Nat}(hN:40000000≤N){a b:List PR}(h:a.length+b.length≤1000000):G4 N a b=some (mrg a b):=by
 unfold G4;rw[Pg (N:=N) _ a b [] (Nat.le_refl _) (by simpa using h) N (by omega)];rfl
def InS (n:Int)(s:List PR):Prop:=∀x∈s,0≤x.At∧x.At<n
theorem Gn {a b:Int}(h0: -9223372036854775808≤a - b)(h1:a - b<9223372036854775808):ar .sub .i64 a b=a - b:=Bc h0 h1
theorem Mb {N:Nat} {a b:List BD} {n:Int} (hn:n≤1000000) (hla:a.length≤1000000) (hlb:b.length≤1000000) (ha:Xn (H8 a)) (hb:Xn (H8 b)) (hd:Cv (H8 a) (H8 b)) (ia:InS n (H8 a)) (ib:InS n (H8 b)):
 ∃c,L7 N a b=some c∧H8 c=mrg (H8 a) (H8 b):=by
 refine⟨(mrg (H8 a) (H8 b)).map JO,?_,P9 _⟩;unfold L7
 have h1:Va 0 (ar .add .i64 (Ar.len a) (Ar.len b)) (⟨0,0⟩:BD)=some []:=by
  rw[B1,B1,C5 (by omega) (by omega)];unfold Va;rw[if_pos (by omega)];rfl
 rw[h1];simp only[Option.bind_some];rw[M2 (by simp;omega)];simp only[Option.bind_some,List.nil_append];rw[M2 (by omega)];simp only[Option.bind_some];have hm:=LY _ (Nat.le_refl _) ha hb hd;have hin:∀x∈mrg (H8 a) (H8 b),0≤x.At∧x.At<n:=fun x hx=>(Y3.1 hx).elim (ia x) (ib x)
 have hs:GQ (fun y1 y2=>Br N y1 y2) (a++b)=some ((mrg (H8 a) (H8 b)).map JO):=by
  refine QR ?_ (Ci.2 ⟨?_,?_⟩) (by simp;omega)
  ·have:=(HE _ (H8 a) (H8 b) (Nat.le_refl _)).map JO;refine this.trans (List.Perm.of_eq ?_);rw[←List.map_append,List.map_map];exact(List.map_congr_left fun x _=>UB x).trans (List.map_id _)
  ·intro x _
   show(match some (ar .sub .i64 x.at_ x.at_)with|some c=>decide (0≤c)|none=>false)=true
   rw[Gn (by omega) (by omega)];simp
  rw[List.pairwise_map];refine List.Pairwise.imp_of_mem (fun{x y} hx hy hlt=>?_) hm;have:=hin x hx;have:=hin y hy
  constructor
  ·show(match some (ar .sub .i64 x.At y.At)with|some c=>decide (c<0)|none=>false)=true
   rw[Gn (by omega) (by omega)];simp;omega
  show(match some (ar .sub .i64 y.At x.At)with|some c=>decide (0≤c)|none=>false)=true
  rw[Gn (by omega) (by omega)];simp;omega
 rw[hs];rfl
def FY (s:List PR)(i:Int):Bool:=s.any fun x=>decide (x.At=i)
def CY (a b:List PR):Bool:=a.any fun x=>FY b x.At
theorem PV {s:List PR}{i:Int}:FY s i=true↔∃x∈s,x.At=i:=by simp[FY]
theorem KR {a b:List PR}:CY a b=false↔Cv a b:=by
 unfold CY Cv;rw[List.any_eq_false]
 constructor
 ·intro h x hx y hy e;exact h x hx (PV.2 ⟨y,hy,e.symm⟩)
 intro h x hx hc;obtain⟨y,hy,e⟩:=PV.1 hc;exact h x hx y hy e.symm
theorem M7 {α:Type}{l:List α}{i:Int}(h:i<l.length):cmp .lss i (Ar.len l)=true:=AS h
theorem P4 {α:Type}{l:List α}:¬cmp .lss (l.length:Int) (Ar.len l)=true:=X0 (Int.lt_irrefl _)
theorem Nc {α A B:Type} {N:Nat} {l:List α} (hl:l.length<N) (hN:l.length<1000000000) {step:Int→Option (Int ⊕ (A ⊕ B))} (P:α→Bool) (u:A) (r:Int→B)
 (hstep:∀(i:Nat) x,l[i]? =some x→(i:Int)<l.length→step i=some (if P x=true then .inr (.inr (r i))else .inl ((i:Int)+1)))
 (hend:step (l.length:Int)=some (.inr (.inl u))):∃i,loopN step N 0=some (if l.any P=true then .inr (r i)else .inl u)∧0≤i:=by
 have key:∀(k i n:Nat),i+k=l.length→k<n→∃j,loopN step n (i:Int)=some (if(l.drop i).any P=true then .inr (r j)else .inl u)∧0≤j:=by
  intro k
  induction k with
  |zero=>
   intro i n hi hn;obtain⟨n,rfl⟩:∃m,n=m+1:=⟨n - 1,by omega⟩;refine⟨0,?_,by omega⟩;rw[List.drop_eq_nil_of_le (by omega),show(i:Int)=l.length by omega];simp[loopN,hend]
  | succ k ih=>
   intro i n hi hn;obtain⟨n,rfl⟩:∃m,n=m+1:=⟨n - 1,by omega⟩
   have hlt:i<l.length:=by omega
   obtain⟨j,h,hj⟩:=ih (i+1) n (by omega) (by omega);rw[List.drop_eq_getElem_cons hlt,any_cons];have hs:=hstep i l[i] (by simp[hlt]) (by omega)
   by_cases hp:P l[i]=true
   ·refine⟨i,?_,by omega⟩
    rw[if_pos hp]at hs
    simp[loopN,hs,hp]
   refine⟨j,?_,hj⟩
   rw[if_neg hp]at hs
   simp only[loopN,hs];rw[show((i:Int)+1)=((i+1:Nat):Int) by omega,h];simp[hp]
 obtain⟨j,h,hj⟩:=key l.length 0 N (by omega) hl;exact⟨j,by simpa using h,hj⟩
theorem Cr {α:Type}{N:Nat}{l:List α}{step:Int→Option (Int ⊕ (Unit ⊕ Unit))}(P:α→Bool)(hl:l.length<N)(hN:l.length<1000000000)
 (hstep:∀(i:Nat) x,l[i]? =some x→(i:Int)<l.length→step i=some (if P x=true then .inr (.inr ())else .inl ((i:Int)+1)))
 (hend:step (l.length:Int)=some (.inr (.inl ()))):loopN step N 0=some (if l.any P=true then .inr ()else .inl ()):=by
 obtain⟨_,h,_⟩:=Nc hl hN P () (fun _=>()) hstep hend;exact h
theorem CZ {α S σ R:Type} {L:List α} {N:Nat} {step:S→Option (S ⊕ R)} (mk:σ→Int→S) (g:σ→α→σ) (fin:σ→R) (Inv:Nat→σ→Prop) {s0:σ} (hN:L.length<N) (hl:L.length<1000000000) (h0:Inv 0 s0)
 (hs:∀s (i:Nat) x,L[i]? =some x→(i:Int)<L.length→x∈L→ar .add .i64 (i:Int) 1=i+1→Inv i s→step (mk s i)=some (.inl (mk (g s x) ((i:Int)+1)))∧Inv (i+1) (g s x)) (he:∀s,step (mk s L.length)=some (.inr (fin s))):loopN step N (mk s0 0)=some (fin (L.foldl g s0))∧Inv L.length (L.foldl g s0):=by
 have key:∀(k i N:Nat) (s:σ),i+k=L.length→k<N→Inv i s→loopN step N (mk s (i:Int))=some (fin ((L.drop i).foldl g s))∧Inv L.length ((L.drop i).foldl g s):=by
  intro k
  induction k with
  |zero=>
   intro i N s hi hN ho;obtain⟨N,rfl⟩:∃m,N=m+1:=⟨N - 1,by omega⟩
   have e:i=L.length:=by omega
   subst e;rw[List.drop_length];exact⟨by simp[loopN,he],ho⟩
  |succ k ih=>
   intro i N s hi hN ho;obtain⟨N,rfl⟩:∃m,N=m+1:=⟨N - 1,by omega⟩
   have hlt:i<L.length:=by omega
   obtain⟨h1,h2⟩:=hs s i L[i] (by simp[hlt]) (by omega) (List.getElem_mem hlt) (C5 (by omega) (by omega)) ho;rw[List.drop_eq_getElem_cons hlt];simp only[loopN,h1];exact ih (i+1) N _ (by omega) (by omega) h2
 simpa using key L.length 0 N s0 (by omega) hN h0
theorem Kn {N:Nat} (hN:40000000≤N) {s:List BD} (hl:s.length≤1000000) {f:BD→Option Bool} {P:BD→Bool} (hf:∀x∈s,f x=some (P x)):G6 N s f=some (s.any P):=by
 unfold G6 O5
 obtain⟨j,h,hj⟩:=Nc (N:=N) (l:=s) (by omega) (by omega) (A:=Unit) (B:=Int) (step:=(fun(s1:Int)=>
  (
   if cmp .lss s1 (Ar.len s)=true then
    (B6 s s1).bind fun x3=>
    (f x3).bind fun r4=>
    if r4=true then
     some (.inr (.inr s1))
    else
     some (.inl (ar .add .i64 s1 1))
   else
    some (.inr (.inl ()))
   :Option ((Int) ⊕ (Unit ⊕ Int))))) P () (fun i=>i) (fun i x hx hi=>by
  have e:ar .add .i64 (i:Int) 1=i+1:=C5 (by omega) (by omega);simp only[C2,B1,hi,decide_true,if_true,C6,hx,Option.bind_some,e,hf x (List.mem_of_getElem? hx)]
  split<;>rfl) (by simp[C2,B1])
 rw[h]
 by_cases ha:s.any P=true
 ·rw[if_pos ha,ha];simp only[Option.bind_some,K9,decide_eq_true hj]
 rw[if_neg ha];simp only[Option.bind_some,K9]
 rw[Bool.not_eq_true]at ha
 rw[ha];rfl
theorem UH {N:Nat}(hN:40000000≤N){s:List BD}(hl:s.length≤1000000)(i:Int):S6 N s i=some (FY (H8 s) i):=by
 unfold S6;rw[Kn hN hl (f:=fun y1=>U0 N y1 i) (P:=fun x=>decide (x.at_=i)) fun x _=>rfl];simp only[Option.bind_some,FY,H8,List.any_map];rfl
theorem VI {N:Nat}(hN:40000000≤N){a b:List BD}(ha:a.length≤1000000)(hb:b.length≤1000000):Ax N a b=some (CY (H8 a) (H8 b)):=by
 unfold Ax;rw[Kn hN ha (P:=fun x=>FY (H8 b) x.at_) fun x _=>by unfold Y0;rw[UH hN hb];rfl];simp only[Option.bind_some,CY,H8,List.any_map];rfl
theorem UL {N:Nat} (hN:40000000≤N) {s:List PR} (hl:s.length≤1000000) (i:Int):Ec N s i=some (FY s i):=by
 unfold Ec
 rw [Cr (l:=s) (fun x=>decide (x.At=i)) (by omega) (by omega) (fun i x hx hi=>by
     have e:ar .add .i64 (i:Int) 1=i+1:=C5 (by omega) (by omega);simp only[C2,B1,hi,decide_true,if_true,C6,hx,Option.bind_some,e,B9]
     split<;>rfl) (by simp[C2,B1])]
 unfold FY
 by_cases ha:(s.any fun x=>decide (x.At=i))=true
 ·rw[if_pos ha,ha];rfl
 rw[if_neg ha]
 rw[Bool.not_eq_true]at ha
 rw[ha];rfl
theorem Wn {N:Nat} (hN:40000000≤N) {a b:List PR} (ha:a.length≤1000000) (hb:b.length≤1000000):Ck N a b=some (!CY a b):=by
 unfold Ck
 rw [Cr (l:=a) (fun x=>FY b x.At) (by omega) (by omega) (fun i x hx hi=>by
     have e:ar .add .i64 (i:Int) 1=i+1:=C5 (by omega) (by omega);simp only[C2,B1,hi,decide_true,if_true,C6,hx,Option.bind_some,e,UL hN hb]
     split<;>rfl) (by simp[C2,B1])]
 unfold CY
 by_cases ha:(a.any fun x=>FY b x.At)=true
 ·rw[if_pos ha,ha];rfl
 rw[if_neg ha]
 rw[Bool.not_eq_true]at ha
 rw[ha];rfl
def Sc (s:List PR):Int:=match s with|[]=>0|x::_=>x.At
def S5 (s:List PR):Int:=match s.getLast? with|none=>0|some x=>x.At
theorem EF {α:Type} {l:List α} (h:l≠[]) (hl:l.length≤1000000):B6 l (ar .sub .i64 (Ar.len l) 1)=l.getLast? :=by
 rcases List.eq_nil_or_concat l with rfl|⟨q,y,rfl⟩
 ·exact absurd rfl h
 rw[List.concat_eq_append]at *
 have e1:ar .sub .i64 (Ar.len (q++[y])) 1=(q.length:Int):=by
  have:ar .sub .i64 (Ar.len (q++[y])) 1=Ar.len (q++[y]) - 1:=Gn (by rw[B1];omega) (by rw[B1];omega);rw[this,B1];simp
 rw[e1,C6];simp
theorem Cs {s:List PR}(h:s≠[]):∃x,s.getLast? =some x∧x∈s∧S5 s=x.At:=by
 cases hs:s.getLast? with
 |none=>exact absurd (List.getLast?_eq_none_iff.1 hs) h
 |some x=>exact⟨x,rfl,List.mem_of_getLast? hs,by simp[S5,hs]⟩
theorem QU {N:Nat}{s:List BD}(h:s≠[])(hl:s.length≤1000000):L4 N s=some (S5 (H8 s)):=by
 unfold L4;rw[EF h hl];unfold S5;rw[H8,List.getLast?_map]
 cases hs:s.getLast? with
 |none=>exact absurd (List.getLast?_eq_none_iff.1 hs) h
 |some x=>rfl
theorem HN {α:Type}(x:α)(l:List α):B6 (x::l) 0=some x:=rfl
theorem NE {s:List PR}(ha:Xn s):∀x∈s,x.At≤S5 s:=by
 intro x hx
 rcases List.eq_nil_or_concat s with rfl|⟨q,y,rfl⟩
 ·cases hx
 rw[List.concat_eq_append]at *
 have e:S5 (q++[y])=y.At:=by simp[S5]
 rw[e]
 unfold Xn at ha
 rw[List.pairwise_append]at ha
 rcases List.mem_append.1 hx with h|h
 ·have:=ha.2.2 x h y (by simp);omega
 rw[List.mem_singleton.1 h];exact Int.le_refl _
theorem Vu :∀{s:List PR} {k:Int} {m:Nat},Xn s→(∀x∈s,k≤x.At∧x.At<k+m)→s.length≤m
 |[],_,_,_,_=>Nat.zero_le _
 |x::s,k,m,ha,h=>by
  unfold Xn at ha
  rw[List.pairwise_cons]at ha
  have hx:=h x (by simp);obtain⟨m,rfl⟩:∃q,m=q+1:=⟨m - 1,by omega⟩
  have:=Vu (s:=s) (k:=x.At+1) (m:=m) ha.2 fun y hy=>by have:=ha.1 y hy;have:=h y (by simp[hy]);omega
  simp;omega
end
end Go.Ab
namespace Go.Ab
open Classical
noncomputable section
def KM (l:List A4)(s:List PR)(b v:Int):List A4:=s.filterMap fun x=>if x.At<b∧x.Var=v then l[x.At.toNat]? else none
def Ge (l:List A4)(s:List PR)(b:Int):AE:=⟨(List.range 16).map fun(v:Nat)=>KM l s b (v:Int)⟩
def SP (l:List A4)(s:List PR):Prop:=∀x∈s,(0≤x.Var∧x.Var<16)∧(0≤x.At∧x.At<l.length)
theorem SP.ins {l:List A4}{s:List PR}(h:SP l s):InS l.length s:=fun x hx=>(h x hx).2
theorem Rf (l:List A4)(s:List PR)(b v:Int):(KM l s b v).length≤s.length:=List.length_filterMap_le ..
theorem Gc (l:List A4){s:List PR}(hs:s.length<1000000)(b:Int):GR (Ge l s b):=by
 constructor
 ·simp[Ge]
 intro r hr
 simp only[Ge,List.mem_map]at hr
 obtain⟨v,_,rfl⟩:=hr;have:=Rf l s b v;omega
theorem Om (l:List A4)(p:List PR)(x:PR)(b v:Int):KM l (p++[x]) b v=KM l p b v++(if x.At<b∧x.Var=v then(l[x.At.toNat]?).toList else[]):=by
 unfold KM;rw[List.filterMap_append]
 congr 1
 by_cases h:x.At<b∧x.Var=v
 ·simp only[List.filterMap_cons,List.filterMap_nil,if_pos h];cases l[x.At.toNat]? <;>rfl
 simp only[List.filterMap_cons,List.filterMap_nil,if_neg h]
theorem MH {α R:Type} (f:α→PR) (l:List A4) (b:Int) {s:List α} (hs:s.length≤1000000) (hw:SP l (s.map f)):
 H7 (R:=R) (fun rows x=>if cmp .lss (f x).At b=true then(B6 rows (f x).Var).bind fun x9=>(B6 l (f x).At).bind fun x14=>(H9 x9 [x14]).bind fun l15=>(Gm rows (f x).Var (fun _=>l15)).bind fun l13=>some (.inl l13)else some (.inl rows)) s (List.replicate 16 [])=
  some (.inl ((List.range 16).map fun(v:Nat)=>KM l (s.map f) b (v:Int))):=by
 obtain⟨s',h1,p,h2,h3⟩:=X6 (R:=R) (step:=fun rows x=>if cmp .lss (f x).At b=true then(B6 rows (f x).Var).bind fun x9=>(B6 l (f x).At).bind fun x14=>(H9 x9 [x14]).bind fun l15=>(Gm rows (f x).Var (fun _=>l15)).bind fun l13=>some (.inl l13)else some (.inl rows))
  (fun r rows=>∃p,p++r=s∧rows=(List.range 16).map fun(v:Nat)=>KM l (p.map f) b (v:Int)) (fun x r rows ⟨p,e1,e2⟩=>by
   subst e2
   have hx:x∈s:=by rw[←e1];simp
   obtain⟨⟨v0,v1⟩,a0,a1⟩:=hw (f x) (List.mem_map.2 ⟨x,hx,rfl⟩)
   have hpl:p.length≤1000000:=by have:=congrArg List.length e1;simp at this;omega
   by_cases hb:(f x).At<b
   ·rw[if_pos (by rw[C2];exact decide_eq_true hb)]
    generalize hv:(f x).Var=vv at *
    generalize ha:(f x).At=aa at *
    obtain⟨v,rfl⟩:=Int.eq_ofNat_of_zero_le v0;obtain⟨a,rfl⟩:=Int.eq_ofNat_of_zero_le a0
    have hva:v<16:=by omega
    have haa:a<l.length:=by omega
    have e1':B6 ((List.range 16).map fun(v:Nat)=>KM l (p.map f) b (v:Int)) (v:Int)=some (KM l (p.map f) b v):=by
     rw[C6];simp[hva]
    have e2':B6 l (a:Int)=some l[a]:=by rw[C6];simp[haa]
    have hpl':=Rf l (p.map f) b v;simp only[e1',e2',Option.bind_some];rw[M2 (by simp at hpl' ⊢;omega)];simp only[Option.bind_some];refine⟨_,by unfold Gm;rw[e1'];rfl,p++[x],by simpa using e1,?_⟩;apply List.ext_getElem?;intro j;rw[List.getElem?_set]
    by_cases hj:j<16
    ·simp only[List.getElem?_map,List.getElem?_range hj,List.map_append,List.map_cons,List.map_nil,Om,hv,ha,Int.toNat_natCast,List.length_map,List.length_range,Option.map_some]
     by_cases hjv:v=j
     ·subst hjv;simp[hb,hj,haa]
     have:¬((v:Int)=(j:Int)):=by omega
     simp[hjv,this]
    have:¬(v=j):=by omega
    simp[hj,this]
   rw[if_neg (by rw[C2];simpa using hb)];refine⟨_,rfl,p++[x],by simpa using e1,?_⟩;apply List.map_congr_left;intro v _
   rw[List.map_append,List.map_cons,List.map_nil,Om,if_neg (by omega),append_nil]) (l:=s) (s:=List.replicate 16 []) ⟨[],rfl,by simp[KM];rfl⟩
 rw[h1]
 rw[append_nil]at h2
 rw[h3,h2]
theorem UI {N:Nat} (hN:40000000≤N) {l:List A4} {s:List BD} (hs:s.length≤1000000) (hw:SP l (H8 s)) (f:Bool) (b:Int):P8 N ⟨l,f⟩ s b=some (Ge l (H8 s) b):=by
 unfold P8;have h1:Va 16 16 ([]:List A4)=some (List.replicate 16 []):=rfl;rw[h1];simp only[Option.bind_some];rw[F6 s (by omega) (mk:=fun(rows:List (List A4)) i=>(i,rows)) (body:=fun rows x=>if cmp .lss (pr x).At b=true then(B6 rows (pr x).Var).bind fun x9=>(B6 l (pr x).At).bind fun x14=>(H9 x9 [x14]).bind fun l15=>(Gm rows (pr x).Var (fun _=>l15)).bind fun l13=>some (.inl l13)else some (.inl rows)) (fin:=fun s=>s) (s:=List.replicate 16 []) (by omega) ?_ ?_]
 ·rw[MH pr l b hs hw];rfl
 ·intro rows i x hx hi;have e:ar .add .i64 (i:Int) 1=i+1:=C5 (by omega) (by omega);simp only[C2,B1,hi,decide_true,if_true,C6,hx,Option.bind_some,e]
  show(if decide (x.at_<b)=true then _ else _)=Option.bind (if decide (x.at_<b)=true then _ else _) _
  by_cases hb:x.at_<b
  ·rw [if_pos (decide_eq_true hb),if_pos (decide_eq_true hb)]
   show((B6 rows x.cX).bind _)=((B6 rows x.cX).bind _).bind _
   cases B6 rows x.cX with
   |none=>rfl
   | some r=>
    simp only[Option.bind_some]
    show((B6 l x.at_).bind _)=((B6 l x.at_).bind _).bind _
    cases B6 l x.at_ with
    |none=>rfl
    | some y=>
     simp only[Option.bind_some]
     cases H9 r [y]with
     |none=>rfl
     |some q=>
      simp only[Option.bind_some]
      show((Gm rows x.cX _).bind _)=((Gm rows x.cX _).bind _).bind _
      cases Gm rows x.cX fun _=>q<;>rfl
  rw[if_neg (by simpa using hb),if_neg (by simpa using hb)];rfl
 intro s;simp[C2,B1]
theorem Py {N:Nat} (hN:40000000≤N) {l:List A4} {s:List PR} (hs:s.length≤1000000) (hw:SP l s) (b:Int):CT N l s b=some (Ge l s b):=by
 unfold CT;have h1:Va 16 16 ([]:List A4)=some (List.replicate 16 []):=rfl;rw[h1];simp only[Option.bind_some];rw[F6 s (by omega) (mk:=fun(rows:List (List A4)) i=>(i,rows)) (body:=fun rows x=>if cmp .lss x.At b=true then(B6 rows x.Var).bind fun x9=>(B6 l x.At).bind fun x14=>(H9 x9 [x14]).bind fun l15=>(Gm rows x.Var (fun _=>l15)).bind fun l13=>some (.inl l13)else some (.inl rows)) (fin:=fun s=>s) (s:=List.replicate 16 []) (by omega) ?_ ?_]
 ·have h:=MH (R:=List (List A4)) (fun x:PR=>x) l b hs (by simpa using hw);rw[h];simp only[Option.bind_some,List.map_id'];rfl
 ·intro rows i x hx hi;have e:ar .add .i64 (i:Int) 1=i+1:=C5 (by omega) (by omega);have c1:cmp .lss (i:Int) (s.length:Int)=true:=AS hi
  by_cases hb:x.At<b
  ·have c2:cmp .lss x.At b=true:=AS hb;simp only[c1,c2,B1,if_true,C6,hx,Option.bind_some,e]
   cases B6 rows x.Var with
   |none=>rfl
   | some r=>
    simp only[Option.bind_some]
    cases B6 l x.At with
    |none=>rfl
    | some y=>
     simp only[Option.bind_some]
     cases H9 r [y]with
     |none=>rfl
     |some q=>
      simp only[Option.bind_some];cases Gm rows x.Var fun _=>q<;>rfl
  have c2:cmp .lss x.At b=false:=by simpa using X0 hb
  simp only[c1,c2,B1,if_true,C6,hx,Option.bind_some,e,Bool.false_eq_true,if_false]
 intro s;simp[C2,B1]
theorem EP {l:List A4}{i:Nat}(h:i<l.length):B6 l (i:Int)=some l[i]:=by rw[C6];simp[h]
theorem JS {N:Nat}(hN:40000000≤N){l:List A4}{s:List BD}(hs:s.length<1000000)(hw:SP l (H8 s))(f:Bool){c:B0}(hc:c.bulk≤16777216)(own:Int){i:Nat}(hi:i<l.length):
 H6 N ⟨l,f⟩ c s own i=some (Z7 (Ge l (H8 s) i) own l[i] c):=by
 unfold H6;rw[UI hN (by omega) hw];simp only[Option.bind_some];rw[EP hi];simp only[Option.bind_some];rw[QJ hN (Gc l (by simpa using hs) _) own _ hc];rfl
def Td {β:Type}(T:Nat→Bool)(g:Nat→β):Nat→Nat→List β
 |0,_=>[]
 |k+1,i=>if T i=true then g i::Td T g k (i+1)else Td T g k (i+1)
theorem JN {β:Type}(T:Nat→Bool)(g:Nat→β)(k i:Nat):Td T g (k+1) i=if T i=true then g i::Td T g k (i+1)else Td T g k (i+1):=rfl
theorem LZ {β:Type} {T:Nat→Bool} {g:Nat→β} {x:β}:∀{k i:Nat},x∈Td T g k i↔∃j,i≤j∧j<i+k∧T j=true∧x=g j
 |0,i=>by simp[Td];intro j a b;omega
 | k+1,i=>by
  rw[JN];have ih:=LZ (T:=T) (g:=g) (x:=x) (k:=k) (i:=i+1)
  constructor
  ·intro h
   by_cases ht:T i=true
   ·rw[if_pos ht]at h
    rcases List.mem_cons.1 h with h|h
    ·exact⟨i,by omega,by omega,ht,h⟩
    obtain⟨j,a,b,c⟩:=ih.1 h;exact⟨j,by omega,by omega,c⟩
   rw[if_neg ht]at h
   obtain⟨j,a,b,c⟩:=ih.1 h;exact⟨j,by omega,by omega,c⟩
  rintro⟨j,a,b,c,d⟩
  by_cases hij:j=i
  ·subst hij;rw[if_pos c,d];simp
  have:=ih.2 ⟨j,by omega,by omega,c,d⟩
  split
  ·exact List.mem_cons_of_mem _ this
  exact this
theorem KP {β:Type} {T:Nat→Bool} {g:Nat→β} (hg:∀i j,g i=g j→i=j):∀{k i:Nat},(Td T g k i).Nodup
 |0,i=>by simp[Td]
 |k+1,i=>by
  rw[JN]
  split
  ·refine List.nodup_cons.2 ⟨fun h=>?_,KP hg⟩;obtain⟨j,a,b,c,d⟩:=LZ.1 h;have:=hg _ _ d;omega
  exact KP hg
theorem RW {β A:Type} {n:Nat} {step:Int→Option (List β×(Int ⊕ A))} {T:Nat→Bool} {g:Nat→β} {u:A} (hs:∀i,i<n→step (i:Int)=some (if T i=true then[g i]else[],.inl ((i:Int)+1))) (he:step (n:Int)=some ([],.inr u)):
 ∀(k i N:Nat),i+k=n→k<N→X1 step N (i:Int)=some (Td T g k i,u)
 |0,i,N,h,hN=>by
  obtain⟨N,rfl⟩:∃m,N=m+1:=⟨N - 1,by omega⟩;rw[show(i:Int)=n by omega];simp[X1,he,Td]
 |k+1,i,N,h,hN=>by
  obtain⟨N,rfl⟩:∃m,N=m+1:=⟨N - 1,by omega⟩;have ih:=RW hs he k (i+1) N (by omega) (by omega);simp only[X1,hs i (by omega)];rw[show((i:Int)+1)=((i+1:Nat):Int) by omega,ih];rw[JN]
  by_cases ht:T i=true<;>simp[ht]
theorem RV {β S:Type} {n:Nat} {mk:List β→Int→S} {step:S→Option (S ⊕ List β)} {T:Nat→Bool} {g:Nat→β} (hs:∀(out:List β) i,out.length≤n→i<n→step (mk out (i:Int))=some (.inl (mk (if T i=true then out++[g i]else out) ((i:Int)+1)))) (he:∀out:List β,step (mk out (n:Int))=some (.inr out)):
 ∀(k i N:Nat) (out:List β),i+k=n→k<N→out.length≤i→loopN step N (mk out (i:Int))=some (out++Td T g k i)
 |0,i,N,out,h,hN,_=>by
  obtain⟨N,rfl⟩:∃m,N=m+1:=⟨N - 1,by omega⟩;rw[show(i:Int)=n by omega];simp[loopN,he,Td]
 |k+1,i,N,out,h,hN,ho=>by
  obtain⟨N,rfl⟩:∃m,N=m+1:=⟨N - 1,by omega⟩;simp only[loopN,hs out i (by omega) (by omega)];rw[show((i:Int)+1)=((i+1:Nat):Int) by omega,RV hs he k (i+1) N _ (by omega) (by omega) (by by_cases ht:T i=true<;>simp[ht]<;>omega)];rw[JN]
  split<;>simp
end
end Go.Ab
namespace Go.Ab
open Classical
noncomputable section
theorem Jl {A:Type} {n:Nat} {step:Int→Option (Int ⊕ (A ⊕ Unit))} {P:Nat→Bool} {u:A} (m:Nat) (hs:∀i,m≤i→i<n→step (i:Int)=some (if P i=true then .inr (.inr ())else .inl ((i:Int)+1))) (he:∀i:Nat,n≤i→step (i:Int)=some (.inr (.inl u))):
 ∀(k i N:Nat),n≤i+k→m≤i→k<N→loopN step N (i:Int)=some (if(List.range' i (n - i)).any P=true then .inr ()else .inl u)
 |0,i,N,h,_,hN=>by
  obtain⟨N,rfl⟩:∃m,N=m+1:=⟨N - 1,by omega⟩;rw[show n - i=0 by omega];simp[loopN,he i (by omega)]
 | k+1,i,N,h,hm,hN=>by
  obtain⟨N,rfl⟩:∃m,N=m+1:=⟨N - 1,by omega⟩
  by_cases hi:i<n
  ·have ih:=Jl m hs he k (i+1) N (by omega) (by omega) (by omega);simp only[loopN,hs i hm hi];rw[show n - i=(n - (i+1))+1 by omega,List.range'_succ,any_cons]
   by_cases hp:P i=true
   ·simp[hp]
   rw[if_neg hp]
   dsimp only
   rw[show((i:Int)+1)=((i+1:Nat):Int) by omega,ih];simp[hp]
  rw[show n - i=0 by omega];simp[loopN,he i (by omega)]
def Li (l:List A4)(i:Int):Int:=match l[i.toNat]? with|some e=>e.Time|none=>0
def Fs (l:List A4)(p:A0)(b s:List PR)(i:Nat):Bool:=match l[i]? with|some e=>decide (e.Typ=p.Typ)&&(!FY s i)&&Z7 (Ge l (mrg b s) i) p.Var e p.cS|none=>false
def HW (l:List A4)(p:A0)(b s:List PR):Bool:= !((List.range l.length).any fun i=>decide (Sc s<(i:Int))&&decide ((i:Int)<S5 s)&&Fs l p b s i)
def keepsA (l:List A4)(p:A0)(b s:List PR):Bool:=
 if p.Op=6 then decide (ar .sub .i64 (Li l (S5 s)) (Li l (Sc s))≤p.Span)else if p.Op=7 then Z7 (Ge l (mrg b s) l.length) (-1) ⟨0,0,0,0,[]⟩ p.cS else HW l p b s
structure Gd (l:List A4) (s:List PR):Prop where
 wf:SP l s
 asc:Xn s
theorem Gd.len {l:List A4}{s:List PR}(h:Gd l s):s.length≤l.length:=Vu (k:=0) h.asc fun x hx=>by have:=(h.wf x hx).2;omega
theorem Gd.nil (l:List A4):Gd l []:=⟨fun _ h=>absurd h List.not_mem_nil,List.Pairwise.nil⟩
theorem Gd.mrg {l:List A4}{a b:List PR}(ha:Gd l a)(hb:Gd l b)(h:Cv a b):Gd l (mrg a b):=⟨fun x hx=>(Y3.1 hx).elim (ha.wf x) (hb.wf x),LY _ (Nat.le_refl _) ha.asc hb.asc h⟩
theorem Gd.lst {l:List A4}{s:List PR}(h:Gd l s)(hn:s≠[]):0≤S5 s∧S5 s<l.length:=by
 obtain⟨x,_,hx,e⟩:=Cs hn;rw[e];exact(h.wf x hx).2
theorem Gd.hd {l:List A4} {s:List PR} (h:Gd l s) (hn:s≠[]):0≤Sc s∧Sc s<l.length∧Sc s≤S5 s∧FY s (Sc s)=true:=by
 cases s with
 |nil=>exact absurd rfl hn
 |cons x s=>
  have:=(h.wf x (by simp)).2;exact⟨this.1,this.2,NE h.asc x (by simp),PV.2 ⟨x,by simp,rfl⟩⟩
theorem LO {l:List A4}{i:Int}(h0:0≤i)(h1:i<l.length):∃e,B6 l i=some e∧e.Time=Li l i:=by
 obtain⟨i,rfl⟩:=Int.eq_ofNat_of_zero_le h0
 have hi:i<l.length:=by omega
 exact⟨l[i],EP hi,by simp[Li,hi]⟩
theorem Am2 {s:List PR}(h:s≠[]):∃x,B6 s 0=some x∧x.At=Sc s:=by
 cases s with
 |nil=>exact absurd rfl h
 |cons x s=>exact⟨x,rfl,rfl⟩
theorem Ae0 {s:List BD}(h:s≠[]):∃x,B6 s 0=some x∧x.at_=Sc (H8 s):=by
 cases s with
 |nil=>exact absurd rfl h
 |cons x s=>exact⟨x,rfl,rfl⟩
theorem Ak7 {s:List BD}(h:s≠[]):H8 s≠[]:=fun e=>h (List.map_eq_nil_iff.1 e)
theorem OD {l:List A4} {p:A0} {b s:List PR} {a n:Nat} (h1:(a:Int)≤Sc s+1) (h2:Sc s≤(a:Int)) (hn:(n:Int)=S5 s) (hh:FY s (Sc s)=true) (hl:S5 s<l.length):
 (List.range' a (n - a)).any (Fs l p b s)= !HW l p b s:=by
 unfold HW;rw[Bool.not_not,Bool.eq_iff_iff,List.any_eq_true,List.any_eq_true]
 constructor
 ·rintro⟨i,hi,hb⟩
  rw[List.mem_range'_1]at hi
  refine⟨i,List.mem_range.2 (by omega),?_⟩
  have hne:Sc s≠(i:Int):=by
   intro e
   rw[e]at hh
   unfold Fs at hb
   split at hb
   ·rw[hh]at hb;simp at hb
   cases hb
  simp only[Bool.and_eq_true,decide_eq_true_eq];exact⟨⟨by omega,by omega⟩,hb⟩
 rintro⟨i,hi,hb⟩
 simp only[Bool.and_eq_true,decide_eq_true_eq]at hb
 exact⟨i,List.mem_range'_1.2 (by omega),hb.2⟩
theorem Wh {N:Nat} (hN:40000000≤N) {l:List A4} (hl:l.length≤10) {p:A0} (hc:p.cS.bulk≤16777216) (hop:5≤p.Op∧p.Op≤7) {b s:List PR} (gb:Gd l b) (gs:Gd l s) (hn:s≠[]) (hd:Cv b s):
 Ds N p l b s=some (keepsA l p b s):=by
 have lb:=gb.len;have ls:=gs.len;have gm:=gb.mrg gs hd;have lm:=gm.len;have hlst:=gs.lst hn;obtain⟨h0,h1,h2,hh⟩:=gs.hd hn;obtain⟨x0,hx0,e0⟩:=Am2 hn;obtain⟨x1,hx1,_,e1⟩:=Cs hn;unfold Ds keepsA;rw[hx0,EF hn (by omega),hx1];simp only[Option.bind_some,EX hN (show b.length+s.length≤1000000 by omega),Py hN (show(mrg b s).length≤1000000 by omega) gm.wf,KK hN (Gc l (show(mrg b s).length<1000000 by omega) _) _ _ hc]
 by_cases h6:p.Op=6
 ·rw[if_neg (by rw[B9];simp;omega),if_pos (by rw[B9];exact decide_eq_true h6),if_pos h6];obtain⟨y1,hy1,t1⟩:=LO (l:=l) (i:=x1.At) (by omega) (by omega);obtain⟨y0,hy0,t0⟩:=LO (l:=l) (i:=x0.At) (by omega) (by omega);rw[hy1,hy0];simp only[Option.bind_some,CJ,t1,t0,e0,e1]
 rw[if_neg h6]
 by_cases h7:p.Op=7
 ·rw[if_neg (by rw[B9];simp;omega),if_neg (by rw[B9];simp;omega),if_pos h7];rfl
 rw[if_neg h7,if_pos (by rw[B9];simp;omega)];unfold Fa;rw[hx0];simp only[Option.bind_some];rw[e0];obtain⟨a,ha⟩:=Int.eq_ofNat_of_zero_le h0;obtain⟨n,hnn⟩:=Int.eq_ofNat_of_zero_le hlst.1;rw[ha];rw[Jl (A:=Unit) (n:=n) (P:=Fs l p b s) (u:=()) 0 ?_ ?_ n a N (by omega) (by omega) (by omega),OD (by omega) (by omega) (by omega) hh hlst.2]
 ·cases HW l p b s<;>rfl
 ·intro i _ hi
  have hil:i<l.length:=by omega
  have e:ar .add .i64 (i:Int) 1=i+1:=C5 (by omega) (by omega);rw[EF hn (by omega),hx1];simp only[Option.bind_some];rw[if_pos (AS (by omega)),UL hN (by omega),EP hil,EX hN (by omega)];simp only[Option.bind_some];rw[Py hN (by omega) gm.wf];simp only[Option.bind_some,e];rw[KK hN (Gc l (by omega) _) _ _ hc];simp only[Option.bind_some,M6,B9];unfold Fs;simp only[List.getElem?_eq_getElem hil];cases FY s (i:Int)<;>by_cases ht:l[i].Typ=p.Typ<;>cases Z7 (Ge l (mrg b s) (i:Int)) p.Var l[i] p.cS<;>simp[ht]
 intro i hi;rw[EF hn (by omega),hx1];simp only[Option.bind_some];rw[if_neg (X0 (by omega))]
theorem VL {N:Nat} (hN:40000000≤N) {l:List A4} (hl:l.length≤10) {p:A0} (hc:p.cS.bulk≤16777216) (hop:5≤p.Op∧p.Op≤7) {b s:List BD} (gb:Gd l (H8 b)) (gs:Gd l (H8 s)) (hn:s≠[]) (hd:Cv (H8 b) (H8 s)) (f:Bool):
 Q3 N ⟨l,f⟩ p b s=some (keepsA l p (H8 b) (H8 s)):=by
 have lb:=gb.len;have ls:=gs.len
 rw[List.length_map]at lb ls
 have gm:=gb.mrg gs hd;have lm:=gm.len;have hnp:=Ak7 hn;have hlst:=gs.lst hnp;obtain⟨h0,h1,h2,hh⟩:=gs.hd hnp;obtain⟨x0,hx0,e0⟩:=Ae0 hn;obtain⟨c,hj,ec⟩:=Mb (N:=N) (n:=l.length) (by omega) (by omega) (by omega) gb.asc gs.asc hd gb.wf.ins gs.wf.ins
 have lc:c.length≤10:=by have:=congrArg List.length ec;rw[List.length_map]at this;omega
 have wc:SP l (H8 c):=by rw[ec];exact gm.wf
 unfold Q3 keepsA;rw[hx0,QU hn (by omega),hj];simp only[Option.bind_some,UI hN (show c.length≤1000000 by omega) wc,QJ hN (Gc l (show(H8 c).length<1000000 by rw[List.length_map];omega) _) _ _ hc]
 by_cases h6:p.Op=6
 ·rw[if_pos (by rw[B9];exact decide_eq_true h6),if_pos h6];obtain⟨y1,hy1,t1⟩:=LO (l:=l) (i:=S5 (H8 s)) (by omega) (by omega);obtain⟨y0,hy0,t0⟩:=LO (l:=l) (i:=x0.at_) (by omega) (by omega);rw[hy1,hy0];simp only[Option.bind_some,CJ,t1,t0,e0]
 rw[if_neg h6,if_neg (by rw[B9];simpa using h6)]
 by_cases h7:p.Op=7
 ·rw[if_pos (by rw[B9];exact decide_eq_true h7),if_pos h7,ec];rfl
 rw[if_neg h7,if_neg (by rw[B9];simpa using h7)];obtain⟨n,hnn⟩:=Int.eq_ofNat_of_zero_le hlst.1;obtain⟨a,ha⟩:=Int.eq_ofNat_of_zero_le h0;rw[e0,ha,C5 (a:=((a:Nat):Int)) (by omega) (by omega),show((a:Int)+1)=((a+1:Nat):Int) by omega];rw[Jl (A:=Unit) (n:=n) (P:=Fs l p (H8 b) (H8 s)) (u:=()) 0 ?_ ?_ n (a+1) N (by omega) (by omega) (by omega),OD (by omega) (by omega) (by omega) hh hlst.2]
 ·cases HW l p (H8 b) (H8 s)<;>rfl
 ·intro i _ hi
  have hil:i<l.length:=by omega
  have e:ar .add .i64 (i:Int) 1=i+1:=C5 (by omega) (by omega);rw[if_pos (AS (by omega)),UH hN (by omega),EP hil,JS hN (by omega) wc _ hc _ hil,ec];simp only[Option.bind_some,M6,B9,e];unfold Fs;simp only[List.getElem?_eq_getElem hil];cases FY (H8 s) (i:Int)<;>by_cases ht:l[i].Typ=p.Typ<;>cases Z7 (Ge l (mrg (H8 b) (H8 s)) (i:Int)) p.Var l[i] p.cS<;>simp[ht]
 intro i hi;rw[if_neg (X0 (by omega))]
theorem Wl {N:Nat} (hN:40000000≤N) {a b:List PR} (ha:a.length≤1000000):Du N a b=some (decide (a=b)):=by
 unfold Du
 by_cases hlen:a.length=b.length
 ·rw [if_neg (by rw[E5,B1,B1];simp;omega)]
  have hz:(a.zip b).length=a.length:=by simp;omega
  rw [Cr (l:=a.zip b) (fun q=> !(decide (q.1.Var=q.2.Var)&&decide (q.1.At=q.2.At))) (by omega) (by omega) (fun i x hx hi=>by
      have e:ar .add .i64 (i:Int) 1=i+1:=C5 (by omega) (by omega);obtain⟨hx1,hx2⟩:=List.getElem?_zip_eq_some.1 hx;rw[if_pos (M7 (by omega)),C6,hx1,C6,hx2];simp only[Option.bind_some,e,M6,M8,B9,Bool.and_true]
      split<;>rfl) (by rw[hz];simp[C2,B1])]
  have hiff:((a.zip b).any fun q=> !(decide (q.1.Var=q.2.Var)&&decide (q.1.At=q.2.At)))= !decide (a=b):=by
   induction a generalizing b with
   |nil=>cases b with
    |nil=>simp
    |cons y b=>simp at hlen
   | cons x a ih=>
    cases b with
    |nil=>simp at hlen
    |cons y b=>
     rw[List.zip_cons_cons,any_cons,ih (by simp at ha;omega) (by simpa using hlen) (by simp at hlen ⊢;omega)]
     have hxy:(x=y)↔(x.Var=y.Var∧x.At=y.At):=by cases x;cases y;simp
     rw[Bool.eq_iff_iff];simp only[List.cons.injEq,hxy,Bool.or_eq_true,Bool.not_eq_true',Bool.and_eq_false_iff,decide_eq_false_iff_not,not_and]
     by_cases h1:x.Var=y.Var<;>by_cases h2:x.At=y.At<;>simp[h1,h2]
  rw[hiff]
  by_cases he:a=b<;>simp[he]
 rw[if_pos (by rw[E5,B1,B1];simp;omega),decide_eq_false (fun e=>hlen (by rw[e]))]
end
end Go.Ab
namespace Go.Ab
open Classical
noncomputable section
theorem XV {N:Nat} (hN:40000000≤N) {L:List (List PR)} {s:List PR} (hL:L.length≤1000000) (hl:∀x∈L,x.length≤1000000):T4 N L s=some (if s∈L then L else L++[s]):=by
 unfold T4
 rw [Cr (l:=L) (fun x=>decide (x=s)) (by omega) (by omega) (fun i x hx hi=>by
     have e:ar .add .i64 (i:Int) 1=i+1:=C5 (by omega) (by omega);simp only[C2,B1,hi,decide_true,if_true,C6,hx,Option.bind_some,e,Wl hN (hl x (List.mem_of_getElem? hx))]
     split<;>rfl) (by simp[C2,B1])]
 have hiff:(L.any fun x=>decide (x=s))=decide (s∈L):=by
  rw[Bool.eq_iff_iff];simp
 rw[hiff]
 by_cases hs:s∈L
 ·rw[if_pos (decide_eq_true hs),if_pos hs];rfl
 rw[if_neg (by simpa using hs),if_neg hs];simp only[Option.bind_some];rw[M2 (by simp;omega)];rfl
def testE (l:List A4)(p:A0)(b:List PR)(i:Nat):Bool:=match l[i]? with|some e=>decide (e.Typ=p.Typ)&&Z7 (Ge l b i) p.Var e p.cS|none=>false
theorem VZ {N:Nat} (hN:40000000≤N) {l:List A4} (hl:l.length≤10) {p:A0} (hc:p.cS.bulk≤16777216) {b:List BD} (gb:Gd l (H8 b)) (f:Bool) {i:Nat} (hi:i≤l.length):
 K3 N ⟨l,f⟩ p b (i:Int)=some (Td (testE l p (H8 b)) (fun j=>[(⟨p.Var,(j:Int)⟩:BD)]) (l.length - i) i):=by
 have lb:=gb.len
 rw[List.length_map]at lb
 unfold K3 S7
 have h:=RW (β:=List BD) (A:=Unit) (n:=l.length) (T:=testE l p (H8 b)) (g:=fun j=>[(⟨p.Var,(j:Int)⟩:BD)]) (u:=()) (step:=(fun(s1:Int)=>
  (
   if cmp .lss s1 (Ar.len (⟨l,f⟩:B3).dA)=true then
    (B6 (⟨l,f⟩:B3).dA s1).bind fun x7=>
    if cmp .eql x7.Typ p.Typ=true then
     (H6 N ⟨l,f⟩ p.cS b p.Var s1).bind fun r8=>
     if r8=true then
      O0 (some ([[(⟨p.Var,s1⟩:A1)]],())) fun _=>
      some ([],.inl (ar .add .i64 s1 1))
     else
      some ([],.inl (ar .add .i64 s1 1))
    else
     some ([],.inl (ar .add .i64 s1 1))
   else
    some ([],.inr ())
   :Option (List (List A1)×((Int) ⊕ (Unit)))))) ?_ ?_ (l.length - i) i N (by omega) (by omega)
 ·rw[h];simp[O0]
 ·intro j hj;have e:ar .add .i64 (j:Int) 1=j+1:=C5 (by omega) (by omega);rw[if_pos (AS (by rw[B1];show(j:Int)<(l.length:Int);omega))]
  show((B6 l (j:Int)).bind _)=_
  rw[EP hj,JS hN (by omega) gb.wf _ hc _ hj,e];simp only[Option.bind_some,B9,O0];unfold testE;simp only[List.getElem?_eq_getElem hj]
  by_cases ht:l[j].Typ=p.Typ<;>cases Z7 (Ge l (H8 b) (j:Int)) p.Var l[j] p.cS<;>simp[ht]
 rw[if_neg P4]
theorem Wj {N:Nat} (hN:40000000≤N) {l:List A4} (hl:l.length≤10) {p:A0} (hc:p.cS.bulk≤16777216) {b:List PR} (gb:Gd l b) {i:Nat} (hi:i≤l.length):
 Dt N p l b (i:Int)=some (Td (testE l p b) (fun j=>[(⟨p.Var,(j:Int)⟩:PR)]) (l.length - i) i):=by
 have lb:=gb.len;unfold Dt;rw[RV (β:=List PR) (n:=l.length) (mk:=fun out i=>(out,i)) (T:=testE l p b) (g:=fun j=>[(⟨p.Var,(j:Int)⟩:PR)]) ?_ ?_ (l.length - i) i N [] (by omega) (by omega) (by simp)]
 ·rfl
 ·intro out j ho hj;have e:ar .add .i64 (j:Int) 1=j+1:=C5 (by omega) (by omega)
  dsimp only
  rw[if_pos (M7 (by omega)),EP hj,Py hN (by omega) gb.wf,e];simp only[Option.bind_some];rw[KK hN (Gc l (by omega) _) _ _ hc,M2 (by simp;omega)];simp only[Option.bind_some,B9];unfold testE;simp only[List.getElem?_eq_getElem hj]
  by_cases ht:l[j].Typ=p.Typ<;>cases Z7 (Ge l b (j:Int)) p.Var l[j] p.cS<;>simp[ht]
 intro out
 dsimp only
 rw[if_neg P4]
def Te (x:PR):List UInt8:=W4 x.Var.toNat++64::(W4 x.At.toNat++[32])
def Jq (s:List PR):List UInt8:=s.flatMap Te
def GJ (l:List UInt8):List Int:=l.map fun b=>(b.toNat:Int)
theorem Aj8 {n:Int}(h0:0≤n)(h1:n<1000):Ar.wr .i64 n=n:=Bc (by omega) (by omega)
theorem Aj7 {n:Int} (h0:0≤n) (h1:n<1000):Ar.wr .u64 n=n:=by
 have e:IntKind.wrap .u64 n=n % 18446744073709551616:=by
  unfold IntKind.wrap;simp[IntKind.bits,IntKind.signed]
 exact e.trans (by omega)
theorem Kv {N:Nat} {d:List Int} (hd:d.length≤1000000) {i:Int} (h0:0≤i) (h1:i<100):G0 N d i 10=some (d++GJ (W4 i.toNat)):=by
 unfold G0 Z4 W3 Fy;rw[if_neg (X0 (by omega)),Aj7 h0 (by omega),if_pos (show cmp .eql 10 10=true by rfl),if_pos (AS h1),Aj8 h0 (by omega)]
 have hs:Mt i=some ⟨(W4 i.toNat).toArray⟩:=by
  unfold Mt;rw[if_pos (by simp;omega)]
 rw[hs];simp only[Option.bind_some]
 have hl:(W4 i.toNat).length≤2:=by unfold W4;split<;>simp
 rw[M2 (by simp[La];omega)];rfl
theorem ZP (x:PR):(Te x).length≤6:=by
 have h:∀i,(W4 i).length≤2:=fun i=>by unfold W4;split<;>simp
 have:=h x.Var.toNat;have:=h x.At.toNat;simp[Te];omega
theorem Vi :∀s:List PR,(Jq s).length≤6*s.length
 |[]=>by simp[Jq]
 |x::s=>by
  have:=Vi s;have:=ZP x
  simp only[Jq,List.flatMap_cons,List.length_append,List.length_cons]at *
  omega
theorem ZS {N:Nat} (hN:40000000≤N) {l:List A4} (hl:l.length≤10) {s:List BD} (hs:s.length≤1000) (hw:SP l (H8 s)):N1 N s=UF (GJ (Jq (H8 s))):=by
 unfold N1;rw[F6 s (by omega) (mk:=fun(out:List Int) i=>(i,out)) (body:=fun out x=>(G0 N out x.cX 10).bind fun l6=>(H9 l6 [64]).bind fun l90=>(G0 N l90 x.at_ 10).bind fun l209=>(H9 l209 [32]).bind fun l290=>some (.inl l290)) (fin:=fun s=>s) (s:=[]) (by omega) ?_ ?_]
 ·obtain⟨s',h1,p,h2,h3⟩:=X6 (R:=List Int) (step:=fun out x=>(G0 N out x.cX 10).bind fun l6=>(H9 l6 [64]).bind fun l90=>(G0 N l90 x.at_ 10).bind fun l209=>(H9 l209 [32]).bind fun l290=>some (.inl l290))
   (fun r out=>∃p,p++r=s∧out=GJ (Jq (H8 p))) (fun x r out ⟨p,e1,e2⟩=>by
    subst e2
    have hx:x∈s:=by rw[←e1];simp
    obtain⟨⟨v0,v1⟩,a0,a1⟩:=hw (pr x) (List.mem_map.2 ⟨x,hx,rfl⟩);have hv0:0≤x.cX:=v0;have hv1:x.cX<16:=v1;have ha0:0≤x.at_:=a0;have ha1:x.at_<l.length:=a1
    have hp:p.length≤1000:=by have:=congrArg List.length e1;simp at this;omega
    have hk:(GJ (Jq (H8 p))).length≤6000:=by
     have:=Vi (H8 p)
     rw[List.length_map]at this
     simp[GJ];omega
    have hsm:∀i,(GJ (W4 i)).length≤2:=fun i=>by simp only[GJ,List.length_map];unfold W4;split<;>simp
    have:=hsm x.cX.toNat;have:=hsm x.at_.toNat;refine⟨GJ (Jq (H8 p))++GJ (W4 x.cX.toNat)++[64]++GJ (W4 x.at_.toNat)++[32],?_,p++[x],by simpa using e1,?_⟩
    ·rw[Kv (by omega) hv0 (by omega)];simp only[Option.bind_some];rw[M2 (by simp only[List.length_append,List.length_cons,List.length_nil];omega)];simp only[Option.bind_some];rw[Kv (by simp only[List.length_append,List.length_cons,List.length_nil];omega) ha0 (by omega)];simp only[Option.bind_some];rw[M2 (by simp only[List.length_append,List.length_cons,List.length_nil];omega)];rfl
    simp[GJ,Jq,Te,H8,pr]) (l:=s) (s:=[]) ⟨[],rfl,rfl⟩
  rw[h1];simp only[Option.bind_some]
  rw[append_nil]at h2
  rw[h3,h2];cases UF (GJ (Jq (H8 s)))<;>rfl
 ·intro out i x hx hi;have e:ar .add .i64 (i:Int) 1=i+1:=C5 (by omega) (by omega);simp only[C2,B1,hi,decide_true,if_true,C6,hx,Option.bind_some,e]
  cases G0 N out x.cX 10 with
  |none=>rfl
  | some a=>
   simp only[Option.bind_some]
   cases H9 a [64]with
   |none=>rfl
   | some b=>
    simp only[Option.bind_some]
    cases G0 N b x.at_ 10 with
    |none=>rfl
    |some c=>
     simp only[Option.bind_some];cases H9 c [32]<;>rfl
 intro s;simp[C2,B1]
theorem Nb {m:UInt8}:∀{a b r q:List UInt8},m∉a→m∉b→a++m::r=b++m::q→a=b∧r=q
 |[],[],r,q,_,_,h=>⟨rfl,by simpa using h⟩
 |[],y::b,r,q,_,hb,h=>by simp at h;exact absurd h.1 (by intro e;exact hb (by simp[e]))
 |x::a,[],r,q,ha,_,h=>by simp at h;exact absurd h.1 (by intro e;exact ha (by simp[←e]))
 |x::a,y::b,r,q,ha,hb,h=>by
  simp only[List.cons_append,List.cons.injEq]at h
  have:=Nb (fun e=>ha (by simp[e])) (fun e=>hb (by simp[e])) h.2;exact⟨by rw[h.1,this.1],this.2⟩
theorem EY {i:Nat}(h:i<100):(64:UInt8)∉W4 i∧(32:UInt8)∉W4 i:=by
 have:∀i<100,(64:UInt8)∉W4 i∧(32:UInt8)∉W4 i:=by decide
 exact this i h
theorem Od {i j:Nat}(hi:i<16)(hj:j<16)(h:W4 i=W4 j):i=j:=by
 have:∀i<16,∀j<16,W4 i=W4 j→i=j:=by decide
 exact this i hi j hj h
theorem MA {l:List A4} (hl:l.length≤10):∀{a b:List PR},SP l a→SP l b→Jq a=Jq b→a=b
 |[],[],_,_,_=>rfl
 |[],y::b,_,_,h=>by simp[Jq,Te]at h
 |x::a,[],_,_,h=>by simp[Jq,Te]at h
 | x::a,y::b,ha,hb,h=>by
  obtain⟨⟨v0,v1⟩,a0,a1⟩:=ha x (by simp);obtain⟨⟨w0,w1⟩,b0,b1⟩:=hb y (by simp);obtain⟨m1,m2⟩:=EY (i:=x.Var.toNat) (by omega);obtain⟨m3,m4⟩:=EY (i:=x.At.toNat) (by omega);obtain⟨n1,n2⟩:=EY (i:=y.Var.toNat) (by omega);obtain⟨n3,n4⟩:=EY (i:=y.At.toNat) (by omega)
  simp only[Jq,List.flatMap_cons,Te,List.append_assoc,List.cons_append,List.nil_append]at h
  obtain⟨e1,e2⟩:=Nb m1 n1 h;obtain⟨e3,e4⟩:=Nb m4 n4 e2;have i1:=Od (by omega) (by omega) e1;have i2:=Od (by omega) (by omega) e3
  have hxy:x=y:=by
   cases x;cases y
   simp only[A2.mk.injEq]at *
   omega
  rw[hxy,MA hl (fun z hz=>ha z (by simp[hz])) (fun z hz=>hb z (by simp[hz])) e4]
end
end Go.Ab
namespace Go.Ab
open Classical
noncomputable section
structure WfN (y:A0):Prop where
 op:0≤y.Op∧y.Op≤7
 var:y.Op=0→0≤y.Var∧y.Var<16
 a0:y.Op=0→y.cR=[]
 a1:1≤y.Op→y.Op≤3→y.cR≠[]
 a2:4≤y.Op→∃q,y.cR=[q]
 cond:y.cS.bulk≤16777216
def GX (p:A0):Prop:=∀y∈p.pre,WfN y
theorem VC {N:Nat} (hN:40000000≤N) {x:A0} (hb:x.bulk≤16777216) (h:Qh N x=0):GX x∧x.pre.length≤64:=by
 unfold Qh at h
 by_cases hr:O9 N x=0
 ·rw [if_neg (by simpa using hr)]at h
  by_cases ha:x.pre.any (fun y=>cmp .geq y.Op 8)=true
  ·rw[if_pos ha]at h;cases h
  obtain⟨hp,hd,hg⟩:=Ij hr;refine⟨fun y hy=>?_,hp⟩;have h1:=Ff x y hy;have h2:=BY y
  have hyb:y.bulk≤16777216:=by omega
  have hyl:y.cR.length≤64:=by omega
  obtain⟨ho,s,ng,hs,hc⟩:=MR hN hyb hyl (hg y hy)
  have h7:y.Op≤7:=by
   rw[Bool.not_eq_true,List.any_eq_false]at ha
   have:=ha y hy
   rw[K9]at this
   simp at this;omega
  have hz:=Ah1 hN N y.cS (⟨0,[],0,0,0,(⟨0,0,⟨#[]⟩⟩:A6)⟩:B0) (by omega) (by omega);have h1:=GI hN (by omega) ho.1 ho.2 hs hz
  rw[(Eg hN hyb hyl).2,hg y hy]at h1
  have h1:=Option.some.inj h1
  by_cases har:s.cY≤y.cR.length∧(y.cR.length:Int)≤s.most
  ·rw[if_pos har]at h1
   unfold Je at h1
   by_cases e1:DE s.cU y.Typ 15=true
   ·rw[if_pos e1]at h1;cases h1
   rw[if_neg e1]at h1
   by_cases e2:DE s.cU y.Var 15=true
   ·rw[if_pos e2]at h1;cases h1
   have ht:=hs.tab
   have hop:y.Op=0∨y.Op=1∨y.Op=2∨y.Op=3∨y.Op=4∨y.Op=5∨y.Op=6∨y.Op=7:=by omega
   refine⟨⟨ho.1,h7⟩,?_,?_,?_,?_,by omega⟩
   ·intro h0
    rw[h0]at ht
    have hs:s.cU=true:=by cases ht;rfl
    rw[hs]at e2
    unfold DE at e2
    simp at e2
    omega
   ·intro h0
    rw[h0]at ht
    have hm:s.most=0:=by cases ht;rfl
    exact List.eq_nil_of_length_eq_zero (by omega)
   ·intro h0 h3
    have hm:1≤s.cY:=by
     have:y.Op=1∨y.Op=2∨y.Op=3:=by omega
     rcases this with h|h|h<;>rw[h]at ht<;>cases ht<;>decide
    intro e
    rw[e]at har
    simp at har;omega
   intro h0
   have hm:s.cY=1∧s.most=1:=by
    have:y.Op=4∨y.Op=5∨y.Op=6∨y.Op=7:=by omega
    rcases this with h|h|h|h<;>rw[h]at ht<;>cases ht<;>decide
   have hl:y.cR.length=1:=by omega
   match he:y.cR,hl with
   |[q],_=>exact⟨q,rfl⟩
  rw[if_neg har]at h1;cases h1
 rw[if_pos (show O9 N x≠0 from hr)]at h;exact absurd h hr
theorem R6 {y : A0}:∀{l:List A0},y∈A0.pres l↔∃a∈l,y∈a.pre
 |[]=>by simp[A0.pres]
 | a :: l => by simp only[A0.pres,List.mem_append,R6 (l:=l),List.mem_cons];constructor
                ·rintro(h|⟨b,h1,h2⟩)
                 ·exact⟨a,.inl rfl,h⟩
                 exact⟨b,.inr h1,h2⟩
                rintro⟨b,rfl|h1,h2⟩
                ·exact .inl h2
                exact .inr ⟨b,h1,h2⟩
theorem GX.self {p:A0}(h:GX p):WfN p:=h p (CA p)
theorem GX.arg {p q:A0}(h:GX p)(hq:q∈p.cR):GX q:=fun y hy=>h y (by rw[A0.pre_eq];exact List.mem_cons_of_mem _ (R6.2 ⟨q,hq,hy⟩))
theorem GX.sub {p:A0}{r:List A0}(h:GX p)(h1:1≤p.Op)(h3:p.Op≤3)(hr:∀q∈r,q∈p.cR)(hn:r≠[]):GX {p with cR:=r}:=by
 intro y hy
 rw[A0.pre_eq]at hy
 rcases List.mem_cons.1 hy with rfl|hy
 ·exact⟨h.self.op,fun e=>by have:p.Op=0:=e;omega,fun e=>by have:p.Op=0:=e;omega,fun _ _=>hn,fun e=>by have:4≤p.Op:=e;omega,h.self.cond⟩
 obtain⟨q,hq,hy⟩:=R6.1 hy;exact h.arg (hr q hq) y hy
inductive Sm (l:List A4):A0→List PR→Int→List PR→Prop
 |ev {p:A0} {b:List PR} {f:Int} {j:Nat}:p.Op=0→f≤j→j<l.length→testE l p b j=true→Sm l p b f [⟨p.Var,j⟩]
 |seq1 {p q:A0} {b:List PR} {f:Int} {s:List PR}:p.Op=1→p.cR=[q]→Sm l q b f s→Sm l p b f s
 |seq {p q q':A0} {r:List A0} {b:List PR} {f:Int} {s t:List PR}:p.Op=1→p.cR=q::q'::r→Sm l q b f s→Sm l {p with cR:=q'::r} (mrg b s) (S5 s+1) t→Sm l p b f (mrg s t)
 |alt {p q:A0} {b:List PR} {f:Int} {s:List PR}:p.Op=2→q∈p.cR→Sm l q b f s→Sm l p b f s
 |all1 {p q:A0} {b:List PR} {f:Int} {s:List PR}:p.Op=3→p.cR=[q]→Sm l q b f s→Sm l p b f s
 |all {p q:A0} {r:List A0} {b:List PR} {f:Int} {s t:List PR}:p.Op=3→p.cR=r++[q]→r≠[]→Sm l {p with cR:=r} b f s→Sm l q b f t→Cv s t→Sm l p b f (mrg s t)
 |plus1 {p q:A0} {b:List PR} {f:Int} {s:List PR}:p.Op=4→p.cR=[q]→Sm l q b f s→Sm l p b f s
 |plus {p q:A0} {b:List PR} {f:Int} {s t:List PR}:p.Op=4→p.cR=[q]→Sm l q b f s→Sm l p (mrg b s) (S5 s+1) t→Sm l p b f (mrg s t)
 |some {p q:A0} {b:List PR} {f:Int} {s:List PR}:5≤p.Op→p.Op≤7→p.cR=[q]→Sm l q b f s→keepsA l p b s=true→Sm l p b f s
theorem Sm.i0 {l:List A4} {p:A0} {b:List PR} {f:Int} {s:List PR} (h0:p.Op=0):Sm l p b f s↔∃j:Nat,f≤j∧j<l.length∧testE l p b j=true∧s=[⟨p.Var,j⟩]:=by
 constructor
 ·intro h
  cases h with
  |ev e0 e1 e2 e3=>exact⟨_,e1,e2,e3,rfl⟩
  |_=>omega
 rintro⟨j,e1,e2,e3,rfl⟩;exact .ev h0 e1 e2 e3
theorem Sm.i1 {l:List A4} {p q:A0} {b:List PR} {f:Int} {s:List PR} (h0:p.Op=1) (ha:p.cR=[q]):Sm l p b f s↔Sm l q b f s:=by
 constructor
 ·intro h
  cases h with
  |seq1 e0 ea hs=>rw[ha]at ea;cases ea;exact hs
  |seq e0 ea hs ht=>rw[ha]at ea;cases ea
  |_=>omega
 exact .seq1 h0 ha
theorem Sm.i1c {l:List A4} {p q q':A0} {r:List A0} {b:List PR} {f:Int} {s:List PR} (h0:p.Op=1) (ha:p.cR=q::q'::r):Sm l p b f s↔∃u t,Sm l q b f u∧Sm l {p with cR:=q'::r} (mrg b u) (S5 u+1) t∧s=mrg u t:=by
 constructor
 ·intro h
  cases h with
  |seq1 e0 ea hs=>rw[ha]at ea;cases ea
  |seq e0 ea hs ht=>rw[ha]at ea;cases ea;exact⟨_,_,hs,ht,rfl⟩
  |_=>omega
 rintro⟨u,t,hs,ht,rfl⟩;exact .seq h0 ha hs ht
theorem Sm.i2 {l:List A4} {p:A0} {b:List PR} {f:Int} {s:List PR} (h0:p.Op=2):Sm l p b f s↔∃q∈p.cR,Sm l q b f s:=by
 constructor
 ·intro h
  cases h with
  |alt e0 ea hs=>exact⟨_,ea,hs⟩
  |_=>omega
 rintro⟨q,ha,hs⟩;exact .alt h0 ha hs
theorem Sm.i3 {l:List A4} {p q:A0} {b:List PR} {f:Int} {s:List PR} (h0:p.Op=3) (ha:p.cR=[q]):Sm l p b f s↔Sm l q b f s:=by
 constructor
 ·intro h
  cases h with
  |all1 e0 ea hs=>rw[ha]at ea;cases ea;exact hs
  |all e0 ea en hs ht hd=>
   rw[ha]at ea
   exact absurd (List.append_inj_left' (s₁:=[]) ea rfl).symm en
  |_=>omega
 exact .all1 h0 ha
theorem Sm.i3c {l:List A4} {p q:A0} {r:List A0} {b:List PR} {f:Int} {s:List PR} (h0:p.Op=3) (ha:p.cR=r++[q]) (hr:r≠[]):Sm l p b f s↔∃u t,Sm l {p with cR:=r} b f u∧Sm l q b f t∧Cv u t∧s=mrg u t:=by
 constructor
 ·intro h
  cases h with
  |all1 e0 ea hs=>
   rw[ha]at ea
   exact absurd (List.append_inj_left' (s₂:=[]) ea rfl) hr
  |all e0 ea en hs ht hd=>
   rw[ha]at ea
   have e1:=List.append_inj_left' ea rfl;have e2:=List.append_inj_right' ea rfl;cases e1;cases e2;exact⟨_,_,hs,ht,hd,rfl⟩
  |_=>omega
 rintro⟨u,t,hs,ht,hd,rfl⟩;exact .all h0 ha hr hs ht hd
theorem Sm.i4 {l:List A4} {p q:A0} {b:List PR} {f:Int} {s:List PR} (h0:p.Op=4) (ha:p.cR=[q]):Sm l p b f s↔Sm l q b f s∨∃u t,Sm l q b f u∧Sm l p (mrg b u) (S5 u+1) t∧s=mrg u t:=by
 constructor
 ·intro h
  cases h with
  |plus1 e0 ea hs=>rw[ha]at ea;cases ea;exact .inl hs
  |plus e0 ea hs ht=>rw[ha]at ea;cases ea;exact .inr ⟨_,_,hs,ht,rfl⟩
  |_=>omega
 rintro(hs|⟨u,t,hs,ht,rfl⟩)
 ·exact .plus1 h0 ha hs
 exact .plus h0 ha hs ht
theorem Sm.i5 {l:List A4} {p q:A0} {b:List PR} {f:Int} {s:List PR} (h0:5≤p.Op) (h1:p.Op≤7) (ha:p.cR=[q]):Sm l p b f s↔Sm l q b f s∧keepsA l p b s=true:=by
 constructor
 ·intro h
  cases h with
  |some e0 e1 ea hs hk=>rw[ha]at ea;cases ea;exact⟨hs,hk⟩
  |_=>omega
 rintro⟨hs,hk⟩;exact .some h0 h1 ha hs hk
structure IN (l:List A4) (b:List PR) (f:Int):Prop where
 gd:Gd l b
 lt:∀x∈b,x.At<f
 f0:0≤f
 f1:f≤l.length
structure Kx (l:List A4) (f:Int) (s:List PR):Prop where
 gd:Gd l s
 ge:∀x∈s,f≤x.At
 ne:s≠[]
theorem IN.apart {l:List A4}{b s:List PR}{f:Int}(h:IN l b f)(r:Kx l f s):Cv b s:=fun x hx y hy=>by have:=h.lt x hx;have:=r.ge y hy;omega
theorem IN.next {l:List A4}{b s:List PR}{f:Int}(h:IN l b f)(r:Kx l f s):IN l (mrg b s) (S5 s+1):=by
 have hl:=r.gd.lst r.ne;refine⟨h.gd.mrg r.gd (h.apart r),fun x hx=>?_,by omega,by omega⟩
 rcases Y3.1 hx with hx|hx
 ·obtain⟨y,_,hy,e⟩:=Cs r.ne;have:=h.lt x hx;have:=r.ge y hy;omega
 have:=NE r.gd.asc x hx;omega
theorem Kx.seq {l:List A4} {s t:List PR} {f:Int} (r:Kx l f s) (q:Kx l (S5 s+1) t):Kx l f (mrg s t)∧Cv s t:=by
 have ha:Cv s t:=fun x hx y hy=>by have:=NE r.gd.asc x hx;have:=q.ge y hy;omega
 refine⟨⟨r.gd.mrg q.gd ha,fun x hx=>?_,fun e=>?_⟩,ha⟩
 ·rcases Y3.1 hx with hx|hx
  ·exact r.ge x hx
  obtain⟨y,_,hy,e⟩:=Cs r.ne;have:=r.ge y hy;have:=q.ge x hx;omega
 have h1:=congrArg List.length e
 rw[PI,List.length_nil]at h1
 have:=List.length_pos_iff.2 r.ne;omega
theorem Kx.all {l:List A4}{s t:List PR}{f:Int}(r:Kx l f s)(q:Kx l f t)(ha:Cv s t):Kx l f (mrg s t):=by
 refine⟨r.gd.mrg q.gd ha,fun x hx=>(Y3.1 hx).elim (r.ge x) (q.ge x),fun e=>?_⟩;have h1:=congrArg List.length e
 rw[PI,List.length_nil]at h1
 have:=List.length_pos_iff.2 r.ne;omega
theorem Sm.res {l:List A4} {p:A0} {b:List PR} {f:Int} {s:List PR} (h:Sm l p b f s):GX p→IN l b f→Kx l f s:=by
 induction h with
 |@ev p b f j h0 hf hj ht=>
  intro hw ho;refine⟨⟨fun x hx=>?_,List.pairwise_singleton _ _⟩,fun x hx=>?_,by simp⟩
  ·rw[List.mem_singleton.1 hx];exact⟨hw.self.var h0,by show 0≤(j:Int)∧(j:Int)<l.length;omega⟩
  rw[List.mem_singleton.1 hx];exact hf
 |seq1 h0 ha _ ih=>intro hw ho;exact ih (hw.arg (by rw[ha];simp)) ho
 |@seq p q q' r b f s t h0 ha _ _ ih1 ih2=>
  intro hw ho;have r1:=ih1 (hw.arg (by rw[ha];simp)) ho;have r2:=ih2 (hw.sub (by omega) (by omega) (fun x hx=>by rw[ha];exact List.mem_cons_of_mem _ hx) (by simp)) (ho.next r1);exact(r1.seq r2).1
 |alt h0 ha _ ih=>intro hw ho;exact ih (hw.arg ha) ho
 |all1 h0 ha _ ih=>intro hw ho;exact ih (hw.arg (by rw[ha];simp)) ho
 |@all p q r b f s t h0 ha hn _ _ hd ih1 ih2=>
  intro hw ho;exact(ih1 (hw.sub (by omega) (by omega) (fun x hx=>by rw[ha];simp[hx]) hn) ho).all (ih2 (hw.arg (by rw[ha];simp)) ho) hd
 |plus1 h0 ha _ ih=>intro hw ho;exact ih (hw.arg (by rw[ha];simp)) ho
 |@plus p q b f s t h0 ha _ _ ih1 ih2=>
  intro hw ho;have r1:=ih1 (hw.arg (by rw[ha];simp)) ho;exact(r1.seq (ih2 hw (ho.next r1))).1
 |some h0 h1 ha _ _ ih=>intro hw ho;exact ih (hw.arg (by rw[ha];simp)) ho
def Vs (p:A0)(v:Int):Prop:=∃y∈p.pre,y.Op=0∧y.Var=v
theorem Vs.arg {p q:A0}{v:Int}(hq:q∈p.cR)(h:Vs q v):Vs p v:=by
 obtain⟨y,hy,h⟩:=h;exact⟨y,by rw[A0.pre_eq];exact List.mem_cons_of_mem _ (R6.2 ⟨q,hq,hy⟩),h⟩
theorem Vs.sub {p:A0}{r:List A0}{v:Int}(h0:p.Op≠0)(hr:∀q∈r,q∈p.cR)(h:Vs {p with cR:=r} v):Vs p v:=by
 obtain⟨y,hy,h1,h2⟩:=h
 rw[A0.pre_eq]at hy
 rcases List.mem_cons.1 hy with rfl|hy
 ·exact absurd h1 h0
 obtain⟨q,hq,hy⟩:=R6.1 hy;exact Vs.arg (hr q hq) ⟨y,hy,h1,h2⟩
theorem Sm.vars {l:List A4} {p:A0} {b:List PR} {f:Int} {s:List PR} (h:Sm l p b f s):∀x∈s,Vs p x.Var:=by
 induction h with
 |@ev p b f j h0 hf hj ht=>intro x hx;rw[List.mem_singleton.1 hx];exact⟨p,CA p,h0,rfl⟩
 |seq1 h0 ha _ ih=>intro x hx;exact Vs.arg (by rw[ha];simp) (ih x hx)
 |@seq p q q' r b f s t h0 ha _ _ ih1 ih2=>
  intro x hx
  rcases Y3.1 hx with hx|hx
  ·exact Vs.arg (by rw[ha];simp) (ih1 x hx)
  exact Vs.sub (by omega) (fun x hx=>by rw[ha];exact List.mem_cons_of_mem _ hx) (ih2 x hx)
 |alt h0 ha _ ih=>intro x hx;exact Vs.arg ha (ih x hx)
 |all1 h0 ha _ ih=>intro x hx;exact Vs.arg (by rw[ha];simp) (ih x hx)
 |@all p q r b f s t h0 ha hn _ _ hd ih1 ih2=>
  intro x hx
  rcases Y3.1 hx with hx|hx
  ·exact Vs.sub (by omega) (fun x hx=>by rw[ha];simp[hx]) (ih1 x hx)
  exact Vs.arg (by rw[ha];simp) (ih2 x hx)
 |plus1 h0 ha _ ih=>intro x hx;exact Vs.arg (by rw[ha];simp) (ih x hx)
 |@plus p q b f s t h0 ha _ _ ih1 ih2=>
  intro x hx
  rcases Y3.1 hx with hx|hx
  ·exact Vs.arg (by rw[ha];simp) (ih1 x hx)
  exact ih2 x hx
 |some h0 h1 ha _ _ ih=>intro x hx;exact Vs.arg (by rw[ha];simp) (ih x hx)
end
end Go.Ab
namespace Go.Ab
open Classical
noncomputable section
def evs (p:A0):Nat:=p.pre.countP fun y=>decide (y.Op=0)
def BO (p:A0):Prop:=∀y∈p.pre,y.Op≠4
theorem FC (p:A0):evs p=(if p.Op=0 then 1 else 0)+(A0.pres p.cR).countP fun y=>decide (y.Op=0):=by
 unfold evs;rw[A0.pre_eq,List.countP_cons]
 by_cases h:p.Op=0<;>simp[h]<;>omega
theorem Ki (p:A0)(r:List A0):evs {p with cR:=r}=(if p.Op=0 then 1 else 0)+(A0.pres r).countP fun y=>decide (y.Op=0):=FC _
theorem Lw {q:A0}:∀{l:List A0},q∈l→evs q≤(A0.pres l).countP fun y=>decide (y.Op=0)
 |a::l,h=>by
  simp only[A0.pres,countP_append]
  rcases List.mem_cons.1 h with rfl|h
  ·exact Nat.le_add_right _ _
  have:=Lw h;unfold evs at *;omega
theorem It {p q:A0}(h:q∈p.cR):evs q≤evs p:=by rw[FC p];have:=Lw h;omega
theorem BO.arg {p q:A0}(h:BO p)(hq:q∈p.cR):BO q:=fun y hy=>h y (by rw[A0.pre_eq];exact List.mem_cons_of_mem _ (R6.2 ⟨q,hq,hy⟩))
theorem BO.sub {p:A0}{r:List A0}(h:BO p)(hr:∀q∈r,q∈p.cR):BO {p with cR:=r}:=by
 intro y hy
 rw[A0.pre_eq]at hy
 rcases List.mem_cons.1 hy with rfl|hy
 ·exact h p (CA p)
 obtain⟨q,hq,hy⟩:=R6.1 hy;exact h.arg (hr q hq) y hy
def JC (n:Nat)(p:A0):Prop:=(evs p+1) ^ n≤1500∨(BO p∧2≤n∧n ^ evs p≤1500)
theorem JC.mono {n:Nat}{p q:A0}(h:JC n p)(h1:evs q≤evs p)(h2:BO p→BO q):JC n q:=by
 rcases h with h|⟨a,b,c⟩
 ·exact .inl (Nat.le_trans (Nat.pow_le_pow_left (by omega) n) h)
 exact .inr ⟨h2 a,b,Nat.le_trans (Nat.pow_le_pow_right (by omega) h1) c⟩
theorem JC.arg {n:Nat}{p q:A0}(h:JC n p)(hq:q∈p.cR):JC n q:=h.mono (It hq) fun k=>k.arg hq
theorem JC.tail {n:Nat}{p q:A0}{r:List A0}(h:JC n p)(ha:p.cR=q::r):JC n {p with cR:=r}:=by
 refine h.mono ?_ fun k=>k.sub fun x hx=>by rw[ha];exact List.mem_cons_of_mem _ hx
 rw[Ki,FC,ha];simp only[A0.pres,countP_append];omega
theorem Cp :∀(r m:List A0),A0.pres (r++m)=A0.pres r++A0.pres m
 |[],m=>by simp[A0.pres]
 |a::r,m=>by simp[A0.pres,Cp r m]
def HU (V:List Int):Nat→Int→List (List PR)
 |0,_=>[[]]
 |m+1,k=>HU V m (k+1)++V.flatMap fun v=>(HU V m (k+1)).map fun s=>⟨v,k⟩::s
theorem KY (V:List Int):∀(m:Nat) (k:Int),(HU V m k).length=(V.length+1) ^ m
 |0,_=>rfl
 | m+1,k=>by
  have ih:=KY V m (k+1)
  have h:(V.flatMap fun v=>(HU V m (k+1)).map fun s=>(⟨v,k⟩:PR)::s).length=V.length*(V.length+1) ^ m:=by
   clear ih;generalize hE:HU V m (k+1)=E
   have hl:E.length=(V.length+1) ^ m:=by rw[←hE];exact KY V m (k+1)
   rw[←hl];clear hl hE
   induction V with
   |nil=>simp
   |cons v V ih=>rw[List.flatMap_cons,List.length_append,ih,List.length_map,List.length_cons,Nat.succ_mul];omega
  rw[HU,List.length_append,ih,h,Nat.pow_succ];rw[Nat.mul_comm _ (V.length+1),Nat.succ_mul];omega
theorem Iu (V:List Int):∀(m:Nat) (k:Int) (s:List PR),Xn s→(∀x∈s,k≤x.At∧x.At<k+m)→(∀x∈s,x.Var∈V)→s∈HU V m k
 |0,k,[],_,_,_=>by simp[HU]
 |0,k,x::s,_,h,_=>by have:=h x (by simp);omega
 |m+1,k,[],ha,_,_=>by
  rw[HU];exact List.mem_append_left _ (Iu V m (k+1) [] ha (by simp) (by simp))
 | m+1,k,x::s,ha,h,hv=>by
  rw[HU];have ha':=ha
  unfold Xn at ha
  rw[List.pairwise_cons]at ha
  have hx:=h x (by simp)
  by_cases e:x.At=k
  ·refine List.mem_append_right _ (List.mem_flatMap.2 ⟨x.Var,hv x (by simp),List.mem_map.2 ⟨s,Iu V m (k+1) s ha.2 (fun y hy=>?_) (fun y hy=>hv y (by simp[hy])),?_⟩⟩)
   ·have:=ha.1 y hy;have:=h y (by simp[hy]);omega
   rw[←e]
  refine List.mem_append_left _ (Iu V m (k+1) (x::s) ha' (fun y hy=>?_) hv);have:=h y hy
  rcases List.mem_cons.1 hy with rfl|hy
  ·omega
  have:=ha.1 y hy;omega
def Uz (p:A0):List Int:=(p.pre.filter fun y=>decide (y.Op=0)).map (·.Var)
theorem VD (p:A0):(Uz p).length=evs p:=by unfold Uz evs;rw[List.length_map,List.countP_eq_length_filter]
theorem Vs.mem {p:A0}{v:Int}(h:Vs p v):v∈Uz p:=by
 obtain⟨y,hy,h0,h1⟩:=h;exact List.mem_map.2 ⟨y,List.mem_filter.2 ⟨hy,by simpa using h0⟩,h1⟩
theorem As6 {l:List A4} {p:A0} {L:List (List PR)} (hn:L.Nodup) (h:∀s∈L,Gd l s∧∀x∈s,Vs p x.Var):L.length≤(evs p+1) ^ l.length:=by
 have:=List.Nodup.length_le_of_subset hn (l₂:=HU (Uz p) l.length 0) fun s hs=>by
  obtain⟨g,hv⟩:=h s hs;exact Iu _ _ _ s g.asc (fun x hx=>by have:=(g.wf x hx).2;omega) fun x hx=>(hv x hx).mem
 rwa[KY,VD]at this
theorem UO {α β:Type}(A B:List α)(f:α→α→β):(A.flatMap fun a=>B.map (f a)).length=A.length*B.length:=by
 induction A with
 |nil=>simp
 |cons a A ih=>rw[List.flatMap_cons,List.length_append,ih,List.length_map,List.length_cons,Nat.succ_mul];omega
theorem UP :∀(n:Nat) (p:A0),p.pre.length≤n→GX p→1≤evs p
 |0,p,h,_=>by rw[A0.pre_eq]at h;simp at h
 | n+1,p,h,hw=>by
  by_cases h0:p.Op=0
  ·rw[FC,if_pos h0];omega
  have hne:∃q,q∈p.cR:=by
   by_cases h3:p.Op≤3
   ·exact List.exists_mem_of_ne_nil _ (hw.self.a1 (by have:=hw.self.op;omega) h3)
   obtain⟨q,hq⟩:=hw.self.a2 (by omega);exact⟨q,by rw[hq];simp⟩
  obtain⟨q,hq⟩:=hne;have:=UP n q (by have:=P2 hq;omega) (hw.arg hq);have:=It hq;omega
theorem SI {x y:Nat} (hx:2≤x) (hy:2≤y):x+y≤x*y:=by
 obtain⟨a,rfl⟩:∃a,x=a+2:=⟨x - 2,by omega⟩;obtain⟨b,rfl⟩:∃b,y=b+2:=⟨y - 2,by omega⟩
 have:(a+2)*(b+2)=a*b+2*a+2*b+4:=by
  rw[Nat.mul_add,Nat.add_mul,Nat.add_mul];omega
 omega
theorem JU {p q:A0}{r:List A0}(ha:p.cR=q::r):({p with cR:=r}:A0).pre.length<p.pre.length:=by
 have h1:=A0.pre_eq ({p with cR:=r}:A0);have h2:=A0.pre_eq p;rw[h1,h2,ha];have:=A0.pre_eq q;simp only[A0.pres,List.length_cons,List.length_append,this];omega
theorem Yj {p q:A0}{r:List A0}(ha:p.cR=r++[q]):({p with cR:=r}:A0).pre.length<p.pre.length:=by
 have h1:=A0.pre_eq ({p with cR:=r}:A0);have h2:=A0.pre_eq p;rw[h1,h2,ha,Cp];have:=A0.pre_eq q;simp only[A0.pres,List.length_cons,List.length_append,this];omega
theorem IK {l:List A4} (hl:2≤l.length):∀(n:Nat) (p:A0),p.pre.length≤n→GX p→BO p→∃C:List (List PR),C.length≤l.length ^ evs p∧∀b f s,Sm l p b f s→s∈C
 |0,p,h,_,_=>by rw[A0.pre_eq]at h;simp at h
 | n +1,p,h,hw,hp=>by
  have hop:=hw.self.op;have hnp:=hp p (CA p)
  have hpow:∀q:A0,GX q→2≤l.length ^ evs q:=fun q hq=>by
   have h1:=UP _ q (Nat.le_refl _) hq;have:=Nat.pow_le_pow_right (n:=l.length) (by omega) h1
   rw[Nat.pow_one]at this;omega
  by_cases h0:p.Op=0
  ·refine⟨(List.range l.length).map fun(j:Nat)=>[⟨p.Var,(j:Int)⟩],?_,fun b f s hs=>?_⟩
   ·rw[FC,if_pos h0,hw.self.a0 h0,List.length_map,List.length_range];simp[A0.pres]
   obtain⟨j,_,hj,_,rfl⟩:=(Sm.i0 h0).1 hs;exact List.mem_map.2 ⟨j,List.mem_range.2 hj,rfl⟩
  by_cases h1:p.Op=1
  ·match ha:p.cR with
   |[]=>exact absurd ha (hw.self.a1 (by omega) (by omega))
   |[q]=>
    have hq:q∈p.cR:=by rw[ha];simp
    obtain⟨C,h2,h3⟩:=IK hl n q (by have:=P2 hq;omega) (hw.arg hq) (hp.arg hq);refine⟨C,Nat.le_trans h2 (Nat.pow_le_pow_right (by omega) (It hq)),fun b f s hs=>?_⟩;exact h3 _ _ _ ((Sm.i1 h1 ha).1 hs)
   | q::q'::r=>
    have hq:q∈p.cR:=by rw[ha];simp
    obtain⟨C,h2,h3⟩:=IK hl n q (by have:=P2 hq;omega) (hw.arg hq) (hp.arg hq);obtain⟨D,h4,h5⟩:=IK hl n {p with cR:=q'::r} (by have:=JU ha;omega) (hw.sub (by omega) (by omega) (fun x hx=>by rw[ha];exact List.mem_cons_of_mem _ hx) (by simp)) (hp.sub fun x hx=>by rw[ha];exact List.mem_cons_of_mem _ hx);refine⟨C.flatMap fun s=>D.map (mrg s),?_,fun b f s hs=>?_⟩
    ·rw[UO,show evs p=evs q+evs {p with cR:=q'::r}from ?_,Nat.pow_add]
     ·exact Nat.mul_le_mul h2 h4
     rw[Ki,FC p,ha,if_neg h0];rw[A0.pres,countP_append];unfold evs;omega
    obtain⟨u,t,hu,ht,rfl⟩:=(Sm.i1c h1 ha).1 hs;exact List.mem_flatMap.2 ⟨_,h3 _ _ _ hu,List.mem_map.2 ⟨_,h5 _ _ _ ht,rfl⟩⟩
  by_cases h2':p.Op=2
  ·match ha:p.cR with
   |[]=>exact absurd ha (hw.self.a1 (by omega) (by omega))
   |[q]=>
    have hq:q∈p.cR:=by rw[ha];simp
    obtain⟨C,h2,h3⟩:=IK hl n q (by have:=P2 hq;omega) (hw.arg hq) (hp.arg hq);refine⟨C,Nat.le_trans h2 (Nat.pow_le_pow_right (by omega) (It hq)),fun b f s hs=>?_⟩;obtain⟨q',ha',hs⟩:=(Sm.i2 h2').1 hs
    rw[ha]at ha'
    rw[List.mem_singleton.1 ha']at hs
    exact h3 _ _ _ hs
   | q::q'::r=>
    have hq:q∈p.cR:=by rw[ha];simp
    have hws:GX {p with cR:=q'::r}:=hw.sub (by omega) (by omega) (fun x hx=>by rw[ha];exact List.mem_cons_of_mem _ hx) (by simp);obtain⟨C,h2,h3⟩:=IK hl n q (by have:=P2 hq;omega) (hw.arg hq) (hp.arg hq);obtain⟨D,h4,h5⟩:=IK hl n {p with cR:=q'::r} (by have:=JU ha;omega) hws (hp.sub fun x hx=>by rw[ha];exact List.mem_cons_of_mem _ hx);refine⟨C++D,?_,fun b f s hs=>?_⟩
    ·rw[List.length_append,show evs p=evs q+evs {p with cR:=q'::r}from ?_,Nat.pow_add]
     ·have e1:=hpow q (hw.arg hq);have e2:=hpow _ hws;have:=SI e1 e2;omega
     rw[Ki,FC p,ha,if_neg h0];rw[A0.pres,countP_append];unfold evs;omega
    obtain⟨x,ha',hs⟩:=(Sm.i2 h2').1 hs
    rw[ha]at ha'
    rcases List.mem_cons.1 ha' with e|hm
    ·rw[e]at hs;exact List.mem_append_left _ (h3 _ _ _ hs)
    exact List.mem_append_right _ (h5 _ _ _ (Sm.alt (p:={p with cR:=q'::r}) h2' hm hs))
  by_cases h3':p.Op=3
  ·rcases List.eq_nil_or_concat p.cR with ha|⟨r,q,ha⟩
   ·exact absurd ha (hw.self.a1 (by omega) (by omega))
   rw[List.concat_eq_append]at ha
   have hq:q∈p.cR:=by rw[ha];simp
   obtain⟨C,h2,h3⟩:=IK hl n q (by have:=P2 hq;omega) (hw.arg hq) (hp.arg hq)
   by_cases hr:r=[]
   ·subst hr;refine⟨C,Nat.le_trans h2 (Nat.pow_le_pow_right (by omega) (It hq)),fun b f s hs=>?_⟩;exact h3 _ _ _ ((Sm.i3 h3' ha).1 hs)
   have hws:GX {p with cR:=r}:=hw.sub (by omega) (by omega) (fun x hx=>by rw[ha];simp[hx]) hr;obtain⟨D,h4,h5⟩:=IK hl n {p with cR:=r} (by have:=Yj ha;omega) hws (hp.sub fun x hx=>by rw[ha];simp[hx]);refine⟨D.flatMap fun s=>C.map (mrg s),?_,fun b f s hs=>?_⟩
   ·rw[UO,show evs p=evs {p with cR:=r}+evs q from ?_,Nat.pow_add]
    ·exact Nat.mul_le_mul h4 h2
    rw[Ki,FC p,ha,if_neg h0,Cp,countP_append];simp only[A0.pres,append_nil];unfold evs;omega
   obtain⟨u,t,hu,ht,_,rfl⟩:=(Sm.i3c h3' ha hr).1 hs;exact List.mem_flatMap.2 ⟨_,h5 _ _ _ hu,List.mem_map.2 ⟨_,h3 _ _ _ ht,rfl⟩⟩
  obtain⟨q,ha⟩:=hw.self.a2 (by omega)
  have hq:q∈p.cR:=by rw[ha];simp
  obtain⟨C,h2,h3⟩:=IK hl n q (by have:=P2 hq;omega) (hw.arg hq) (hp.arg hq);refine⟨C,Nat.le_trans h2 (Nat.pow_le_pow_right (by omega) (It hq)),fun b f s hs=>?_⟩;exact h3 _ _ _ ((Sm.i5 (by omega) hop.2 ha).1 hs).1
theorem card {l:List A4} {p:A0} (hw:GX p) (hs:JC l.length p) {L:List (List PR)} (hn:L.Nodup) (h:∀s∈L,Gd l s∧∃b f,Sm l p b f s):L.length≤1500:=by
 rcases hs with hs|⟨h1,h2,h3⟩
 ·refine Nat.le_trans (As6 hn fun s m=>?_) hs;obtain⟨g,b,f,hm⟩:=h s m;exact⟨g,hm.vars⟩
 obtain⟨C,h4,h5⟩:=IK h2 _ p (Nat.le_refl _) hw h1
 have:=List.Nodup.length_le_of_subset hn (l₂:=C) fun s m=>by
  obtain⟨g,b,f,hm⟩:=h s m;exact h5 b f s hm
 omega
end
end Go.Ab
namespace Go.Ab
open Classical
noncomputable section
theorem FK {β σ τ:Type}{m:Option (List β×σ)}{f:σ→Option (List β×τ)}{w w':List β}{x:σ}{o:τ}(h1:m=some (w,x))(h2:f x=some (w',o)):O0 m f=some (w++w',o):=by
 unfold O0;rw[h1];simp only[Option.bind_some,h2]
theorem MJ {α β R:Type} {body:Unit→α→Option (List β×(Unit ⊕ R))} {Q:α→β→Prop}:∀{L:List α},(∀x∈L,∃w,body () x=some (w,.inl ())∧∀s,s∈w↔Q x s)→∃W,BF body L ()=some (W,.inl ())∧∀s,s∈W↔∃x∈L,Q x s
 |[],_=>⟨[],rfl,by simp⟩
 |x::L,h=>by
  obtain⟨w,h1,h2⟩:=h x (by simp);obtain⟨W,h3,h4⟩:=MJ (L:=L) fun y hy=>h y (by simp[hy]);refine⟨w++W,by simp only[BF,h1,h3],fun s=>?_⟩;rw[List.mem_append,h2,h4];simp
theorem Oz {α β A:Type} {L:List α} {N:Nat} (hN:L.length<N) {step:Int→Option (List β×(Int ⊕ A))} {u:A} {Q:α→β→Prop}
 (hs:∀(i:Nat) x,L[i]? =some x→(i:Int)<L.length→x∈L→∃w,step (i:Int)=some (w,.inl ((i:Int)+1))∧∀s,s∈w↔Q x s) (he:step (L.length:Int)=some ([],.inr u)):∃W,X1 step N 0=some (W,u)∧∀s,s∈W↔∃x∈L,Q x s:=by
 have key:∀(k i N:Nat),i+k=L.length→k<N→∃W,X1 step N (i:Int)=some (W,u)∧∀s,s∈W↔∃x∈L.drop i,Q x s:=by
  intro k
  induction k with
  |zero=>
   intro i N hi hN;obtain⟨N,rfl⟩:∃m,N=m+1:=⟨N - 1,by omega⟩;rw[List.drop_eq_nil_of_le (by omega),show(i:Int)=L.length by omega];exact⟨[],by simp[X1,he],by simp⟩
  |succ k ih=>
   intro i N hi hN;obtain⟨N,rfl⟩:∃m,N=m+1:=⟨N - 1,by omega⟩
   have hlt:i<L.length:=by omega
   obtain⟨w,h1,h2⟩:=hs i L[i] (by simp[hlt]) (by omega) (List.getElem_mem hlt);obtain⟨W,h3,h4⟩:=ih (i+1) N (by omega) (by omega);rw[List.drop_eq_getElem_cons hlt];refine⟨w++W,?_,fun s=>?_⟩
   ·simp only[X1,h1];rw[show((i:Int)+1)=((i+1:Nat):Int) by omega,h3]
   rw[List.mem_append,h2,h4];simp only[List.mem_cons,or_and_right,exists_or,exists_eq_left]
 simpa using key L.length 0 N (by omega) hN
def GT (s:List BD):ByteArray:=QO (GJ (Jq (H8 s)))
theorem Zo {a b:List UInt8} (h:QO (GJ a)=QO (GJ b)):a=b:=by
 have e0:∀(a:List UInt8) (acc:ByteArray),((GJ a).foldl (fun r n=>r.push (UInt8.ofNat n.toNat)) acc).data.toList=acc.data.toList++a:=fun a=>by
  induction a with
  |nil=>intro acc;simp[GJ]
  |cons x a ih=>
   intro acc
   simp only[GJ,List.map_cons,List.foldl_cons]at ih ⊢
   rw[ih];simp
 have e:∀a:List UInt8,(QO (GJ a)).data.toList=a:=fun a=>by
  have:=e0 a ByteArray.empty
  simpa[QO]using this
 rw[←e a,←e b,h]
theorem WG {l:List A4}(hl:l.length≤10){a b:List BD}(ha:SP l (H8 a))(hb:SP l (H8 b))(h:GT a=GT b):a=b:=Ik (MA hl ha hb (Zo h))
theorem VK {N:Nat}(hN:40000000≤N){l:List A4}(hl:l.length≤10){s:List BD}(g:Gd l (H8 s)):N1 N s=some (GT s):=by
 have:=g.len
 rw[List.length_map]at this
 rw[ZS hN hl (by omega) g.wf];rfl
def Jp (out:List (List BD)):List (ByteArray×Bool):=out.map fun s=>(GT s,true)
theorem WL (out:List (List BD)) (k:ByteArray):∃b,Js (Jp out) k false=some (decide (∃s∈out,GT s=k),b):=by
 unfold Js Jp
 induction out with
 |nil=>exact⟨false,by simp⟩
 |cons x out ih=>
  obtain⟨b,ih⟩:=ih;rw[List.map_cons,List.find?_cons]
  by_cases h:GT x=k
  ·exact⟨true,by simp[h]⟩
  refine⟨b,?_⟩;simp only[h,decide_false];rw[ih];simp[h]
theorem Wa {out:List (List BD)}{s:List BD}(h:¬∃t∈out,GT t=GT s):Iy (Jp out) (GT s) true=some (Jp (out++[s])):=by
 unfold Iy;rw[if_neg]
 ·simp[Jp]
 intro e
 rw[List.any_eq_true]at e
 obtain⟨p,hp,he⟩:=e
 simp only[Jp,List.mem_map]at hp
 obtain⟨t,ht,rfl⟩:=hp;exact h ⟨t,ht,by simpa using he⟩
theorem Rv {N:Nat} (hN:40000000≤N) {l:List A4} (hl:l.length≤10) {R:List (List BD)} (hR:∀s∈R,Gd l (H8 s)) (hc:∀L:List (List BD),L.Nodup→(∀s∈L,s∈R)→L.length≤4096):
 ∃ m out,H7 (fun(s11:(List (ByteArray×Bool))×(List (List A1))) (y10:(List A1))=>
  (
   (N1 N y10).bind fun r17=>
   (Js s11.1 r17 (false:Bool)).bind fun r18=>
   if r18.1=true then
    some (.inl (s11.1,s11.2))
   else
    (Iy s11.1 r17 true).bind fun l20=>
    (H9 s11.2 ([y10])).bind fun l22=>
    ((
     if cmp .gtr (Ar.len l22) 4096=true then
      none
     else
      some ()
    ):Option (Unit)).bind fun s23=>
    if(⟨l,false⟩:B3).full=true then
     some (.inr (l20,l22))
    else
     some (.inl (l20,l22))
   :Option (((List (ByteArray×Bool))×(List (List A1))) ⊕ (((List (ByteArray×Bool))×(List (List A1))))))
  ) R (([]:List (ByteArray×Bool)),[])=some (.inl (m,out))∧out.Nodup∧∀s,s∈out↔s∈R:=by
 obtain⟨s',h1,p,out,h2,h3,h4,h5⟩:=X6 (R:=(List (ByteArray×Bool))×(List (List A1))) (step:=fun(s11:(List (ByteArray×Bool))×(List (List A1))) (y10:(List A1))=>
  (
   (N1 N y10).bind fun r17=>
   (Js s11.1 r17 (false:Bool)).bind fun r18=>
   if r18.1=true then
    some (.inl (s11.1,s11.2))
   else
    (Iy s11.1 r17 true).bind fun l20=>
    (H9 s11.2 ([y10])).bind fun l22=>
    ((
     if cmp .gtr (Ar.len l22) 4096=true then
      none
     else
      some ()
    ):Option (Unit)).bind fun s23=>
    if(⟨l,false⟩:B3).full=true then
     some (.inr (l20,l22))
    else
     some (.inl (l20,l22))
   :Option (((List (ByteArray×Bool))×(List (List A1))) ⊕ (((List (ByteArray×Bool))×(List (List A1)))))))
  (fun r s=>∃p out,p++r=R∧s=(Jp out,out)∧out.Nodup∧∀x,x∈out↔x∈p) (fun y r s ⟨p,out,e1,e2,e3,e4⟩=>by
   subst e2
   have hy:y∈R:=by rw[←e1];simp
   have hout:∀x∈out,x∈R:=fun x hx=>by rw[←e1];simp[(e4 x).1 hx]
   rw[VK hN hl (hR y hy)];simp only[Option.bind_some];obtain⟨b,hb⟩:=WL out (GT y);rw[hb];simp only[Option.bind_some];have hiff:(∃s∈out,GT s=GT y)↔y∈out:=⟨fun⟨s,hs,e⟩=>by rw[←WG hl (hR s (hout s hs)).wf (hR y hy).wf e];exact hs,fun h=>⟨y,h,rfl⟩⟩
   by_cases hm:y∈out
   ·rw[if_pos (decide_eq_true (hiff.2 hm))];refine⟨_,rfl,p++[y],out,by simpa using e1,rfl,e3,fun x=>?_⟩;rw[e4,List.mem_append,List.mem_singleton]
    constructor
    ·exact .inl
    rintro(h|rfl)
    ·exact h
    exact(e4 _).1 hm
   have hn:(out++[y]).Nodup:=by
    rw[List.nodup_append];exact⟨e3,by simp,fun a ha b hb'=>by rw[List.mem_singleton.1 hb'];intro e;exact hm (e▸ha)⟩
   have hlen:(out++[y]).length≤4096:=hc _ hn fun x hx=>by
    rcases List.mem_append.1 hx with h|h
    ·exact hout x h
    rw[List.mem_singleton.1 h];exact hy
   rw[if_neg (by simpa using fun x hx e=>hm (hiff.1 ⟨x,hx,e⟩)),Wa (fun e=>hm (hiff.1 e))];simp only[Option.bind_some];rw[M2 (by simp at hlen ⊢;omega)];simp only[Option.bind_some];rw[if_neg (U3 (by rw[B1];omega))];refine⟨_,rfl,p++[y],out++[y],by simpa using e1,rfl,hn,fun x=>?_⟩
   rw[List.mem_append,List.mem_append,e4]) (l:=R) (s:=([],[])) ⟨[],[],rfl,rfl,by simp,by simp⟩
 subst h3
 rw[append_nil]at h2
 subst h2;exact⟨_,_,h1,h4,h5⟩
def EI (N n:Nat)(c:B3)(p:A0)(o:List BD)(f:Int):Option (List (List BD)):=
 if p.Op=0 then K3 N c p o f else if p.Op=1 then M3 N n c p o f else if p.Op=2 then M4 N n c p o f else if p.Op=3 then M5 N n c p o f else if p.Op=4 then L6 N n c p o f else F2 N n c p o f
def ZA (N n:Nat)(l:List A4)(p:A0)(o:List BD)(f:Int):Prop:=∃L,C8 N n ⟨l,false⟩ p o f=some L∧L.Nodup∧∀s,s∈L↔Sm l p (H8 o) f (H8 s)
theorem FE {l:List A4} {p:A0} (hw:GX p) (hs:JC l.length p) {b:List PR} {f:Int} (ho:IN l b f) {L:List (List BD)} (hn:L.Nodup) (h:∀s∈L,Sm l p b f (H8 s)):L.length≤1500:=by
 have:=card hw hs (L:=L.map H8) (by
  rw[List.Nodup,List.pairwise_map]
  exact hn.imp fun hne e=>hne (Ik e)) fun s hs=>by
   obtain⟨t,ht,rfl⟩:=List.mem_map.1 hs;exact⟨((h t ht).res hw ho).gd,b,f,h t ht⟩
 rwa[List.length_map]at this
theorem Ak0 {N:Nat} (hN:40000000≤N) {l:List A4} (hl:l.length≤10) {p:A0} (hw:GX p) (hs:JC l.length p) {o:List BD} {f:Int} (ho:IN l (H8 o) f) {n:Nat} {R:List (List BD)} (h:EI N n ⟨l,false⟩ p o f=some R) (hm:∀s,s∈R↔Sm l p (H8 o) f (H8 s)):ZA N (n+1) l p o f:=by
 obtain⟨m,out,h1,h2,h3⟩:=Rv hN hl (R:=R) (fun s hs=>(((hm s).1 hs).res hw ho).gd) fun L hL hsub=>by have:=FE hw hs ho hL fun s hs=>(hm s).1 (hsub s hs);omega
 refine⟨out,?_,h2,fun s=>(h3 s).trans (hm s)⟩;have hop:=hw.self.op;unfold C8 AQ
 have key:∀{F:List (List BD)→Option (List (List BD))},((B6 ([fun y1 y2 y3 y4=>K3 N y1 y2 y3 y4,fun y1 y2 y3 y4=>M3 N n y1 y2 y3 y4,fun y1 y2 y3 y4=>M4 N n y1 y2 y3 y4,fun y1 y2 y3 y4=>M5 N n y1 y2 y3 y4,fun y1 y2 y3 y4=>L6 N n y1 y2 y3 y4,fun y1 y2 y3 y4=>F2 N n y1 y2 y3 y4,fun y1 y2 y3 y4=>F2 N n y1 y2 y3 y4,fun y1 y2 y3 y4=>F2 N n y1 y2 y3 y4]:List (B3→A0→(List A1)→Int→Option (List (List A1)))) p.Op).bind fun f7=>(f7 ⟨l,false⟩ p o f).bind F)=F R:=by
  intro F
  have hb:∀{g:B3→A0→(List A1)→Int→Option (List (List A1))} {L:List (B3→A0→(List A1)→Int→Option (List (List A1)))} {i:Int},B6 L i=some g→g ⟨l,false⟩ p o f=some R→((B6 L i).bind fun f7=>(f7 ⟨l,false⟩ p o f).bind F)=F R:=fun e1 e2=>by rw[e1];simp only[Option.bind_some,e2]
  have hc:p.Op=0∨p.Op=1∨p.Op=2∨p.Op=3∨p.Op=4∨p.Op=5∨p.Op=6∨p.Op=7:=by omega
  unfold EI at h
  rcases hc with e|e|e|e|e|e|e|e<;>(rw[e]at h ⊢;exact hb rfl (by simpa using h))
 simp only[Option.bind_some];rw[key,h1];rfl
end
end Go.Ab
