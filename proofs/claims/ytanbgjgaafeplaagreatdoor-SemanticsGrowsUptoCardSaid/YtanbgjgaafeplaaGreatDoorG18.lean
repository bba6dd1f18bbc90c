/- GTV3 GTV5 GTV6 GTV7 GTW0 GTW1 GTW2 GTW3 GTW4 GTW5 -/
import Derived.Test.YtanbgjgaafeplaaGreatDoorG17
set_option linter.all false
open List (append_nil countP_append)
open Go.Ab.Ar (an ar cmp)
namespace Go.Ab
noncomputable section
def Kw (b:Bool):A7:=if b=true then⟨1,1,⟨#[]⟩⟩else⟨1,0,⟨#[]⟩⟩
def Mn (op:Int)(kinds:List Int)(k:Int):Bool:=
 if op=5∨op=6∨op=7∨op=8 then decide (k=0)else if op=10∨op=11∨op=12 then decide (k=1)else if op=9 then decide (k=kinds.getD 0 0)else true
def Kp (op:Int)(kinds:List Int):Int:=if kinds.all (Mn op kinds)=true then 0 else 9
instance (x y:A7):Decidable (x=y):=by
 obtain⟨a,b,c⟩:=x;obtain⟨d,e,f⟩:=y;exact decidable_of_iff (a=d∧b=e∧c=f) (by simp)
def Tz (op:Int)(l:List A7):A7:=
 let a:=l.getD 0 Bs
 let b:=l.getD (l.length - 1) Bs
 if op=9 then Kw (decide (a=l.getD 1 Bs))else if op=5 then⟨0,ar .add .i64 a.Num b.Num,⟨#[]⟩⟩else if op=6 then⟨0,ar .sub .i64 a.Num b.Num,⟨#[]⟩⟩
 else if op=7 then Kw (decide (a.Num<b.Num))else if op=8 then Kw (decide (a.Num≤b.Num))else if op=10 then Kw (decide (a.Num=1)&&decide (b.Num=1))else if op=11 then Kw (decide (a.Num=1)||decide (b.Num=1))else Kw (!decide (a.Num=1))
mutual
def Gk (R:A4→A7×Int):A4→A7×Int
 |⟨op,args,var,field,kind,val⟩=>
  if args.length=0 then R ⟨op,args,var,field,kind,val⟩else
  match Dn R args with
  | .inr f=>(Bs,f)
  | .inl l=>if Kp op (l.map (·.Kind))≠0 then(Bs,Kp op (l.map (·.Kind)))else(Tz op l,0)
def Dn (R:A4→A7×Int):List A4→List A7 ⊕ Int
 |[]=>.inl []
 |a::r=>if(Gk R a).2≠0 then .inr (Gk R a).2 else match Dn R r with| .inr f=>.inr f| .inl l=>.inl ((Gk R a).1::l)
end
theorem Yr (R:A4→A7×Int)(x:A4):Gk R x=if x.cP.length=0 then R x else
 match Dn R x.cP with
 | .inr f=>(Bs,f)
 | .inl l=>if Kp x.Op (l.map (·.Kind))≠0 then(Bs,Kp x.Op (l.map (·.Kind)))else(Tz x.Op l,0):=by cases x;simp only[Gk]
theorem MC {R:A4→A7×Int}:∀{l:List A4} {r:List A7},Dn R l= .inl r→r.length=l.length
 |[],r,h=>by simp only[Dn,Sum.inl.injEq]at h;subst h;rfl
 |a::l,r,h=>by
  simp only[Dn]at h
  split at h
  ·cases h
  cases hr:Dn R l with
  |inr f=>rw[hr]at h;cases h
  |inl q=>rw[hr]at h;simp only[Sum.inl.injEq]at h;subst h;simp[MC hr]
theorem Po (N:Nat)(b:Bool):Z4 N b=some (Kw b):=by
 unfold Z4 Fz Kw;cases b<;>rfl
theorem Ps {N:Nat} (hN:40000000≤N) (op:Int) {kinds:List Int} (hl:kinds.length<1000000):Bz N op kinds=some (Kp op kinds):=by
 unfold Bz Kp;rw[I5 kinds (by omega) (mk:=fun(_:Unit) i=>i) (body:=fun _ k=>some (if Mn op kinds k=true then .inl ()else .inr (.inr ()))) (fin:=fun _=>.inl ()) (s:=()) (by omega) ?_ ?_]
 ·rw[LN (p:=Mn op kinds) (r:=.inr ()) fun x _=>rfl]
  by_cases h:kinds.all (Mn op kinds)=true
  ·rw[if_pos h,if_pos h];rfl
  rw[if_neg h,if_neg h];rfl
 ·intro s i k hk hi;have e:ar .add .i64 (i:Int) 1=i+1:=C3 (by omega) (by omega)
  have h0:B8 kinds 0=some (kinds.getD 0 0):=by
   have:B8 kinds 0=kinds[0]? :=D6 (i:=0);rw[this,List.getD_eq_getElem?_getD,List.getElem?_eq_getElem (by omega)];rfl
  simp only[C1,B3,hi,decide_true,if_true,D6,hk,Option.bind_some,e,C2,h0,T3];unfold Mn
  by_cases a5:op=5
  ·subst a5;by_cases hz:k=0<;>simp[hz]
  by_cases a6:op=6
  ·subst a6;by_cases hz:k=0<;>simp[hz]
  by_cases a7:op=7
  ·subst a7;by_cases hz:k=0<;>simp[hz]
  by_cases a8:op=8
  ·subst a8;by_cases hz:k=0<;>simp[hz]
  by_cases a10:op=10
  ·subst a10;by_cases hz:k=1<;>simp[hz]
  by_cases a11:op=11
  ·subst a11;by_cases hz:k=1<;>simp[hz]
  by_cases a12:op=12
  ·subst a12;by_cases hz:k=1<;>simp[hz]
  by_cases a9:op=9
  ·subst a9;generalize kinds.getD 0 0=z
   by_cases hz:k=z<;>simp[hz]
  simp[a5,a6,a7,a8,a9,a10,a11,a12]
 intro s;simp[C1,B3]
theorem Kn {α:Type} {F:A4→Option (A7×Int)} {R:A4→A7×Int}:∀{l:List A4} {s:List A7×List Int},s.2=s.1.map (·.Kind)→s.1.length+l.length≤1000000→(∀a∈l,F a=some (Gk R a))→
 H6 (fun(s:List A7×List Int) a=>(F a).bind fun r8=>if cmp .neq r8.2 0=true then some (Sum.inr (Sum.inr (α:=α) r8.2))else(K9 s.1 [r8.1]).bind fun l9=>(K9 s.2 [r8.1.Kind]).bind fun l12=>some (.inl (l9,l12))) l s=
  some (match Dn R l with| .inr f=>.inr (.inr f)| .inl q=>.inl (s.1++q,(s.1++q).map (·.Kind)))
 |[],s,h,_,_=>by obtain⟨a,b⟩:=s;dsimp only at h;subst h;simp[H6,Dn]
 | a::l,s,h,hl,hF=>by
  obtain⟨s1,s2⟩:=s
  dsimp only at h;subst h
  simp only[List.length_cons]at hl
  simp only[H6,Dn,hF a (by simp),Option.bind_some,F6]
  by_cases hz:(Gk R a).2=0
  ·simp only[hz,decide_true,Bool.not_true,Bool.false_eq_true,if_false,ne_eq,not_true_eq_false];rw[N7 (by simp;omega),N7 (by simp;omega)];simp only[Option.bind_some];have ih:=Kn (α:=α) (F:=F) (R:=R) (l:=l) (s:=(s1++[(Gk R a).1],s1.map (·.Kind)++[(Gk R a).1.Kind])) (by simp) (by simp;omega) fun b hb=>hF b (by simp[hb])
   simp only[F6]at ih
   rw[ih]
   cases Dn R l with
   |inr f=>rfl
   |inl q=>simp
  simp[hz]
theorem Mu {l:List A7}{i:Nat}(h:i<l.length):l[i]? =some (l.getD i Bs):=by
 rw[List.getD_eq_getElem?_getD,List.getElem?_eq_getElem h];rfl
theorem Wd {N:Nat} (hN:40000000≤N) {env:DH} (he:LH env) (own:Int) (ev:A5) (u:Unit):∀(n:Nat) (x:A4),x.dep≤n→x.bulk≤16777216→(∀y∈x.pre,Y7 y=0)→H7 N n ⟨env,own,ev,u⟩ x=some (Gk (Ml env own ev) x):=by
 intro n
 induction n with
 |zero=>intro x h;rw[A4.dep_eq]at h;omega
 | succ n ih=>
  intro x hd hb hbad;have hx:=hbad x (by rw[A4.pre_eq];simp);have hd':=A4.dep_eq x;unfold H7;rw[Yr]
  by_cases h0:x.cP.length=0
  ·rw[if_pos (by rw[C2,B3];exact decide_eq_true (by omega)),if_pos h0,Wb hN he own ev u hx (List.eq_nil_of_length_eq_zero h0)];rfl
  rw[if_neg (by rw[C2,B3];simpa using(show¬(x.cP.length:Int)=0 by omega)),if_neg h0];obtain⟨a1,a2,a3⟩:=Ol hx
  have hlen:x.cP.length≤2:=by
   split at a3
   ·omega
   split at a3<;>omega
  have hop5:5≤x.Op:=by
   by_cases h5:x.Op<5
   ·rw[if_pos h5]at a3;omega
   omega
  have hF:∀a∈x.cP,H7 N n ⟨env,own,ev,u⟩ a=some (Gk (Ml env own ev) a):=fun a ha=>ih a (by have:=Rv ha;omega) (by have:=Y1 ha;omega) fun y hy=>hbad y (by rw[A4.pre_eq];exact List.mem_cons_of_mem _ (NW ha hy));rw[I5 x.cP (by omega) (mk:=fun(s:List A7×List Int) i=>(s.1,s.2,i)) (body:=fun(s:List A7×List Int) a=>(H7 N n ⟨env,own,ev,u⟩ a).bind fun r8=>if cmp .neq r8.2 0=true then some (.inr (.inr r8.2))else(K9 s.1 [r8.1]).bind fun l9=>(K9 s.2 [r8.1.Kind]).bind fun l12=>some (.inl (l9,l12))) (fin:=fun s=>.inl s) (s:=([],[])) (by omega) ?_ ?_]
  ·rw [Kn (R:=Ml env own ev) rfl (by simp;omega) hF]
   cases hq:Dn (Ml env own ev) x.cP with
   |inr f=>rfl
   | inl q=>
    simp only[Option.bind_some,List.nil_append];have hql:=MC hq;rw[Ps hN _ (by simp;omega)];simp only[Option.bind_some]
    by_cases hz:Kp x.Op (q.map (·.Kind))=0
    ·rw[if_neg (I1 hz),if_neg (show¬Kp x.Op (q.map (·.Kind))≠0 by simpa using hz)]
     have hi0:B8 q 0=some (q.getD 0 Bs):=by
      have:B8 q 0=q[0]? :=D6 (i:=0);rw[this,Mu (by omega)]
     have hiL:B8 q (ar .sub .i64 (Ar.len q) 1)=some (q.getD (q.length - 1) Bs):=by
      have e:ar .sub .i64 (Ar.len q) 1=((q.length - 1:Nat):Int):=by
       have:ar .sub .i64 (Ar.len q) 1=Ar.len q - 1:=CW (by rw[B3];omega) (by rw[B3];omega);rw[this,B3];omega
      rw[e,D6,Mu (by omega)]
     unfold Tz
     by_cases h9:x.Op=9
     ·rw[if_pos (by rw[C2];exact decide_eq_true h9)]
      have h2:x.cP.length=2:=by rw[if_neg (by omega),if_neg (by omega)]at a3;omega
      have hi1:B8 q 1=some (q.getD 1 Bs):=by
       have:B8 q 1=q[1]? :=D6 (i:=1);rw[this,Mu (by omega)]
      rw[hi0,hi1];simp only[Option.bind_some];rw[Po];simp only[Option.bind_some,h9,if_true,Option.some.injEq,Prod.mk.injEq,and_true]
      congr 1
      generalize q.getD 0 Bs=v;generalize q.getD 1 Bs=w;obtain⟨v1,v2,v3⟩:=v;obtain⟨w1,w2,w3⟩:=w;simp only[M9,C2,Fc,A7.mk.injEq,Bool.and_true,Bool.decide_and]
     rw[if_neg (by rw[C2];simpa using h9)];rw[hi0,hiL];simp only[Option.bind_some,P4,AD,AC,AB,AA,Az,Ay,Ax,Po,C2,C1,CU,M9,K1,F6,if_neg h9]
     have hop:x.Op=5∨x.Op=6∨x.Op=7∨x.Op=8∨x.Op=10∨x.Op=11∨x.Op=12:=by omega
     rcases hop with h|h|h|h|h|h|h<;>simp[h]
    rw[if_pos (K0 hz),if_pos hz];rfl
  ·intro s i a ha hi;have e:ar .add .i64 (i:Int) 1=i+1:=C3 (by omega) (by omega);simp only[C1,B3,hi,decide_true,if_true,D6,ha,Option.bind_some,e]
   cases H7 N n ⟨env,own,ev,u⟩ a with
   |none=>rfl
   | some r=>
    simp only[Option.bind_some]
    split
    ·rfl
    cases K9 s.1 [r.1]with
    |none=>rfl
    |some l=>
     simp only[Option.bind_some];cases K9 s.2 [r.1.Kind]<;>rfl
  intro s;simp[C1,B3]
def Rr (env:DH)(own:Int)(ev:A5)(x:A4):A7×Int:=if K2 x=0 then Gk (Ml env own ev) x else(Bs,K2 x)
theorem HS {x:A4}(h:K2 x=0):∀y∈x.pre,Y7 y=0:=by
 unfold K2 at h
 split at h
 ·omega
 split at h
 ·omega
 exact BX.1 h
theorem ZW {N:Nat}(hN:40000000≤N){env:DH}(he:LH env)(own:Int)(ev:A5){x:A4}(hb:x.bulk≤16777216):Fq N x env own ev=some (Rr env own ev x):=by
 unfold Fq Rr;rw[Oi hN hb];simp only[Option.bind_some]
 by_cases h:K2 x=0
 ·rw[if_neg (I1 h),if_pos h];have hd:=MH x;rw[Wd hN he own ev () N x (by omega) hb (HS h)];rfl
 rw[if_pos (K0 h),if_neg h];rfl
end
end Go.Ab
namespace Go.Ab
noncomputable section
open Classical
theorem Ae0 (x y:A7):an (cmp .eql x.Kind y.Kind) (an (cmp .eql x.Num y.Num) (an (Ar.scmp .eql x.Text y.Text) true))=decide (x=y):=by
 rw[Fc];simp only[M9,C2,Bool.and_true];cases x;cases y;simp only[A7.mk.injEq];rw[Bool.eq_iff_iff];simp
def Bk (env:DH)(own:Int)(ev:A5)(x:A4):Bool:=decide ((Rr env own ev x).2=0)&&decide ((Rr env own ev x).1=⟨1,1,⟨#[]⟩⟩)
theorem PY {N:Nat}(hN:40000000≤N){env:DH}(he:LH env)(own:Int)(ev:A5){x:A4}(hb:x.bulk≤16777216):CH N x env own ev=some (Bk env own ev x):=by
 unfold CH Bk;rw[ZW hN he own ev hb];simp only[Option.bind_some];rw[C2]
 by_cases h:(Rr env own ev x).2=0
 ·rw[if_pos (decide_eq_true h),Po];simp only[Option.bind_some,decide_eq_true h,Bool.true_and];rw[Ae0];exact congrArg some (decide_eq_decide.2 Iff.rfl)
 rw[if_neg (by simpa using h),decide_eq_false h];rfl
end
end Go.Ab
namespace Go.Ab
noncomputable section
end
end Go.Ab
namespace Go.Ab
noncomputable section
end
end Go.Ab
namespace Go.Ab
open Classical
noncomputable section
abbrev BD :=A1
abbrev PR :=L8
def pr (b:BD):PR:=⟨b.cU,b.at_⟩
def IT (b:PR):BD:=⟨b.Var,b.At⟩
theorem Zs (b:PR):pr (IT b)=b:=rfl
theorem TM (b:BD):IT (pr b)=b:=rfl
abbrev G4 (s:List BD):List PR:=s.map pr
theorem P8 (s:List PR):G4 (s.map IT)=s:=by rw[G4,List.map_map];exact(List.map_congr_left fun x _=>Zs x).trans (List.map_id s)
theorem Af2 {a b:BD}(h:pr a=pr b):a=b:=by have:=congrArg IT h;simpa[TM]using this
theorem Ht {a b:List BD}(h:G4 a=G4 b):a=b:=(List.map_inj_right (fun _ _ h=>Af2 h)).1 h
def mrg :List PR→List PR→List PR
 |[],b=>b
 |x::a,[]=>x::a
 |x::a,y::b=>if x.At<y.At then x::mrg a (y::b)else y::mrg (x::a) b
 termination_by a b=>a.length+b.length
theorem HB (b:List PR):mrg [] b=b:=by unfold mrg;rfl
theorem Je (a:List PR):mrg a []=a:=by cases a<;>(unfold mrg;rfl)
theorem Jf (x y:PR)(a b:List PR):mrg (x::a) (y::b)=if x.At<y.At then x::mrg a (y::b)else y::mrg (x::a) b:=by rw[mrg]
theorem GU :∀(n:Nat) (a b:List PR),a.length+b.length≤n→(mrg a b).Perm (a++b)
 |_,[],b,_=>by rw[HB];exact .refl _
 |_,x::a,[],_=>by rw[Je];simp
 |0,x::a,y::b,h=>by simp at h
 |n+1,x::a,y::b,h=>by
  simp only[List.length_cons]at h
  rw[Jf]
  split
  ·exact(GU n a (y::b) (by simp;omega)).cons x
  exact((GU n (x::a) b (by simp;omega)).cons y).trans (List.perm_middle.symm)
theorem X5 {a b:List PR}{x:PR}:x∈mrg a b↔x∈a∨x∈b:=by rw[(GU _ a b (Nat.le_refl _)).mem_iff,List.mem_append]
theorem OT (a b:List PR):(mrg a b).length=a.length+b.length:=by rw[(GU _ a b (Nat.le_refl _)).length_eq,List.length_append]
def Wu (a:List PR):Prop:=a.Pairwise fun x y=>x.At<y.At
def Cw (a b:List PR):Prop:=∀x∈a,∀y∈b,x.At≠y.At
theorem KX :∀(n:Nat) {a b:List PR},a.length+b.length≤n→Wu a→Wu b→Cw a b→Wu (mrg a b)
 |_,[],b,_,_,hb,_=>by rw[HB];exact hb
 |_,x::a,[],_,ha,_,_=>by rw[Je];exact ha
 |0,x::a,y::b,h,_,_,_=>by simp at h
 | n+1,x::a,y::b,h,ha,hb,hd=>by
  simp only[List.length_cons]at h
  unfold Wu at ha hb
  rw[List.pairwise_cons]at ha hb
  rw[Jf];have hxy:=hd x (by simp) y (by simp)
  split
  ·rename_i hlt;refine List.pairwise_cons.2 ⟨fun z hz=>?_,KX n (by simp;omega) ha.2 (List.pairwise_cons.2 hb) fun u hu v hv=>hd u (by simp[hu]) v hv⟩
   rcases X5.1 hz with hz|hz
   ·exact ha.1 z hz
   rcases List.mem_cons.1 hz with rfl|hz
   ·exact hlt
   have:=hb.1 z hz;omega
  rename_i hlt;refine List.pairwise_cons.2 ⟨fun z hz=>?_,KX n (by simp;omega) (List.pairwise_cons.2 ha) hb.2 fun u hu v hv=>hd u hu v (by simp[hv])⟩
  rcases X5.1 hz with hz|hz
  ·rcases List.mem_cons.1 hz with rfl|hz
   ·omega
   have:=ha.1 z hz;omega
  exact hb.1 z hz
theorem Lr {α:Type}(x:α)(l:List α):Ap (x::l) (some 1) none none=some l:=by
 unfold Ap;rw[if_pos (by simp;omega)];simp
def InS (n:Int)(s:List PR):Prop:=∀x∈s,0≤x.At∧x.At<n
theorem Hr {a b:Int}(h0: -9223372036854775808≤a - b)(h1:a - b<9223372036854775808):ar .sub .i64 a b=a - b:=CW h0 h1
theorem Lb {N:Nat} {a b:List BD} {n:Int} (hn:n≤1000000) (hla:a.length≤1000000) (hlb:b.length≤1000000) (ha:Wu (G4 a)) (hb:Wu (G4 b)) (hd:Cw (G4 a) (G4 b)) (ia:InS n (G4 a)) (ib:InS n (G4 b)):
 ∃c,K7 N a b=some c∧G4 c=mrg (G4 a) (G4 b):=by
 refine⟨(mrg (G4 a) (G4 b)).map IT,?_,P8 _⟩;unfold K7
 have h1:RV 0 (ar .add .i64 (Ar.len a) (Ar.len b)) (⟨0,0⟩:BD)=some []:=by
  rw[B3,B3,C3 (by omega) (by omega)];unfold RV;rw[if_pos (by omega)];rfl
 rw[h1];simp only[Option.bind_some];rw[N7 (by simp;omega)];simp only[Option.bind_some,List.nil_append];rw[N7 (by omega)];simp only[Option.bind_some];have hm:=KX _ (Nat.le_refl _) ha hb hd;have hin:∀x∈mrg (G4 a) (G4 b),0≤x.At∧x.At<n:=fun x hx=>(X5.1 hx).elim (ia x) (ib x)
 have hs:GC (fun y1 y2=>AZ N y1 y2) (a++b)=some ((mrg (G4 a) (G4 b)).map IT):=by
  refine Qg ?_ (BP.2 ⟨?_,?_⟩) (by simp;omega)
  ·have:=(GU _ (G4 a) (G4 b) (Nat.le_refl _)).map IT;refine this.trans (List.Perm.of_eq ?_);rw[←List.map_append,List.map_map];exact(List.map_congr_left fun x _=>TM x).trans (List.map_id _)
  ·intro x _
   show(match some (ar .sub .i64 x.at_ x.at_)with|some c=>decide (0≤c)|none=>false)=true
   rw[Hr (by omega) (by omega)];simp
  rw[List.pairwise_map];refine List.Pairwise.imp_of_mem (fun{x y} hx hy hlt=>?_) hm;have:=hin x hx;have:=hin y hy
  constructor
  ·show(match some (ar .sub .i64 x.At y.At)with|some c=>decide (c<0)|none=>false)=true
   rw[Hr (by omega) (by omega)];simp;omega
  show(match some (ar .sub .i64 y.At x.At)with|some c=>decide (0≤c)|none=>false)=true
  rw[Hr (by omega) (by omega)];simp;omega
 rw[hs];rfl
def IA (s:List PR)(i:Int):Bool:=s.any fun x=>decide (x.At=i)
def JS (a b:List PR):Bool:=a.any fun x=>IA b x.At
theorem Pg {s:List PR}{i:Int}:IA s i=true↔∃x∈s,x.At=i:=by simp[IA]
theorem NJ {a b:List PR}:JS a b=false↔Cw a b:=by
 unfold JS Cw;rw[List.any_eq_false]
 constructor
 ·intro h x hx y hy e;exact h x hx (Pg.2 ⟨y,hy,e.symm⟩)
 intro h x hx hc;obtain⟨y,hy,e⟩:=Pg.1 hc;exact h x hx y hy e.symm
theorem Q0 {α:Type}{l:List α}{i:Int}(h:i<l.length):cmp .lss i (Ar.len l)=true:=Ch h
theorem N8 {α:Type}{l:List α}:¬cmp .lss (l.length:Int) (Ar.len l)=true:=Bw (Int.lt_irrefl _)
theorem Mj {α A B:Type} {N:Nat} {l:List α} (hl:l.length<N) (hN:l.length<1000000000) {step:Int→Option (Int ⊕ (A ⊕ B))} (P:α→Bool) (u:A) (r:Int→B)
 (hstep:∀(i:Nat) x,l[i]? =some x→(i:Int)<l.length→step i=some (if P x=true then .inr (.inr (r i))else .inl ((i:Int)+1)))
 (hend:step (l.length:Int)=some (.inr (.inl u))):∃i,loopN step N 0=some (if l.any P=true then .inr (r i)else .inl u)∧0≤i:=by
 have key:∀(k i n:Nat),i+k=l.length→k<n→∃j,loopN step n (i:Int)=some (if(l.drop i).any P=true then .inr (r j)else .inl u)∧0≤j:=by
  intro k
  induction k with
  |zero=>
   intro i n hi hn;obtain⟨n,rfl⟩:∃m,n=m+1:=⟨n - 1,by omega⟩;refine⟨0,?_,by omega⟩;rw[List.drop_eq_nil_of_le (by omega),show(i:Int)=l.length by omega];simp[loopN,hend]
  | succ k ih=>
   intro i n hi hn;obtain⟨n,rfl⟩:∃m,n=m+1:=⟨n - 1,by omega⟩
   have hlt:i<l.length:=by omega
   obtain⟨j,h,hj⟩:=ih (i+1) n (by omega) (by omega);rw[List.drop_eq_getElem_cons hlt,List.any_cons];have hs:=hstep i l[i] (by simp[hlt]) (by omega)
   by_cases hp:P l[i]=true
   ·refine⟨i,?_,by omega⟩
    rw[if_pos hp]at hs
    simp[loopN,hs,hp]
   refine⟨j,?_,hj⟩
   rw[if_neg hp]at hs
   simp only[loopN,hs];rw[show((i:Int)+1)=((i+1:Nat):Int) by omega,h];simp[hp]
 obtain⟨j,h,hj⟩:=key l.length 0 N (by omega) hl;exact⟨j,by simpa using h,hj⟩
theorem DO {α:Type}{N:Nat}{l:List α}{step:Int→Option (Int ⊕ (Unit ⊕ Unit))}(P:α→Bool)(hl:l.length<N)(hN:l.length<1000000000)
 (hstep:∀(i:Nat) x,l[i]? =some x→(i:Int)<l.length→step i=some (if P x=true then .inr (.inr ())else .inl ((i:Int)+1)))
 (hend:step (l.length:Int)=some (.inr (.inl ()))):loopN step N 0=some (if l.any P=true then .inr ()else .inl ()):=by
 obtain⟨_,h,_⟩:=Mj hl hN P () (fun _=>()) hstep hend;exact h
theorem JU {α S σ R:Type} {L:List α} {N:Nat} {step:S→Option (S ⊕ R)} (mk:σ→Int→S) (g:σ→α→σ) (fin:σ→R) (Inv:Nat→σ→Prop) {s0:σ} (hN:L.length<N) (hl:L.length<1000000000) (h0:Inv 0 s0)
 (hs:∀s (i:Nat) x,L[i]? =some x→(i:Int)<L.length→x∈L→ar .add .i64 (i:Int) 1=i+1→Inv i s→step (mk s i)=some (.inl (mk (g s x) ((i:Int)+1)))∧Inv (i+1) (g s x)) (he:∀s,step (mk s L.length)=some (.inr (fin s))):loopN step N (mk s0 0)=some (fin (L.foldl g s0))∧Inv L.length (L.foldl g s0):=by
 have key:∀(k i N:Nat) (s:σ),i+k=L.length→k<N→Inv i s→loopN step N (mk s (i:Int))=some (fin ((L.drop i).foldl g s))∧Inv L.length ((L.drop i).foldl g s):=by
  intro k
  induction k with
  |zero=>
   intro i N s hi hN ho;obtain⟨N,rfl⟩:∃m,N=m+1:=⟨N - 1,by omega⟩
   have e:i=L.length:=by omega
   subst e;rw[List.drop_length];exact⟨by simp[loopN,he],ho⟩
  |succ k ih=>
   intro i N s hi hN ho;obtain⟨N,rfl⟩:∃m,N=m+1:=⟨N - 1,by omega⟩
   have hlt:i<L.length:=by omega
   obtain⟨h1,h2⟩:=hs s i L[i] (by simp[hlt]) (by omega) (List.getElem_mem hlt) (C3 (by omega) (by omega)) ho;rw[List.drop_eq_getElem_cons hlt];simp only[loopN,h1];exact ih (i+1) N _ (by omega) (by omega) h2
 simpa using key L.length 0 N s0 (by omega) hN h0
theorem Jr {N:Nat} (hN:40000000≤N) {s:List BD} (hl:s.length≤1000000) {f:BD→Option Bool} {P:BD→Bool} (hf:∀x∈s,f x=some (P x)):G3 N s f=some (s.any P):=by
 unfold G3 O3
 obtain⟨j,h,hj⟩:=Mj (N:=N) (l:=s) (by omega) (by omega) (A:=Unit) (B:=Int) (step:=(fun(s1:Int)=>
  (
   if cmp .lss s1 (Ar.len s)=true then
    (B8 s s1).bind fun x3=>
    (f x3).bind fun r4=>
    if r4=true then
     some (.inr (.inr s1))
    else
     some (.inl (ar .add .i64 s1 1))
   else
    some (.inr (.inl ()))
   :Option ((Int) ⊕ (Unit ⊕ Int))))) P () (fun i=>i) (fun i x hx hi=>by
  have e:ar .add .i64 (i:Int) 1=i+1:=C3 (by omega) (by omega);simp only[C1,B3,hi,decide_true,if_true,D6,hx,Option.bind_some,e,hf x (List.mem_of_getElem? hx)]
  split<;>rfl) (by simp[C1,B3])
 rw[h]
 by_cases ha:s.any P=true
 ·rw[if_pos ha,ha];simp only[Option.bind_some,N6,decide_eq_true hj]
 rw[if_neg ha];simp only[Option.bind_some,N6]
 rw[Bool.not_eq_true]at ha
 rw[ha];rfl
theorem TR {N:Nat}(hN:40000000≤N){s:List BD}(hl:s.length≤1000000)(i:Int):S3 N s i=some (IA (G4 s) i):=by
 unfold S3;rw[Jr hN hl (f:=fun y1=>T6 N y1 i) (P:=fun x=>decide (x.at_=i)) fun x _=>rfl];simp only[Option.bind_some,IA,G4,List.any_map];rfl
theorem Va {N:Nat}(hN:40000000≤N){a b:List BD}(ha:a.length≤1000000)(hb:b.length≤1000000):Aj N a b=some (JS (G4 a) (G4 b)):=by
 unfold Aj;rw[Jr hN ha (P:=fun x=>IA (G4 b) x.at_) fun x _=>by unfold W9;rw[TR hN hb];rfl];simp only[Option.bind_some,JS,G4,List.any_map];rfl
def Rh (s:List PR):Int:=match s with|[]=>0|x::_=>x.At
def Z2 (s:List PR):Int:=match s.getLast? with|none=>0|some x=>x.At
theorem Rg {α:Type} {l:List α} (h:l≠[]) (hl:l.length≤1000000):B8 l (ar .sub .i64 (Ar.len l) 1)=l.getLast? :=by
 rcases List.eq_nil_or_concat l with rfl|⟨q,y,rfl⟩
 ·exact absurd rfl h
 rw[List.concat_eq_append]at *
 have e1:ar .sub .i64 (Ar.len (q++[y])) 1=(q.length:Int):=by
  have:ar .sub .i64 (Ar.len (q++[y])) 1=Ar.len (q++[y]) - 1:=Hr (by rw[B3];omega) (by rw[B3];omega);rw[this,B3];simp
 rw[e1,D6];simp
theorem CF {s:List PR}(h:s≠[]):∃x,s.getLast? =some x∧x∈s∧Z2 s=x.At:=by
 cases hs:s.getLast? with
 |none=>exact absurd (List.getLast?_eq_none_iff.1 hs) h
 |some x=>exact⟨x,rfl,List.mem_of_getLast? hs,by simp[Z2,hs]⟩
theorem Qj {N:Nat}{s:List BD}(h:s≠[])(hl:s.length≤1000000):K4 N s=some (Z2 (G4 s)):=by
 unfold K4;rw[Rg h hl];unfold Z2;rw[G4,List.getLast?_map]
 cases hs:s.getLast? with
 |none=>exact absurd (List.getLast?_eq_none_iff.1 hs) h
 |some x=>rfl
theorem Jk {α:Type}(x:α)(l:List α):B8 (x::l) 0=some x:=rfl
theorem MQ {s:List PR}(ha:Wu s):∀x∈s,x.At≤Z2 s:=by
 intro x hx
 rcases List.eq_nil_or_concat s with rfl|⟨q,y,rfl⟩
 ·cases hx
 rw[List.concat_eq_append]at *
 have e:Z2 (q++[y])=y.At:=by simp[Z2]
 rw[e]
 unfold Wu at ha
 rw[List.pairwise_append]at ha
 rcases List.mem_append.1 hx with h|h
 ·have:=ha.2.2 x h y (by simp);omega
 rw[List.mem_singleton.1 h];exact Int.le_refl _
theorem UL :∀{s:List PR} {k:Int} {m:Nat},Wu s→(∀x∈s,k≤x.At∧x.At<k+m)→s.length≤m
 |[],_,_,_,_=>Nat.zero_le _
 |x::s,k,m,ha,h=>by
  unfold Wu at ha
  rw[List.pairwise_cons]at ha
  have hx:=h x (by simp);obtain⟨m,rfl⟩:∃q,m=q+1:=⟨m - 1,by omega⟩
  have:=UL (s:=s) (k:=x.At+1) (m:=m) ha.2 fun y hy=>by have:=ha.1 y hy;have:=h y (by simp[hy]);omega
  simp;omega
end
end Go.Ab
namespace Go.Ab
open Classical
noncomputable section
def JN (l:List A5)(s:List PR)(b v:Int):List A5:=s.filterMap fun x=>if x.At<b∧x.Var=v then l[x.At.toNat]? else none
def He (l:List A5)(s:List PR)(b:Int):DH:=⟨(List.range 16).map fun(v:Nat)=>JN l s b (v:Int)⟩
def UO (l:List A5)(s:List PR):Prop:=∀x∈s,(0≤x.Var∧x.Var<16)∧(0≤x.At∧x.At<l.length)
theorem UO.ins {l:List A5}{s:List PR}(h:UO l s):InS l.length s:=fun x hx=>(h x hx).2
theorem Qw (l:List A5)(s:List PR)(b v:Int):(JN l s b v).length≤s.length:=List.length_filterMap_le ..
theorem NX (l:List A5){s:List PR}(hs:s.length<1000000)(b:Int):LH (He l s b):=by
 constructor
 ·simp[He]
 intro r hr
 simp only[He,List.mem_map]at hr
 obtain⟨v,_,rfl⟩:=hr;have:=Qw l s b v;omega
theorem NB (l:List A5)(p:List PR)(x:PR)(b v:Int):JN l (p++[x]) b v=JN l p b v++(if x.At<b∧x.Var=v then(l[x.At.toNat]?).toList else[]):=by
 unfold JN;rw[List.filterMap_append]
 congr 1
 by_cases h:x.At<b∧x.Var=v
 ·simp only[List.filterMap_cons,List.filterMap_nil,if_pos h];cases l[x.At.toNat]? <;>rfl
 simp only[List.filterMap_cons,List.filterMap_nil,if_neg h]
theorem SF {α R:Type} (f:α→PR) (l:List A5) (b:Int) {s:List α} (hs:s.length≤1000000) (hw:UO l (s.map f)):
 H6 (R:=R) (fun rows x=>if cmp .lss (f x).At b=true then(B8 rows (f x).Var).bind fun x9=>(B8 l (f x).At).bind fun x14=>(K9 x9 [x14]).bind fun l15=>(Gp rows (f x).Var (fun _=>l15)).bind fun l13=>some (.inl l13)else some (.inl rows)) s (List.replicate 16 [])=
  some (.inl ((List.range 16).map fun(v:Nat)=>JN l (s.map f) b (v:Int))):=by
 obtain⟨s',h1,p,h2,h3⟩:=Z1 (R:=R) (step:=fun rows x=>if cmp .lss (f x).At b=true then(B8 rows (f x).Var).bind fun x9=>(B8 l (f x).At).bind fun x14=>(K9 x9 [x14]).bind fun l15=>(Gp rows (f x).Var (fun _=>l15)).bind fun l13=>some (.inl l13)else some (.inl rows))
  (fun r rows=>∃p,p++r=s∧rows=(List.range 16).map fun(v:Nat)=>JN l (p.map f) b (v:Int)) (fun x r rows ⟨p,e1,e2⟩=>by
   subst e2
   have hx:x∈s:=by rw[←e1];simp
   obtain⟨⟨v0,v1⟩,a0,a1⟩:=hw (f x) (List.mem_map.2 ⟨x,hx,rfl⟩)
   have hpl:p.length≤1000000:=by have:=congrArg List.length e1;simp at this;omega
   by_cases hb:(f x).At<b
   ·rw[if_pos (by rw[C1];exact decide_eq_true hb)]
    generalize hv:(f x).Var=vv at *
    generalize ha:(f x).At=aa at *
    obtain⟨v,rfl⟩:=Int.eq_ofNat_of_zero_le v0;obtain⟨a,rfl⟩:=Int.eq_ofNat_of_zero_le a0
    have hva:v<16:=by omega
    have haa:a<l.length:=by omega
    have e1':B8 ((List.range 16).map fun(v:Nat)=>JN l (p.map f) b (v:Int)) (v:Int)=some (JN l (p.map f) b v):=by
     rw[D6];simp[hva]
    have e2':B8 l (a:Int)=some l[a]:=by rw[D6];simp[haa]
    have hpl':=Qw l (p.map f) b v;simp only[e1',e2',Option.bind_some];rw[N7 (by simp at hpl' ⊢;omega)];simp only[Option.bind_some];refine⟨_,by unfold Gp;rw[e1'];rfl,p++[x],by simpa using e1,?_⟩;apply List.ext_getElem?;intro j;rw[List.getElem?_set]
    by_cases hj:j<16
    ·simp only[List.getElem?_map,List.getElem?_range hj,List.map_append,List.map_cons,List.map_nil,NB,hv,ha,Int.toNat_natCast,List.length_map,List.length_range,Option.map_some]
     by_cases hjv:v=j
     ·subst hjv;simp[hb,hj,haa]
     have:¬((v:Int)=(j:Int)):=by omega
     simp[hjv,this]
    have:¬(v=j):=by omega
    simp[hj,this]
   rw[if_neg (by rw[C1];simpa using hb)];refine⟨_,rfl,p++[x],by simpa using e1,?_⟩;apply List.map_congr_left;intro v _
   rw[List.map_append,List.map_cons,List.map_nil,NB,if_neg (by omega),append_nil]) (l:=s) (s:=List.replicate 16 []) ⟨[],rfl,by simp[JN];rfl⟩
 rw[h1]
 rw[append_nil]at h2
 rw[h3,h2]
theorem TS {N:Nat} (hN:40000000≤N) {l:List A5} {s:List BD} (hs:s.length≤1000000) (hw:UO l (G4 s)) (f:Bool) (b:Int):P7 N ⟨l,f⟩ s b=some (He l (G4 s) b):=by
 unfold P7;have h1:RV 16 16 ([]:List A5)=some (List.replicate 16 []):=rfl;rw[h1];simp only[Option.bind_some];rw[I5 s (by omega) (mk:=fun(rows:List (List A5)) i=>(i,rows)) (body:=fun rows x=>if cmp .lss (pr x).At b=true then(B8 rows (pr x).Var).bind fun x9=>(B8 l (pr x).At).bind fun x14=>(K9 x9 [x14]).bind fun l15=>(Gp rows (pr x).Var (fun _=>l15)).bind fun l13=>some (.inl l13)else some (.inl rows)) (fin:=fun s=>s) (s:=List.replicate 16 []) (by omega) ?_ ?_]
 ·rw[SF pr l b hs hw];rfl
 ·intro rows i x hx hi;have e:ar .add .i64 (i:Int) 1=i+1:=C3 (by omega) (by omega);simp only[C1,B3,hi,decide_true,if_true,D6,hx,Option.bind_some,e]
  show(if decide (x.at_<b)=true then _ else _)=Option.bind (if decide (x.at_<b)=true then _ else _) _
  by_cases hb:x.at_<b
  ·rw [if_pos (decide_eq_true hb),if_pos (decide_eq_true hb)]
   show((B8 rows x.cU).bind _)=((B8 rows x.cU).bind _).bind _
   cases B8 rows x.cU with
   |none=>rfl
   | some r=>
    simp only[Option.bind_some]
    show((B8 l x.at_).bind _)=((B8 l x.at_).bind _).bind _
    cases B8 l x.at_ with
    |none=>rfl
    | some y=>
     simp only[Option.bind_some]
     cases K9 r [y]with
     |none=>rfl
     |some q=>
      simp only[Option.bind_some]
      show((Gp rows x.cU _).bind _)=((Gp rows x.cU _).bind _).bind _
      cases Gp rows x.cU fun _=>q<;>rfl
  rw[if_neg (by simpa using hb),if_neg (by simpa using hb)];rfl
 intro s;simp[C1,B3]
theorem EV {l:List A5}{i:Nat}(h:i<l.length):B8 l (i:Int)=some l[i]:=by rw[D6];simp[h]
theorem IY {N:Nat}(hN:40000000≤N){l:List A5}{s:List BD}(hs:s.length<1000000)(hw:UO l (G4 s))(f:Bool){c:A4}(hc:c.bulk≤16777216)(own:Int){i:Nat}(hi:i<l.length):
 G5 N ⟨l,f⟩ c s own i=some (Bk (He l (G4 s) i) own l[i] c):=by
 unfold G5;rw[TS hN (by omega) hw];simp only[Option.bind_some];rw[EV hi];simp only[Option.bind_some];rw[PY hN (NX l (by simpa using hs) _) own _ hc];rfl
def YM {β:Type}(T:Nat→Bool)(g:Nat→β):Nat→Nat→List β
 |0,_=>[]
 |k+1,i=>if T i=true then g i::YM T g k (i+1)else YM T g k (i+1)
theorem PX {β:Type}(T:Nat→Bool)(g:Nat→β)(k i:Nat):YM T g (k+1) i=if T i=true then g i::YM T g k (i+1)else YM T g k (i+1):=rfl
theorem Uq {β:Type} {T:Nat→Bool} {g:Nat→β} {x:β}:∀{k i:Nat},x∈YM T g k i↔∃j,i≤j∧j<i+k∧T j=true∧x=g j
 |0,i=>by simp[YM];intro j a b;omega
 | k+1,i=>by
  rw[PX];have ih:=Uq (T:=T) (g:=g) (x:=x) (k:=k) (i:=i+1)
  constructor
  ·intro h
   by_cases ht:T i=true
   ·rw[if_pos ht]at h
    rcases List.mem_cons.1 h with h|h
    ·exact⟨i,by omega,by omega,ht,h⟩
    obtain⟨j,a,b,c⟩:=ih.1 h;exact⟨j,by omega,by omega,c⟩
   rw[if_neg ht]at h
   obtain⟨j,a,b,c⟩:=ih.1 h;exact⟨j,by omega,by omega,c⟩
  rintro⟨j,a,b,c,d⟩
  by_cases hij:j=i
  ·subst hij;rw[if_pos c,d];simp
  have:=ih.2 ⟨j,by omega,by omega,c,d⟩
  split
  ·exact List.mem_cons_of_mem _ this
  exact this
theorem Rb {β A:Type} {n:Nat} {step:Int→Option (List β×(Int ⊕ A))} {T:Nat→Bool} {g:Nat→β} {u:A} (hs:∀i,i<n→step (i:Int)=some (if T i=true then[g i]else[],.inl ((i:Int)+1))) (he:step (n:Int)=some ([],.inr u)):
 ∀(k i N:Nat),i+k=n→k<N→V8 step N (i:Int)=some (YM T g k i,u)
 |0,i,N,h,hN=>by
  obtain⟨N,rfl⟩:∃m,N=m+1:=⟨N - 1,by omega⟩;rw[show(i:Int)=n by omega];simp[V8,he,YM]
 |k+1,i,N,h,hN=>by
  obtain⟨N,rfl⟩:∃m,N=m+1:=⟨N - 1,by omega⟩;have ih:=Rb hs he k (i+1) N (by omega) (by omega);simp only[V8,hs i (by omega)];rw[show((i:Int)+1)=((i+1:Nat):Int) by omega,ih];rw[PX]
  by_cases ht:T i=true<;>simp[ht]
end
end Go.Ab
namespace Go.Ab
open Classical
noncomputable section
theorem Mi {A:Type} {n:Nat} {step:Int→Option (Int ⊕ (A ⊕ Unit))} {P:Nat→Bool} {u:A} (m:Nat) (hs:∀i,m≤i→i<n→step (i:Int)=some (if P i=true then .inr (.inr ())else .inl ((i:Int)+1))) (he:∀i:Nat,n≤i→step (i:Int)=some (.inr (.inl u))):
 ∀(k i N:Nat),n≤i+k→m≤i→k<N→loopN step N (i:Int)=some (if(List.range' i (n - i)).any P=true then .inr ()else .inl u)
 |0,i,N,h,_,hN=>by
  obtain⟨N,rfl⟩:∃m,N=m+1:=⟨N - 1,by omega⟩;rw[show n - i=0 by omega];simp[loopN,he i (by omega)]
 | k+1,i,N,h,hm,hN=>by
  obtain⟨N,rfl⟩:∃m,N=m+1:=⟨N - 1,by omega⟩
  by_cases hi:i<n
  ·have ih:=Mi m hs he k (i+1) N (by omega) (by omega) (by omega);simp only[loopN,hs i hm hi];rw[show n - i=(n - (i+1))+1 by omega,List.range'_succ,List.any_cons]
   by_cases hp:P i=true
   ·simp[hp]
   rw[if_neg hp]
   dsimp only
   rw[show((i:Int)+1)=((i+1:Nat):Int) by omega,ih];simp[hp]
  rw[show n - i=0 by omega];simp[loopN,he i (by omega)]
def HL (l:List A5)(i:Int):Int:=match l[i.toNat]? with|some e=>e.Time|none=>0
def Gm (l:List A5)(p:A0)(b s:List PR)(i:Nat):Bool:=match l[i]? with|some e=>decide (e.Typ=p.Typ)&&(!IA s i)&&Bk (He l (mrg b s) i) p.Var e p.cQ|none=>false
def IG (l:List A5)(p:A0)(b s:List PR):Bool:= !((List.range l.length).any fun i=>decide (Rh s<(i:Int))&&decide ((i:Int)<Z2 s)&&Gm l p b s i)
def keepsA (l:List A5)(p:A0)(b s:List PR):Bool:=
 if p.Op=6 then decide (ar .sub .i64 (HL l (Z2 s)) (HL l (Rh s))≤p.Span)else if p.Op=7 then Bk (He l (mrg b s) l.length) (-1) ⟨0,0,0,0,[]⟩ p.cQ else IG l p b s
structure Gd (l:List A5) (s:List PR):Prop where
 wf:UO l s
 asc:Wu s
theorem Gd.len {l:List A5}{s:List PR}(h:Gd l s):s.length≤l.length:=UL (k:=0) h.asc fun x hx=>by have:=(h.wf x hx).2;omega
theorem Gd.nil (l:List A5):Gd l []:=⟨fun _ h=>absurd h List.not_mem_nil,List.Pairwise.nil⟩
theorem Gd.mrg {l:List A5}{a b:List PR}(ha:Gd l a)(hb:Gd l b)(h:Cw a b):Gd l (mrg a b):=⟨fun x hx=>(X5.1 hx).elim (ha.wf x) (hb.wf x),KX _ (Nat.le_refl _) ha.asc hb.asc h⟩
theorem Gd.lst {l:List A5}{s:List PR}(h:Gd l s)(hn:s≠[]):0≤Z2 s∧Z2 s<l.length:=by
 obtain⟨x,_,hx,e⟩:=CF hn;rw[e];exact(h.wf x hx).2
theorem Gd.hd {l:List A5} {s:List PR} (h:Gd l s) (hn:s≠[]):0≤Rh s∧Rh s<l.length∧Rh s≤Z2 s∧IA s (Rh s)=true:=by
 cases s with
 |nil=>exact absurd rfl hn
 |cons x s=>
  have:=(h.wf x (by simp)).2;exact⟨this.1,this.2,MQ h.asc x (by simp),Pg.2 ⟨x,by simp,rfl⟩⟩
theorem TN {l:List A5}{i:Int}(h0:0≤i)(h1:i<l.length):∃e,B8 l i=some e∧e.Time=HL l i:=by
 obtain⟨i,rfl⟩:=Int.eq_ofNat_of_zero_le h0
 have hi:i<l.length:=by omega
 exact⟨l[i],EV hi,by simp[HL,hi]⟩
theorem ZR {s:List BD}(h:s≠[]):∃x,B8 s 0=some x∧x.at_=Rh (G4 s):=by
 cases s with
 |nil=>exact absurd rfl h
 |cons x s=>exact⟨x,rfl,rfl⟩
theorem Af1 {s:List BD}(h:s≠[]):G4 s≠[]:=fun e=>h (List.map_eq_nil_iff.1 e)
theorem VN {l:List A5} {p:A0} {b s:List PR} {a n:Nat} (h1:(a:Int)≤Rh s+1) (h2:Rh s≤(a:Int)) (hn:(n:Int)=Z2 s) (hh:IA s (Rh s)=true) (hl:Z2 s<l.length):
 (List.range' a (n - a)).any (Gm l p b s)= !IG l p b s:=by
 unfold IG;rw[Bool.not_not,Bool.eq_iff_iff,List.any_eq_true,List.any_eq_true]
 constructor
 ·rintro⟨i,hi,hb⟩
  rw[List.mem_range'_1]at hi
  refine⟨i,List.mem_range.2 (by omega),?_⟩
  have hne:Rh s≠(i:Int):=by
   intro e
   rw[e]at hh
   unfold Gm at hb
   split at hb
   ·rw[hh]at hb;simp at hb
   cases hb
  simp only[Bool.and_eq_true,decide_eq_true_eq];exact⟨⟨by omega,by omega⟩,hb⟩
 rintro⟨i,hi,hb⟩
 simp only[Bool.and_eq_true,decide_eq_true_eq]at hb
 exact⟨i,List.mem_range'_1.2 (by omega),hb.2⟩
theorem Vd {N:Nat} (hN:40000000≤N) {l:List A5} (hl:l.length≤10) {p:A0} (hc:p.cQ.bulk≤16777216) (hop:5≤p.Op∧p.Op≤7) {b s:List BD} (gb:Gd l (G4 b)) (gs:Gd l (G4 s)) (hn:s≠[]) (hd:Cw (G4 b) (G4 s)) (f:Bool):
 Q4 N ⟨l,f⟩ p b s=some (keepsA l p (G4 b) (G4 s)):=by
 have lb:=gb.len;have ls:=gs.len
 rw[List.length_map]at lb ls
 have gm:=gb.mrg gs hd;have lm:=gm.len;have hnp:=Af1 hn;have hlst:=gs.lst hnp;obtain⟨h0,h1,h2,hh⟩:=gs.hd hnp;obtain⟨x0,hx0,e0⟩:=ZR hn;obtain⟨c,hj,ec⟩:=Lb (N:=N) (n:=l.length) (by omega) (by omega) (by omega) gb.asc gs.asc hd gb.wf.ins gs.wf.ins
 have lc:c.length≤10:=by have:=congrArg List.length ec;rw[List.length_map]at this;omega
 have wc:UO l (G4 c):=by rw[ec];exact gm.wf
 unfold Q4 keepsA;rw[hx0,Qj hn (by omega),hj];simp only[Option.bind_some,TS hN (show c.length≤1000000 by omega) wc,PY hN (NX l (show(G4 c).length<1000000 by rw[List.length_map];omega) _) _ _ hc]
 by_cases h6:p.Op=6
 ·rw[if_pos (by rw[C2];exact decide_eq_true h6),if_pos h6];obtain⟨y1,hy1,t1⟩:=TN (l:=l) (i:=Z2 (G4 s)) (by omega) (by omega);obtain⟨y0,hy0,t0⟩:=TN (l:=l) (i:=x0.at_) (by omega) (by omega);rw[hy1,hy0];simp only[Option.bind_some,CU,t1,t0,e0]
 rw[if_neg h6,if_neg (by rw[C2];simpa using h6)]
 by_cases h7:p.Op=7
 ·rw[if_pos (by rw[C2];exact decide_eq_true h7),if_pos h7,ec];rfl
 rw[if_neg h7,if_neg (by rw[C2];simpa using h7)];obtain⟨n,hnn⟩:=Int.eq_ofNat_of_zero_le hlst.1;obtain⟨a,ha⟩:=Int.eq_ofNat_of_zero_le h0;rw[e0,ha,C3 (a:=((a:Nat):Int)) (by omega) (by omega),show((a:Int)+1)=((a+1:Nat):Int) by omega];rw[Mi (A:=Unit) (n:=n) (P:=Gm l p (G4 b) (G4 s)) (u:=()) 0 ?_ ?_ n (a+1) N (by omega) (by omega) (by omega),VN (by omega) (by omega) (by omega) hh hlst.2]
 ·cases IG l p (G4 b) (G4 s)<;>rfl
 ·intro i _ hi
  have hil:i<l.length:=by omega
  have e:ar .add .i64 (i:Int) 1=i+1:=C3 (by omega) (by omega);rw[if_pos (Ch (by omega)),TR hN (by omega),EV hil,IY hN (by omega) wc _ hc _ hil,ec];simp only[Option.bind_some,T3,C2,e];unfold Gm;simp only[List.getElem?_eq_getElem hil];cases IA (G4 s) (i:Int)<;>by_cases ht:l[i].Typ=p.Typ<;>cases Bk (He l (mrg (G4 b) (G4 s)) (i:Int)) p.Var l[i] p.cQ<;>simp[ht]
 intro i hi;rw[if_neg (Bw (by omega))]
end
end Go.Ab
namespace Go.Ab
open Classical
noncomputable section
def testE (l:List A5)(p:A0)(b:List PR)(i:Nat):Bool:=match l[i]? with|some e=>decide (e.Typ=p.Typ)&&Bk (He l b i) p.Var e p.cQ|none=>false
theorem Vq {N:Nat} (hN:40000000≤N) {l:List A5} (hl:l.length≤10) {p:A0} (hc:p.cQ.bulk≤16777216) {b:List BD} (gb:Gd l (G4 b)) (f:Bool) {i:Nat} (hi:i≤l.length):
 J8 N ⟨l,f⟩ p b (i:Int)=some (YM (testE l p (G4 b)) (fun j=>[(⟨p.Var,(j:Int)⟩:BD)]) (l.length - i) i):=by
 have lb:=gb.len
 rw[List.length_map]at lb
 unfold J8 S4
 have h:=Rb (β:=List BD) (A:=Unit) (n:=l.length) (T:=testE l p (G4 b)) (g:=fun j=>[(⟨p.Var,(j:Int)⟩:BD)]) (u:=()) (step:=(fun(s1:Int)=>
  (
   if cmp .lss s1 (Ar.len (⟨l,f⟩:B0).cX)=true then
    (B8 (⟨l,f⟩:B0).cX s1).bind fun x7=>
    if cmp .eql x7.Typ p.Typ=true then
     (G5 N ⟨l,f⟩ p.cQ b p.Var s1).bind fun r8=>
     if r8=true then
      N9 (some ([[(⟨p.Var,s1⟩:A1)]],())) fun _=>
      some ([],.inl (ar .add .i64 s1 1))
     else
      some ([],.inl (ar .add .i64 s1 1))
    else
     some ([],.inl (ar .add .i64 s1 1))
   else
    some ([],.inr ())
   :Option (List (List A1)×((Int) ⊕ (Unit)))))) ?_ ?_ (l.length - i) i N (by omega) (by omega)
 ·rw[h];simp[N9]
 ·intro j hj;have e:ar .add .i64 (j:Int) 1=j+1:=C3 (by omega) (by omega);rw[if_pos (Ch (by rw[B3];show(j:Int)<(l.length:Int);omega))]
  show((B8 l (j:Int)).bind _)=_
  rw[EV hj,IY hN (by omega) gb.wf _ hc _ hj,e];simp only[Option.bind_some,C2,N9];unfold testE;simp only[List.getElem?_eq_getElem hj]
  by_cases ht:l[j].Typ=p.Typ<;>cases Bk (He l (G4 b) (j:Int)) p.Var l[j] p.cQ<;>simp[ht]
 rw[if_neg N8]
def Sk (x:PR):List UInt8:=V7 x.Var.toNat++64::(V7 x.At.toNat++[32])
def Iy (s:List PR):List UInt8:=s.flatMap Sk
def FX (l:List UInt8):List Int:=l.map fun b=>(b.toNat:Int)
theorem WH {n:Int}(h0:0≤n)(h1:n<1000):Ar.wr .i64 n=n:=CW (by omega) (by omega)
theorem Ad8 {n:Int} (h0:0≤n) (h1:n<1000):Ar.wr .u64 n=n:=by
 have e:IntKind.wrap .u64 n=n % 18446744073709551616:=by
  unfold IntKind.wrap;simp[IntKind.bits,IntKind.signed]
 exact e.trans (by omega)
theorem Jy {N:Nat} {d:List Int} (hd:d.length≤1000000) {i:Int} (h0:0≤i) (h1:i<100):G0 N d i 10=some (d++FX (V7 i.toNat)):=by
 unfold G0 Y4 V6 EM;rw[if_neg (Bw (by omega)),Ad8 h0 (by omega),if_pos (show cmp .eql 10 10=true by rfl),if_pos (Ch h1),WH h0 (by omega)]
 have hs:Lx i=some ⟨(V7 i.toNat).toArray⟩:=by
  unfold Lx;rw[if_pos (by simp;omega)]
 rw[hs];simp only[Option.bind_some]
 have hl:(V7 i.toNat).length≤2:=by unfold V7;split<;>simp
 rw[N7 (by simp[Kc];omega)];rfl
theorem YW (x:PR):(Sk x).length≤6:=by
 have h:∀i,(V7 i).length≤2:=fun i=>by unfold V7;split<;>simp
 have:=h x.Var.toNat;have:=h x.At.toNat;simp[Sk];omega
theorem Uy :∀s:List PR,(Iy s).length≤6*s.length
 |[]=>by simp[Iy]
 |x::s=>by
  have:=Uy s;have:=YW x
  simp only[Iy,List.flatMap_cons,List.length_append,List.length_cons]at *
  omega
theorem Za {N:Nat} (hN:40000000≤N) {l:List A5} (hl:l.length≤10) {s:List BD} (hs:s.length≤1000) (hw:UO l (G4 s)):M1 N s=TP (FX (Iy (G4 s))):=by
 unfold M1;rw[I5 s (by omega) (mk:=fun(out:List Int) i=>(i,out)) (body:=fun out x=>(G0 N out x.cU 10).bind fun l6=>(K9 l6 [64]).bind fun l90=>(G0 N l90 x.at_ 10).bind fun l209=>(K9 l209 [32]).bind fun l290=>some (.inl l290)) (fin:=fun s=>s) (s:=[]) (by omega) ?_ ?_]
 ·obtain⟨s',h1,p,h2,h3⟩:=Z1 (R:=List Int) (step:=fun out x=>(G0 N out x.cU 10).bind fun l6=>(K9 l6 [64]).bind fun l90=>(G0 N l90 x.at_ 10).bind fun l209=>(K9 l209 [32]).bind fun l290=>some (.inl l290))
   (fun r out=>∃p,p++r=s∧out=FX (Iy (G4 p))) (fun x r out ⟨p,e1,e2⟩=>by
    subst e2
    have hx:x∈s:=by rw[←e1];simp
    obtain⟨⟨v0,v1⟩,a0,a1⟩:=hw (pr x) (List.mem_map.2 ⟨x,hx,rfl⟩);have hv0:0≤x.cU:=v0;have hv1:x.cU<16:=v1;have ha0:0≤x.at_:=a0;have ha1:x.at_<l.length:=a1
    have hp:p.length≤1000:=by have:=congrArg List.length e1;simp at this;omega
    have hk:(FX (Iy (G4 p))).length≤6000:=by
     have:=Uy (G4 p)
     rw[List.length_map]at this
     simp[FX];omega
    have hsm:∀i,(FX (V7 i)).length≤2:=fun i=>by simp only[FX,List.length_map];unfold V7;split<;>simp
    have:=hsm x.cU.toNat;have:=hsm x.at_.toNat;refine⟨FX (Iy (G4 p))++FX (V7 x.cU.toNat)++[64]++FX (V7 x.at_.toNat)++[32],?_,p++[x],by simpa using e1,?_⟩
    ·rw[Jy (by omega) hv0 (by omega)];simp only[Option.bind_some];rw[N7 (by simp only[List.length_append,List.length_cons,List.length_nil];omega)];simp only[Option.bind_some];rw[Jy (by simp only[List.length_append,List.length_cons,List.length_nil];omega) ha0 (by omega)];simp only[Option.bind_some];rw[N7 (by simp only[List.length_append,List.length_cons,List.length_nil];omega)];rfl
    simp[FX,Iy,Sk,G4,pr]) (l:=s) (s:=[]) ⟨[],rfl,rfl⟩
  rw[h1];simp only[Option.bind_some]
  rw[append_nil]at h2
  rw[h3,h2];cases TP (FX (Iy (G4 s)))<;>rfl
 ·intro out i x hx hi;have e:ar .add .i64 (i:Int) 1=i+1:=C3 (by omega) (by omega);simp only[C1,B3,hi,decide_true,if_true,D6,hx,Option.bind_some,e]
  cases G0 N out x.cU 10 with
  |none=>rfl
  | some a=>
   simp only[Option.bind_some]
   cases K9 a [64]with
   |none=>rfl
   | some b=>
    simp only[Option.bind_some]
    cases G0 N b x.at_ 10 with
    |none=>rfl
    |some c=>
     simp only[Option.bind_some];cases K9 c [32]<;>rfl
 intro s;simp[C1,B3]
theorem Mh {m:UInt8}:∀{a b r q:List UInt8},m∉a→m∉b→a++m::r=b++m::q→a=b∧r=q
 |[],[],r,q,_,_,h=>⟨rfl,by simpa using h⟩
 |[],y::b,r,q,_,hb,h=>by simp at h;exact absurd h.1 (by intro e;exact hb (by simp[e]))
 |x::a,[],r,q,ha,_,h=>by simp at h;exact absurd h.1 (by intro e;exact ha (by simp[←e]))
 |x::a,y::b,r,q,ha,hb,h=>by
  simp only[List.cons_append,List.cons.injEq]at h
  have:=Mh (fun e=>ha (by simp[e])) (fun e=>hb (by simp[e])) h.2;exact⟨by rw[h.1,this.1],this.2⟩
theorem Ev {i:Nat}(h:i<100):(64:UInt8)∉V7 i∧(32:UInt8)∉V7 i:=by
 have:∀i<100,(64:UInt8)∉V7 i∧(32:UInt8)∉V7 i:=by decide
 exact this i h
theorem Nv {i j:Nat}(hi:i<16)(hj:j<16)(h:V7 i=V7 j):i=j:=by
 have:∀i<16,∀j<16,V7 i=V7 j→i=j:=by decide
 exact this i hi j hj h
theorem LE {l:List A5} (hl:l.length≤10):∀{a b:List PR},UO l a→UO l b→Iy a=Iy b→a=b
 |[],[],_,_,_=>rfl
 |[],y::b,_,_,h=>by simp[Iy,Sk]at h
 |x::a,[],_,_,h=>by simp[Iy,Sk]at h
 | x::a,y::b,ha,hb,h=>by
  obtain⟨⟨v0,v1⟩,a0,a1⟩:=ha x (by simp);obtain⟨⟨w0,w1⟩,b0,b1⟩:=hb y (by simp);obtain⟨m1,m2⟩:=Ev (i:=x.Var.toNat) (by omega);obtain⟨m3,m4⟩:=Ev (i:=x.At.toNat) (by omega);obtain⟨n1,n2⟩:=Ev (i:=y.Var.toNat) (by omega);obtain⟨n3,n4⟩:=Ev (i:=y.At.toNat) (by omega)
  simp only[Iy,List.flatMap_cons,Sk,List.append_assoc,List.cons_append,List.nil_append]at h
  obtain⟨e1,e2⟩:=Mh m1 n1 h;obtain⟨e3,e4⟩:=Mh m4 n4 e2;have i1:=Nv (by omega) (by omega) e1;have i2:=Nv (by omega) (by omega) e3
  have hxy:x=y:=by
   cases x;cases y
   simp only[L8.mk.injEq]at *
   omega
  rw[hxy,LE hl (fun z hz=>ha z (by simp[hz])) (fun z hz=>hb z (by simp[hz])) e4]
end
end Go.Ab
namespace Go.Ab
open Classical
noncomputable section
structure WfN (y:A0):Prop where
 op:0≤y.Op∧y.Op≤7
 var:y.Op=0→0≤y.Var∧y.Var<16
 a0:y.Op=0→y.cP=[]
 a1:1≤y.Op→y.Op≤3→y.cP≠[]
 a2:4≤y.Op→∃q,y.cP=[q]
 cond:y.cQ.bulk≤16777216
def Kg (p:A0):Prop:=∀y∈p.pre,WfN y
theorem UT {N:Nat} (hN:40000000≤N) {x:A0} (hb:x.bulk≤16777216) (h:Gs N x=0):Kg x∧x.pre.length≤64:=by
 unfold Gs at h
 by_cases hr:K3 N x=0
 ·rw [if_neg (by simpa using hr)]at h
  by_cases ha:x.pre.any (fun y=>cmp .geq y.Op 8)=true
  ·rw[if_pos ha]at h;cases h
  obtain⟨hp,hd,hg⟩:=Cy hr;refine⟨fun y hy=>?_,hp⟩;have h1:=DE x y hy;have h2:=AS y
  have hyb:y.bulk≤16777216:=by omega
  have hyl:y.cP.length≤64:=by omega
  obtain⟨ho,s,ng,hs,hc⟩:=Ip hN hyb hyl (hg y hy)
  have h7:y.Op≤7:=by
   rw[Bool.not_eq_true,List.any_eq_false]at ha
   have:=ha y hy
   rw[N6]at this
   simp at this;omega
  have hz:=TV hN N y.cQ (⟨0,[],0,0,0,(⟨0,0,⟨#[]⟩⟩:A7)⟩:A4) (by omega) (by omega);have h1:=CM hN (by omega) ho.1 ho.2 hs hz
  rw[(BU hN hyb hyl).2,hg y hy]at h1
  have h1:=Option.some.inj h1
  by_cases har:s.cV≤y.cP.length∧(y.cP.length:Int)≤s.most
  ·rw[if_pos har]at h1
   unfold GN at h1
   by_cases e1:Cp s.cT y.Typ 15=true
   ·rw[if_pos e1]at h1;cases h1
   rw[if_neg e1]at h1
   by_cases e2:Cp s.cT y.Var 15=true
   ·rw[if_pos e2]at h1;cases h1
   have ht:=hs.tab
   have hop:y.Op=0∨y.Op=1∨y.Op=2∨y.Op=3∨y.Op=4∨y.Op=5∨y.Op=6∨y.Op=7:=by omega
   refine⟨⟨ho.1,h7⟩,?_,?_,?_,?_,by omega⟩
   ·intro h0
    rw[h0]at ht
    have hs:s.cT=true:=by cases ht;rfl
    rw[hs]at e2
    unfold Cp at e2
    simp at e2
    omega
   ·intro h0
    rw[h0]at ht
    have hm:s.most=0:=by cases ht;rfl
    exact List.eq_nil_of_length_eq_zero (by omega)
   ·intro h0 h3
    have hm:1≤s.cV:=by
     have:y.Op=1∨y.Op=2∨y.Op=3:=by omega
     rcases this with h|h|h<;>rw[h]at ht<;>cases ht<;>decide
    intro e
    rw[e]at har
    simp at har;omega
   intro h0
   have hm:s.cV=1∧s.most=1:=by
    have:y.Op=4∨y.Op=5∨y.Op=6∨y.Op=7:=by omega
    rcases this with h|h|h|h<;>rw[h]at ht<;>cases ht<;>decide
   have hl:y.cP.length=1:=by omega
   match he:y.cP,hl with
   |[q],_=>exact⟨q,rfl⟩
  rw[if_neg har]at h1;cases h1
 rw[if_pos (show K3 N x≠0 from hr)]at h;exact absurd h hr
theorem R3 {y : A0}:∀{l:List A0},y∈A0.pres l↔∃a∈l,y∈a.pre
 |[]=>by simp[A0.pres]
 | a :: l => by simp only[A0.pres,List.mem_append,R3 (l:=l),List.mem_cons];constructor
                ·rintro(h|⟨b,h1,h2⟩)
                 ·exact⟨a,.inl rfl,h⟩
                 exact⟨b,.inr h1,h2⟩
                rintro⟨b,rfl|h1,h2⟩
                ·exact .inl h2
                exact .inr ⟨b,h1,h2⟩
theorem Kg.self {p:A0}(h:Kg p):WfN p:=h p (AJ p)
theorem Kg.arg {p q:A0}(h:Kg p)(hq:q∈p.cP):Kg q:=fun y hy=>h y (by rw[A0.pre_eq];exact List.mem_cons_of_mem _ (R3.2 ⟨q,hq,hy⟩))
theorem Kg.sub {p:A0}{r:List A0}(h:Kg p)(h1:1≤p.Op)(h3:p.Op≤3)(hr:∀q∈r,q∈p.cP)(hn:r≠[]):Kg {p with cP:=r}:=by
 intro y hy
 rw[A0.pre_eq]at hy
 rcases List.mem_cons.1 hy with rfl|hy
 ·exact⟨h.self.op,fun e=>by have:p.Op=0:=e;omega,fun e=>by have:p.Op=0:=e;omega,fun _ _=>hn,fun e=>by have:4≤p.Op:=e;omega,h.self.cond⟩
 obtain⟨q,hq,hy⟩:=R3.1 hy;exact h.arg (hr q hq) y hy
inductive Sm (l:List A5):A0→List PR→Int→List PR→Prop
 |ev {p:A0} {b:List PR} {f:Int} {j:Nat}:p.Op=0→f≤j→j<l.length→testE l p b j=true→Sm l p b f [⟨p.Var,j⟩]
 |seq1 {p q:A0} {b:List PR} {f:Int} {s:List PR}:p.Op=1→p.cP=[q]→Sm l q b f s→Sm l p b f s
 |seq {p q q':A0} {r:List A0} {b:List PR} {f:Int} {s t:List PR}:p.Op=1→p.cP=q::q'::r→Sm l q b f s→Sm l {p with cP:=q'::r} (mrg b s) (Z2 s+1) t→Sm l p b f (mrg s t)
 |alt {p q:A0} {b:List PR} {f:Int} {s:List PR}:p.Op=2→q∈p.cP→Sm l q b f s→Sm l p b f s
 |all1 {p q:A0} {b:List PR} {f:Int} {s:List PR}:p.Op=3→p.cP=[q]→Sm l q b f s→Sm l p b f s
 |all {p q:A0} {r:List A0} {b:List PR} {f:Int} {s t:List PR}:p.Op=3→p.cP=r++[q]→r≠[]→Sm l {p with cP:=r} b f s→Sm l q b f t→Cw s t→Sm l p b f (mrg s t)
 |plus1 {p q:A0} {b:List PR} {f:Int} {s:List PR}:p.Op=4→p.cP=[q]→Sm l q b f s→Sm l p b f s
 |plus {p q:A0} {b:List PR} {f:Int} {s t:List PR}:p.Op=4→p.cP=[q]→Sm l q b f s→Sm l p (mrg b s) (Z2 s+1) t→Sm l p b f (mrg s t)
 |some {p q:A0} {b:List PR} {f:Int} {s:List PR}:5≤p.Op→p.Op≤7→p.cP=[q]→Sm l q b f s→keepsA l p b s=true→Sm l p b f s
theorem Sm.i0 {l:List A5} {p:A0} {b:List PR} {f:Int} {s:List PR} (h0:p.Op=0):Sm l p b f s↔∃j:Nat,f≤j∧j<l.length∧testE l p b j=true∧s=[⟨p.Var,j⟩]:=by
 constructor
 ·intro h
  cases h with
  |ev e0 e1 e2 e3=>exact⟨_,e1,e2,e3,rfl⟩
  |_=>omega
 rintro⟨j,e1,e2,e3,rfl⟩;exact .ev h0 e1 e2 e3
theorem Sm.i1 {l:List A5} {p q:A0} {b:List PR} {f:Int} {s:List PR} (h0:p.Op=1) (ha:p.cP=[q]):Sm l p b f s↔Sm l q b f s:=by
 constructor
 ·intro h
  cases h with
  |seq1 e0 ea hs=>rw[ha]at ea;cases ea;exact hs
  |seq e0 ea hs ht=>rw[ha]at ea;cases ea
  |_=>omega
 exact .seq1 h0 ha
theorem Sm.i1c {l:List A5} {p q q':A0} {r:List A0} {b:List PR} {f:Int} {s:List PR} (h0:p.Op=1) (ha:p.cP=q::q'::r):Sm l p b f s↔∃u t,Sm l q b f u∧Sm l {p with cP:=q'::r} (mrg b u) (Z2 u+1) t∧s=mrg u t:=by
 constructor
 ·intro h
  cases h with
  |seq1 e0 ea hs=>rw[ha]at ea;cases ea
  |seq e0 ea hs ht=>rw[ha]at ea;cases ea;exact⟨_,_,hs,ht,rfl⟩
  |_=>omega
 rintro⟨u,t,hs,ht,rfl⟩;exact .seq h0 ha hs ht
theorem Sm.i2 {l:List A5} {p:A0} {b:List PR} {f:Int} {s:List PR} (h0:p.Op=2):Sm l p b f s↔∃q∈p.cP,Sm l q b f s:=by
 constructor
 ·intro h
  cases h with
  |alt e0 ea hs=>exact⟨_,ea,hs⟩
  |_=>omega
 rintro⟨q,ha,hs⟩;exact .alt h0 ha hs
theorem Sm.i3 {l:List A5} {p q:A0} {b:List PR} {f:Int} {s:List PR} (h0:p.Op=3) (ha:p.cP=[q]):Sm l p b f s↔Sm l q b f s:=by
 constructor
 ·intro h
  cases h with
  |all1 e0 ea hs=>rw[ha]at ea;cases ea;exact hs
  |all e0 ea en hs ht hd=>
   rw[ha]at ea
   exact absurd (List.append_inj_left' (s₁:=[]) ea rfl).symm en
  |_=>omega
 exact .all1 h0 ha
theorem Sm.i3c {l:List A5} {p q:A0} {r:List A0} {b:List PR} {f:Int} {s:List PR} (h0:p.Op=3) (ha:p.cP=r++[q]) (hr:r≠[]):Sm l p b f s↔∃u t,Sm l {p with cP:=r} b f u∧Sm l q b f t∧Cw u t∧s=mrg u t:=by
 constructor
 ·intro h
  cases h with
  |all1 e0 ea hs=>
   rw[ha]at ea
   exact absurd (List.append_inj_left' (s₂:=[]) ea rfl) hr
  |all e0 ea en hs ht hd=>
   rw[ha]at ea
   have e1:=List.append_inj_left' ea rfl;have e2:=List.append_inj_right' ea rfl;cases e1;cases e2;exact⟨_,_,hs,ht,hd,rfl⟩
  |_=>omega
 rintro⟨u,t,hs,ht,hd,rfl⟩;exact .all h0 ha hr hs ht hd
theorem Sm.i4 {l:List A5} {p q:A0} {b:List PR} {f:Int} {s:List PR} (h0:p.Op=4) (ha:p.cP=[q]):Sm l p b f s↔Sm l q b f s∨∃u t,Sm l q b f u∧Sm l p (mrg b u) (Z2 u+1) t∧s=mrg u t:=by
 constructor
 ·intro h
  cases h with
  |plus1 e0 ea hs=>rw[ha]at ea;cases ea;exact .inl hs
  |plus e0 ea hs ht=>rw[ha]at ea;cases ea;exact .inr ⟨_,_,hs,ht,rfl⟩
  |_=>omega
 rintro(hs|⟨u,t,hs,ht,rfl⟩)
 ·exact .plus1 h0 ha hs
 exact .plus h0 ha hs ht
theorem Sm.i5 {l:List A5} {p q:A0} {b:List PR} {f:Int} {s:List PR} (h0:5≤p.Op) (h1:p.Op≤7) (ha:p.cP=[q]):Sm l p b f s↔Sm l q b f s∧keepsA l p b s=true:=by
 constructor
 ·intro h
  cases h with
  |some e0 e1 ea hs hk=>rw[ha]at ea;cases ea;exact⟨hs,hk⟩
  |_=>omega
 rintro⟨hs,hk⟩;exact .some h0 h1 ha hs hk
structure Oq (l:List A5) (b:List PR) (f:Int):Prop where
 gd:Gd l b
 lt:∀x∈b,x.At<f
 f0:0≤f
 f1:f≤l.length
structure PE (l:List A5) (f:Int) (s:List PR):Prop where
 gd:Gd l s
 ge:∀x∈s,f≤x.At
 ne:s≠[]
theorem Oq.apart {l:List A5}{b s:List PR}{f:Int}(h:Oq l b f)(r:PE l f s):Cw b s:=fun x hx y hy=>by have:=h.lt x hx;have:=r.ge y hy;omega
theorem Oq.next {l:List A5}{b s:List PR}{f:Int}(h:Oq l b f)(r:PE l f s):Oq l (mrg b s) (Z2 s+1):=by
 have hl:=r.gd.lst r.ne;refine⟨h.gd.mrg r.gd (h.apart r),fun x hx=>?_,by omega,by omega⟩
 rcases X5.1 hx with hx|hx
 ·obtain⟨y,_,hy,e⟩:=CF r.ne;have:=h.lt x hx;have:=r.ge y hy;omega
 have:=MQ r.gd.asc x hx;omega
theorem PE.seq {l:List A5} {s t:List PR} {f:Int} (r:PE l f s) (q:PE l (Z2 s+1) t):PE l f (mrg s t)∧Cw s t:=by
 have ha:Cw s t:=fun x hx y hy=>by have:=MQ r.gd.asc x hx;have:=q.ge y hy;omega
 refine⟨⟨r.gd.mrg q.gd ha,fun x hx=>?_,fun e=>?_⟩,ha⟩
 ·rcases X5.1 hx with hx|hx
  ·exact r.ge x hx
  obtain⟨y,_,hy,e⟩:=CF r.ne;have:=r.ge y hy;have:=q.ge x hx;omega
 have h1:=congrArg List.length e
 rw[OT,List.length_nil]at h1
 have:=List.length_pos_iff.2 r.ne;omega
theorem PE.all {l:List A5}{s t:List PR}{f:Int}(r:PE l f s)(q:PE l f t)(ha:Cw s t):PE l f (mrg s t):=by
 refine⟨r.gd.mrg q.gd ha,fun x hx=>(X5.1 hx).elim (r.ge x) (q.ge x),fun e=>?_⟩;have h1:=congrArg List.length e
 rw[OT,List.length_nil]at h1
 have:=List.length_pos_iff.2 r.ne;omega
theorem Sm.res {l:List A5} {p:A0} {b:List PR} {f:Int} {s:List PR} (h:Sm l p b f s):Kg p→Oq l b f→PE l f s:=by
 induction h with
 |@ev p b f j h0 hf hj ht=>
  intro hw ho;refine⟨⟨fun x hx=>?_,List.pairwise_singleton _ _⟩,fun x hx=>?_,by simp⟩
  ·rw[List.mem_singleton.1 hx];exact⟨hw.self.var h0,by show 0≤(j:Int)∧(j:Int)<l.length;omega⟩
  rw[List.mem_singleton.1 hx];exact hf
 |seq1 h0 ha _ ih=>intro hw ho;exact ih (hw.arg (by rw[ha];simp)) ho
 |@seq p q q' r b f s t h0 ha _ _ ih1 ih2=>
  intro hw ho;have r1:=ih1 (hw.arg (by rw[ha];simp)) ho;have r2:=ih2 (hw.sub (by omega) (by omega) (fun x hx=>by rw[ha];exact List.mem_cons_of_mem _ hx) (by simp)) (ho.next r1);exact(r1.seq r2).1
 |alt h0 ha _ ih=>intro hw ho;exact ih (hw.arg ha) ho
 |all1 h0 ha _ ih=>intro hw ho;exact ih (hw.arg (by rw[ha];simp)) ho
 |@all p q r b f s t h0 ha hn _ _ hd ih1 ih2=>
  intro hw ho;exact(ih1 (hw.sub (by omega) (by omega) (fun x hx=>by rw[ha];simp[hx]) hn) ho).all (ih2 (hw.arg (by rw[ha];simp)) ho) hd
 |plus1 h0 ha _ ih=>intro hw ho;exact ih (hw.arg (by rw[ha];simp)) ho
 |@plus p q b f s t h0 ha _ _ ih1 ih2=>
  intro hw ho;have r1:=ih1 (hw.arg (by rw[ha];simp)) ho;exact(r1.seq (ih2 hw (ho.next r1))).1
 |some h0 h1 ha _ _ ih=>intro hw ho;exact ih (hw.arg (by rw[ha];simp)) ho
def Vs (p:A0)(v:Int):Prop:=∃y∈p.pre,y.Op=0∧y.Var=v
theorem Vs.arg {p q:A0}{v:Int}(hq:q∈p.cP)(h:Vs q v):Vs p v:=by
 obtain⟨y,hy,h⟩:=h;exact⟨y,by rw[A0.pre_eq];exact List.mem_cons_of_mem _ (R3.2 ⟨q,hq,hy⟩),h⟩
theorem Vs.sub {p:A0}{r:List A0}{v:Int}(h0:p.Op≠0)(hr:∀q∈r,q∈p.cP)(h:Vs {p with cP:=r} v):Vs p v:=by
 obtain⟨y,hy,h1,h2⟩:=h
 rw[A0.pre_eq]at hy
 rcases List.mem_cons.1 hy with rfl|hy
 ·exact absurd h1 h0
 obtain⟨q,hq,hy⟩:=R3.1 hy;exact Vs.arg (hr q hq) ⟨y,hy,h1,h2⟩
theorem Sm.vars {l:List A5} {p:A0} {b:List PR} {f:Int} {s:List PR} (h:Sm l p b f s):∀x∈s,Vs p x.Var:=by
 induction h with
 |@ev p b f j h0 hf hj ht=>intro x hx;rw[List.mem_singleton.1 hx];exact⟨p,AJ p,h0,rfl⟩
 |seq1 h0 ha _ ih=>intro x hx;exact Vs.arg (by rw[ha];simp) (ih x hx)
 |@seq p q q' r b f s t h0 ha _ _ ih1 ih2=>
  intro x hx
  rcases X5.1 hx with hx|hx
  ·exact Vs.arg (by rw[ha];simp) (ih1 x hx)
  exact Vs.sub (by omega) (fun x hx=>by rw[ha];exact List.mem_cons_of_mem _ hx) (ih2 x hx)
 |alt h0 ha _ ih=>intro x hx;exact Vs.arg ha (ih x hx)
 |all1 h0 ha _ ih=>intro x hx;exact Vs.arg (by rw[ha];simp) (ih x hx)
 |@all p q r b f s t h0 ha hn _ _ hd ih1 ih2=>
  intro x hx
  rcases X5.1 hx with hx|hx
  ·exact Vs.sub (by omega) (fun x hx=>by rw[ha];simp[hx]) (ih1 x hx)
  exact Vs.arg (by rw[ha];simp) (ih2 x hx)
 |plus1 h0 ha _ ih=>intro x hx;exact Vs.arg (by rw[ha];simp) (ih x hx)
 |@plus p q b f s t h0 ha _ _ ih1 ih2=>
  intro x hx
  rcases X5.1 hx with hx|hx
  ·exact Vs.arg (by rw[ha];simp) (ih1 x hx)
  exact ih2 x hx
 |some h0 h1 ha _ _ ih=>intro x hx;exact Vs.arg (by rw[ha];simp) (ih x hx)
end
end Go.Ab
namespace Go.Ab
open Classical
noncomputable section
def evs (p:A0):Nat:=p.pre.countP fun y=>decide (y.Op=0)
def Y2 (p:A0):Prop:=∀y∈p.pre,y.Op≠4
theorem FQ (p:A0):evs p=(if p.Op=0 then 1 else 0)+(A0.pres p.cP).countP fun y=>decide (y.Op=0):=by
 unfold evs;rw[A0.pre_eq,List.countP_cons]
 by_cases h:p.Op=0<;>simp[h]<;>omega
theorem Le (p:A0)(r:List A0):evs {p with cP:=r}=(if p.Op=0 then 1 else 0)+(A0.pres r).countP fun y=>decide (y.Op=0):=FQ _
theorem KA {q:A0}:∀{l:List A0},q∈l→evs q≤(A0.pres l).countP fun y=>decide (y.Op=0)
 |a::l,h=>by
  simp only[A0.pres,countP_append]
  rcases List.mem_cons.1 h with rfl|h
  ·exact Nat.le_add_right _ _
  have:=KA h;unfold evs at *;omega
theorem EE {p q:A0}(h:q∈p.cP):evs q≤evs p:=by rw[FQ p];have:=KA h;omega
theorem Y2.arg {p q:A0}(h:Y2 p)(hq:q∈p.cP):Y2 q:=fun y hy=>h y (by rw[A0.pre_eq];exact List.mem_cons_of_mem _ (R3.2 ⟨q,hq,hy⟩))
theorem Y2.sub {p:A0}{r:List A0}(h:Y2 p)(hr:∀q∈r,q∈p.cP):Y2 {p with cP:=r}:=by
 intro y hy
 rw[A0.pre_eq]at hy
 rcases List.mem_cons.1 hy with rfl|hy
 ·exact h p (AJ p)
 obtain⟨q,hq,hy⟩:=R3.1 hy;exact h.arg (hr q hq) y hy
def Nl (n:Nat)(p:A0):Prop:=(evs p+1) ^ n≤1500∨(Y2 p∧2≤n∧n ^ evs p≤1500)
theorem Nl.mono {n:Nat}{p q:A0}(h:Nl n p)(h1:evs q≤evs p)(h2:Y2 p→Y2 q):Nl n q:=by
 rcases h with h|⟨a,b,c⟩
 ·exact .inl (Nat.le_trans (Nat.pow_le_pow_left (by omega) n) h)
 exact .inr ⟨h2 a,b,Nat.le_trans (Nat.pow_le_pow_right (by omega) h1) c⟩
theorem Nl.arg {n:Nat}{p q:A0}(h:Nl n p)(hq:q∈p.cP):Nl n q:=h.mono (EE hq) fun k=>k.arg hq
theorem Nl.tail {n:Nat}{p q:A0}{r:List A0}(h:Nl n p)(ha:p.cP=q::r):Nl n {p with cP:=r}:=by
 refine h.mono ?_ fun k=>k.sub fun x hx=>by rw[ha];exact List.mem_cons_of_mem _ hx
 rw[Le,FQ,ha];simp only[A0.pres,countP_append];omega
theorem De :∀(r m:List A0),A0.pres (r++m)=A0.pres r++A0.pres m
 |[],m=>by simp[A0.pres]
 |a::r,m=>by simp[A0.pres,De r m]
def Hf (V:List Int):Nat→Int→List (List PR)
 |0,_=>[[]]
 |m+1,k=>Hf V m (k+1)++V.flatMap fun v=>(Hf V m (k+1)).map fun s=>⟨v,k⟩::s
theorem JZ (V:List Int):∀(m:Nat) (k:Int),(Hf V m k).length=(V.length+1) ^ m
 |0,_=>rfl
 | m+1,k=>by
  have ih:=JZ V m (k+1)
  have h:(V.flatMap fun v=>(Hf V m (k+1)).map fun s=>(⟨v,k⟩:PR)::s).length=V.length*(V.length+1) ^ m:=by
   clear ih;generalize hE:Hf V m (k+1)=E
   have hl:E.length=(V.length+1) ^ m:=by rw[←hE];exact JZ V m (k+1)
   rw[←hl];clear hl hE
   induction V with
   |nil=>simp
   |cons v V ih=>rw[List.flatMap_cons,List.length_append,ih,List.length_map,List.length_cons,Nat.succ_mul];omega
  rw[Hf,List.length_append,ih,h,Nat.pow_succ];rw[Nat.mul_comm _ (V.length+1),Nat.succ_mul];omega
theorem HC (V:List Int):∀(m:Nat) (k:Int) (s:List PR),Wu s→(∀x∈s,k≤x.At∧x.At<k+m)→(∀x∈s,x.Var∈V)→s∈Hf V m k
 |0,k,[],_,_,_=>by simp[Hf]
 |0,k,x::s,_,h,_=>by have:=h x (by simp);omega
 |m+1,k,[],ha,_,_=>by
  rw[Hf];exact List.mem_append_left _ (HC V m (k+1) [] ha (by simp) (by simp))
 | m+1,k,x::s,ha,h,hv=>by
  rw[Hf];have ha':=ha
  unfold Wu at ha
  rw[List.pairwise_cons]at ha
  have hx:=h x (by simp)
  by_cases e:x.At=k
  ·refine List.mem_append_right _ (List.mem_flatMap.2 ⟨x.Var,hv x (by simp),List.mem_map.2 ⟨s,HC V m (k+1) s ha.2 (fun y hy=>?_) (fun y hy=>hv y (by simp[hy])),?_⟩⟩)
   ·have:=ha.1 y hy;have:=h y (by simp[hy]);omega
   rw[←e]
  refine List.mem_append_left _ (HC V m (k+1) (x::s) ha' (fun y hy=>?_) hv);have:=h y hy
  rcases List.mem_cons.1 hy with rfl|hy
  ·omega
  have:=ha.1 y hy;omega
def TJ (p:A0):List Int:=(p.pre.filter fun y=>decide (y.Op=0)).map (·.Var)
theorem UU (p:A0):(TJ p).length=evs p:=by unfold TJ evs;rw[List.length_map,List.countP_eq_length_filter]
theorem Vs.mem {p:A0}{v:Int}(h:Vs p v):v∈TJ p:=by
 obtain⟨y,hy,h0,h1⟩:=h;exact List.mem_map.2 ⟨y,List.mem_filter.2 ⟨hy,by simpa using h0⟩,h1⟩
theorem An0 {l:List A5} {p:A0} {L:List (List PR)} (hn:L.Nodup) (h:∀s∈L,Gd l s∧∀x∈s,Vs p x.Var):L.length≤(evs p+1) ^ l.length:=by
 have:=List.Nodup.length_le_of_subset hn (l₂:=Hf (TJ p) l.length 0) fun s hs=>by
  obtain⟨g,hv⟩:=h s hs;exact HC _ _ _ s g.asc (fun x hx=>by have:=(g.wf x hx).2;omega) fun x hx=>(hv x hx).mem
 rwa[JZ,UU]at this
theorem Ub {α β:Type}(A B:List α)(f:α→α→β):(A.flatMap fun a=>B.map (f a)).length=A.length*B.length:=by
 induction A with
 |nil=>simp
 |cons a A ih=>rw[List.flatMap_cons,List.length_append,ih,List.length_map,List.length_cons,Nat.succ_mul];omega
theorem Uc :∀(n:Nat) (p:A0),p.pre.length≤n→Kg p→1≤evs p
 |0,p,h,_=>by rw[A0.pre_eq]at h;simp at h
 | n+1,p,h,hw=>by
  by_cases h0:p.Op=0
  ·rw[FQ,if_pos h0];omega
  have hne:∃q,q∈p.cP:=by
   by_cases h3:p.Op≤3
   ·exact List.exists_mem_of_ne_nil _ (hw.self.a1 (by have:=hw.self.op;omega) h3)
   obtain⟨q,hq⟩:=hw.self.a2 (by omega);exact⟨q,by rw[hq];simp⟩
  obtain⟨q,hq⟩:=hne;have:=Uc n q (by have:=P0 hq;omega) (hw.arg hq);have:=EE hq;omega
theorem RO {x y:Nat} (hx:2≤x) (hy:2≤y):x+y≤x*y:=by
 obtain⟨a,rfl⟩:∃a,x=a+2:=⟨x - 2,by omega⟩;obtain⟨b,rfl⟩:∃b,y=b+2:=⟨y - 2,by omega⟩
 have:(a+2)*(b+2)=a*b+2*a+2*b+4:=by
  rw[Nat.mul_add,Nat.add_mul,Nat.add_mul];omega
 omega
theorem KU {p q:A0}{r:List A0}(ha:p.cP=q::r):({p with cP:=r}:A0).pre.length<p.pre.length:=by
 have h1:=A0.pre_eq ({p with cP:=r}:A0);have h2:=A0.pre_eq p;rw[h1,h2,ha];have:=A0.pre_eq q;simp only[A0.pres,List.length_cons,List.length_append,this];omega
theorem Xl {p q:A0}{r:List A0}(ha:p.cP=r++[q]):({p with cP:=r}:A0).pre.length<p.pre.length:=by
 have h1:=A0.pre_eq ({p with cP:=r}:A0);have h2:=A0.pre_eq p;rw[h1,h2,ha,De];have:=A0.pre_eq q;simp only[A0.pres,List.length_cons,List.length_append,this];omega
theorem HU {l:List A5} (hl:2≤l.length):∀(n:Nat) (p:A0),p.pre.length≤n→Kg p→Y2 p→∃C:List (List PR),C.length≤l.length ^ evs p∧∀b f s,Sm l p b f s→s∈C
 |0,p,h,_,_=>by rw[A0.pre_eq]at h;simp at h
 | n +1,p,h,hw,hp=>by
  have hop:=hw.self.op;have hnp:=hp p (AJ p)
  have hpow:∀q:A0,Kg q→2≤l.length ^ evs q:=fun q hq=>by
   have h1:=Uc _ q (Nat.le_refl _) hq;have:=Nat.pow_le_pow_right (n:=l.length) (by omega) h1
   rw[Nat.pow_one]at this;omega
  by_cases h0:p.Op=0
  ·refine⟨(List.range l.length).map fun(j:Nat)=>[⟨p.Var,(j:Int)⟩],?_,fun b f s hs=>?_⟩
   ·rw[FQ,if_pos h0,hw.self.a0 h0,List.length_map,List.length_range];simp[A0.pres]
   obtain⟨j,_,hj,_,rfl⟩:=(Sm.i0 h0).1 hs;exact List.mem_map.2 ⟨j,List.mem_range.2 hj,rfl⟩
  by_cases h1:p.Op=1
  ·match ha:p.cP with
   |[]=>exact absurd ha (hw.self.a1 (by omega) (by omega))
   |[q]=>
    have hq:q∈p.cP:=by rw[ha];simp
    obtain⟨C,h2,h3⟩:=HU hl n q (by have:=P0 hq;omega) (hw.arg hq) (hp.arg hq);refine⟨C,Nat.le_trans h2 (Nat.pow_le_pow_right (by omega) (EE hq)),fun b f s hs=>?_⟩;exact h3 _ _ _ ((Sm.i1 h1 ha).1 hs)
   | q::q'::r=>
    have hq:q∈p.cP:=by rw[ha];simp
    obtain⟨C,h2,h3⟩:=HU hl n q (by have:=P0 hq;omega) (hw.arg hq) (hp.arg hq);obtain⟨D,h4,h5⟩:=HU hl n {p with cP:=q'::r} (by have:=KU ha;omega) (hw.sub (by omega) (by omega) (fun x hx=>by rw[ha];exact List.mem_cons_of_mem _ hx) (by simp)) (hp.sub fun x hx=>by rw[ha];exact List.mem_cons_of_mem _ hx);refine⟨C.flatMap fun s=>D.map (mrg s),?_,fun b f s hs=>?_⟩
    ·rw[Ub,show evs p=evs q+evs {p with cP:=q'::r}from ?_,Nat.pow_add]
     ·exact Nat.mul_le_mul h2 h4
     rw[Le,FQ p,ha,if_neg h0];rw[A0.pres,countP_append];unfold evs;omega
    obtain⟨u,t,hu,ht,rfl⟩:=(Sm.i1c h1 ha).1 hs;exact List.mem_flatMap.2 ⟨_,h3 _ _ _ hu,List.mem_map.2 ⟨_,h5 _ _ _ ht,rfl⟩⟩
  by_cases h2':p.Op=2
  ·match ha:p.cP with
   |[]=>exact absurd ha (hw.self.a1 (by omega) (by omega))
   |[q]=>
    have hq:q∈p.cP:=by rw[ha];simp
    obtain⟨C,h2,h3⟩:=HU hl n q (by have:=P0 hq;omega) (hw.arg hq) (hp.arg hq);refine⟨C,Nat.le_trans h2 (Nat.pow_le_pow_right (by omega) (EE hq)),fun b f s hs=>?_⟩;obtain⟨q',ha',hs⟩:=(Sm.i2 h2').1 hs
    rw[ha]at ha'
    rw[List.mem_singleton.1 ha']at hs
    exact h3 _ _ _ hs
   | q::q'::r=>
    have hq:q∈p.cP:=by rw[ha];simp
    have hws:Kg {p with cP:=q'::r}:=hw.sub (by omega) (by omega) (fun x hx=>by rw[ha];exact List.mem_cons_of_mem _ hx) (by simp);obtain⟨C,h2,h3⟩:=HU hl n q (by have:=P0 hq;omega) (hw.arg hq) (hp.arg hq);obtain⟨D,h4,h5⟩:=HU hl n {p with cP:=q'::r} (by have:=KU ha;omega) hws (hp.sub fun x hx=>by rw[ha];exact List.mem_cons_of_mem _ hx);refine⟨C++D,?_,fun b f s hs=>?_⟩
    ·rw[List.length_append,show evs p=evs q+evs {p with cP:=q'::r}from ?_,Nat.pow_add]
     ·have e1:=hpow q (hw.arg hq);have e2:=hpow _ hws;have:=RO e1 e2;omega
     rw[Le,FQ p,ha,if_neg h0];rw[A0.pres,countP_append];unfold evs;omega
    obtain⟨x,ha',hs⟩:=(Sm.i2 h2').1 hs
    rw[ha]at ha'
    rcases List.mem_cons.1 ha' with e|hm
    ·rw[e]at hs;exact List.mem_append_left _ (h3 _ _ _ hs)
    exact List.mem_append_right _ (h5 _ _ _ (Sm.alt (p:={p with cP:=q'::r}) h2' hm hs))
  by_cases h3':p.Op=3
  ·rcases List.eq_nil_or_concat p.cP with ha|⟨r,q,ha⟩
   ·exact absurd ha (hw.self.a1 (by omega) (by omega))
   rw[List.concat_eq_append]at ha
   have hq:q∈p.cP:=by rw[ha];simp
   obtain⟨C,h2,h3⟩:=HU hl n q (by have:=P0 hq;omega) (hw.arg hq) (hp.arg hq)
   by_cases hr:r=[]
   ·subst hr;refine⟨C,Nat.le_trans h2 (Nat.pow_le_pow_right (by omega) (EE hq)),fun b f s hs=>?_⟩;exact h3 _ _ _ ((Sm.i3 h3' ha).1 hs)
   have hws:Kg {p with cP:=r}:=hw.sub (by omega) (by omega) (fun x hx=>by rw[ha];simp[hx]) hr;obtain⟨D,h4,h5⟩:=HU hl n {p with cP:=r} (by have:=Xl ha;omega) hws (hp.sub fun x hx=>by rw[ha];simp[hx]);refine⟨D.flatMap fun s=>C.map (mrg s),?_,fun b f s hs=>?_⟩
   ·rw[Ub,show evs p=evs {p with cP:=r}+evs q from ?_,Nat.pow_add]
    ·exact Nat.mul_le_mul h4 h2
    rw[Le,FQ p,ha,if_neg h0,De,countP_append];simp only[A0.pres,append_nil];unfold evs;omega
   obtain⟨u,t,hu,ht,_,rfl⟩:=(Sm.i3c h3' ha hr).1 hs;exact List.mem_flatMap.2 ⟨_,h5 _ _ _ hu,List.mem_map.2 ⟨_,h3 _ _ _ ht,rfl⟩⟩
  obtain⟨q,ha⟩:=hw.self.a2 (by omega)
  have hq:q∈p.cP:=by rw[ha];simp
  obtain⟨C,h2,h3⟩:=HU hl n q (by have:=P0 hq;omega) (hw.arg hq) (hp.arg hq);refine⟨C,Nat.le_trans h2 (Nat.pow_le_pow_right (by omega) (EE hq)),fun b f s hs=>?_⟩;exact h3 _ _ _ ((Sm.i5 (by omega) hop.2 ha).1 hs).1
theorem card {l:List A5} {p:A0} (hw:Kg p) (hs:Nl l.length p) {L:List (List PR)} (hn:L.Nodup) (h:∀s∈L,Gd l s∧∃b f,Sm l p b f s):L.length≤1500:=by
 rcases hs with hs|⟨h1,h2,h3⟩
 ·refine Nat.le_trans (An0 hn fun s m=>?_) hs;obtain⟨g,b,f,hm⟩:=h s m;exact⟨g,hm.vars⟩
 obtain⟨C,h4,h5⟩:=HU h2 _ p (Nat.le_refl _) hw h1
 have:=List.Nodup.length_le_of_subset hn (l₂:=C) fun s m=>by
  obtain⟨g,b,f,hm⟩:=h s m;exact h5 b f s hm
 omega
end
end Go.Ab
