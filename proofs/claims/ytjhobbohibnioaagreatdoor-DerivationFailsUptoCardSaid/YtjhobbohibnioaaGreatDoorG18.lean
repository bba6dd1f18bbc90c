/- . -/
import Derived.Test.YtjhobbohibnioaaGreatDoorG17
set_option linter.all false
open Go.Ab.Ar (an ar cmp nt)
namespace Go.Ab
open Classical
noncomputable section
section
variable {N:Nat}(hN:Bgn N){l:List A8}(hl:l.length≤10)
include hN hl
end
def add1 (out:List (List PR))(s:List PR):List (List PR):=if s∈out then out else out++[s]
def Nd (P:List PR→Prop)(out:List (List PR)):Prop:=out.Nodup∧∀s∈out,P s
def Nd.nil (P:List PR→Prop):Nd P []:=⟨List.nodup_nil,fun _ h=>absurd h List.not_mem_nil⟩
def Nd.add {P:List PR→Prop}{out:List (List PR)}{s:List PR}(h:Nd P out)(hs:P s):Nd P (add1 out s):=by
 grind[Nd,add1]
def AQ8 (r:Option (List (List PR)))(l:List A8)(p:A2)(b:List PR)(f:Int):Prop:=∃L,r=some L∧L.Nodup∧∀s,s∈L↔Sm l p b f s
def AQ8.mk {x:Option (List (List PR))}{l:List A8}{p:A2}{b:List PR}{f:Int}(h:∃L,x=some L∧L.Nodup∧∀s,s∈L↔Sm l p b f s):AQ8 (x.bind fun s=>some s) l p b f:=by
 simp_all[AQ8]
section
variable {N:Nat}(hN:Bgn N){l:List A8}(hl:l.length≤10)
include hN hl
end
end
end Go.Ab
namespace Go.Ab
open Classical
noncomputable section
def M9:List Int→List Int→Int
 |[],[]=>0
 |[],_::_=> -1
 |_::_,[]=>1
 |x::a,y::b=>if x<y then -1 else if y<x then 1 else M9 a b
def DQ:∀a:List Int,M9 a a=0
 |[]=>rfl
 |x::a=>by simp[M9,DQ a]
def JG:∀{a b:List Int},M9 a b=0→a=b
 |[],[],_=>rfl
 |[],_::_,h=>by grind[M9]
 |_::_,[],h=>by grind[M9]
 |x::a,y::b,h=>by
  unfold M9 at h
  split at h
  ·cases h
  split at h
  ·cases h
  rw[JG h];grind
def TY:∀a b:List Int,M9 b a= - M9 a b
 |[],[]=>rfl
 |[],_::_=>rfl
 |_::_,[]=>rfl
 |x::a,y::b=>by
  unfold M9;rw[TY a b]
  split<;>split<;>first|omega|rfl
def Gb:∀{a b c:List Int},M9 a b<0→M9 b c<0→M9 a c<0
 |[],[],_,h,_=>by omega
 |_::_,[],_,h,_=>by grind[M9]
 |_,_::_,[],_,h=>by grind[M9]
 |[],_::_,_::_,_,_=>by simp[M9]
 |x::a,y::b,z::c,h1,h2=>by
  unfold M9 at h1 h2 ⊢
  by_cases h3:x<z
  ·rw[A1 h3];decide
  rw[A0 h3]
  by_cases h4:x<y
  ·omega
  rw[A0 h4]at h1
  by_cases h5:y<x
  ·rw[A1 h5]at h1;cases h1
  rw[A0 h5]at h1
  by_cases h6:y<z
  ·omega
  rw[A0 h6]at h2
  by_cases h7:z<y
  ·rw[A1 h7]at h2;cases h2
  rw[A0 h7]at h2
  rw[A0 (by omega)];exact Gb h1 h2
def Vt (a b:Int):Int:=if a<b then -1 else if b<a then 1 else 0
def Gg (N:Nat)(a b:Int):O8 N a b=some (Vt a b):=by
 unfold O8 Gx Vt;simp only[A3,L9,D6,Bw,G6,AU,J2,G0,G1]
 grind
theorem or_eq {N:Nat} (hN:Bgn N) {l:List Int} (hl:l.length≤1000):Gi N l=some (AD id l):=by
 unfold Gi;rw[L5 l (by omega) (mk:=fun(_:Unit) i=>i) (body:=BQ fun x=>some x) (fin:=fun _=>.inl ()) (s:=()) (by omega) ?_ ?_]
 ·rw[AN (F:=fun x=>some x) (f:=id) fun x _=>rfl]
  grind
 ·intro s i x hx hi;have e:ar .add .i64 (i:Int) 1=i+1:=D0 (by omega) (by omega);simp only[D6,B0,hi,G6,D2,E1,hx,A3,e,BQ]
  split<;>rfl
 intro s;simp[D6,B0]
def N9 (r:T4):List Int:=[r.Time,r.Source,r.Seq]
def Bh0 (a1 a2 a3 b1 b2 b3:Int):M9 [a1,a2,a3] [b1,b2,b3]=AD id [Vt a1 b1,Vt a2 b2,Vt a3 b3]:=by
 grind[M9,AD,Vt]
def AT9 {N:Nat}(hN:Bgn N)(a b:T4):Ij N a b=some (M9 (N9 a) (N9 b)):=by
 unfold Ij;rw[Gg,Gg,Gg];simp only[A3];rw[or_eq hN (by simp),N9,N9,Bh0];rfl
def AI9 (N:Nat)(a b:T4):Ha N a b=some (M9 (N9 a) (N9 b)):=by
 unfold Ha N9;simp only[L9,D6,Bw,M9,G1,Cp,Di]
 grind
def Uq {N:Nat}(hN:Bgn N)(a b:A8):CH N a b=some (M9 [a.Time,a.Source,a.Seq] [b.Time,b.Source,b.Seq]):=by
 unfold CH DS;simp only[A3,Gg];rw[or_eq hN (by simp),←Bh0];simp only[K5,D7,EK,K3,G1,A3]
 simp_all[M9]
def Ar8:∀{a b:List Int} (c d:List Int),a.length=b.length→M9 (a++c) (b++d)=if M9 a b≠0 then M9 a b else M9 c d
 |[],[],c,d,_=>by simp[M9]
 |[],_::_,_,_,h=>by simp at h
 |_::_,[],_,_,h=>by simp at h
 |x::a,y::b,c,d,h=>by
  simp only[Y8,M9];have ih:=Ar8 (a:=a) (b:=b) c d (by grind);omega
mutual
def Fa:A4→Nat
 |⟨_,_,ks⟩=>FK ks+1
def FK:List A4→Nat
 |[]=>0
 |a::r=>Fa a+FK r
end
mutual
def NG:A4→Nat
 |⟨_,_,ks⟩=>Al4 ks+1
def Al4:List A4→Nat
 |[]=>0
 |a::r=>max (NG a) (Al4 r)
end
def Fd (d:A4):Fa d=FK d.Kids+1:=by cases d;simp[Fa]
def V2 (d:A4):NG d=Al4 d.Kids+1:=by cases d;simp[NG]
def PB:∀l:List A4,FK l=(l.map Fa).sum
 |[]=>rfl
 |a::l=>by simp[FK,PB l]
def AS3 (d:A4):1≤Fa d:=by rw[Fd];omega
def GU:∀l:List A4,l.length≤FK l
 |[]=>B1 _
 |a::l=>by have:=GU l;have:=AS3 a;grind[FK]
def Dt:∀{l:List A4} {a:A4},a∈l→Fa a≤FK l
 |b::l,a,h=>by
  simp only[FK]
  rcases List.mem_cons.1 h with rfl|h
  ·omega
  have:=Dt h;omega
def Ak:∀{l:List A4} {a:A4},a∈l→NG a≤Al4 l
 |b::l,a,h=>by
  simp only[Al4]
  rcases List.mem_cons.1 h with rfl|h
  ·omega
  have:=Ak h;omega
mutual
def Wl:∀d:A4,NG d≤Fa d
 |⟨_,_,ks⟩=>by have:=AO6 ks;simp_all[NG,Fa]
def AO6:∀l:List A4,Al4 l≤FK l
 |[]=>B1 _
 |a::l=>by have:=Wl a;have:=AO6 l;grind[Al4,FK]
end
def Tz {R α:Type} {f:α→Option Int} {c:α→Nat}:∀(l:List α) (s:Nat),(∀a∈l,f a=some (c a:Int))→s+(l.map c).sum≤1000000000000→
 (L6 (fun(s:Int) x=>(f x).bind fun r=>some (.inl (ar .add .i64 s r))) l (s:Int):Option (Int⊕R))=some (.inl ((s+(l.map c).sum:Nat):Int))
 |[],s,_,_=>by simp[L6]
 |x::l,s,h,hb=>by
  simp only[D9,IM]at hb ⊢
  simp only[L6,h x (.head _),A3];rw[D0 (by omega) (by omega)];have:=Tz (R:=R) l (s+c x) (fun a ha=>h a (.tail _ ha)) (by omega);rw[show((s:Int)+(c x:Int))=((s+c x:Nat):Int) by omega,this]
  grind
def Us {N:Nat} (hN:Bgn N):∀(n:Nat) (d:A4),NG d≤n→Fa d≤30000000→S9 N n d=some (Fa d:Int)
 |0,d,h,_=>by rw[V2]at h;omega
 |n+1,d,h,hs=>by
  have hsz:=Fd d;have hdp:=V2 d;have hl:=GU d.Kids;unfold S9;rw[L5 d.Kids (by omega) (mk:=fun(s:Int) i=>(s,i)) (body:=fun(s:Int) x=>(S9 N n x).bind fun r=>some (.inl (ar .add .i64 s r))) (fin:=fun s=>s) (s:=(1:Int)) (by omega) ?_ ?_]
  ·rw[show(1:Int)=((1:Nat):Int)from rfl,Tz (c:=Fa) d.Kids 1 (fun a ha=>Us hN n a (by have:=Ak ha;omega) (by have:=Dt ha;omega)) (by rw[←PB];omega)];simp only[A3,E3];rw[←PB];omega
  ·intro s i x hx hi;have e:ar .add .i64 (i:Int) 1=i+1:=D0 (by omega) (by omega);simp only[D6,B0,hi,G6,D2,E1,hx,A3,e];cases S9 N n x<;>rfl
  intro s;simp[D6,B0]
mutual
def dO:A4→A4→Int
 |⟨r,c,ks⟩,⟨r',c',ks'⟩=>if M9 (N9 r) (N9 r')≠0 then M9 (N9 r) (N9 r')else if Vt c c'≠0 then Vt c c' else Wo ks ks'
def Wo:List A4→List A4→Int
 |[],[]=>0
 |[],_::_=> -1
 |_::_,[]=>1
 |a::l,b::m=>if dO a b≠0 then dO a b else Wo l m
end
def Be2 (a b:A4):dO a b=if M9 (N9 a.Ref) (N9 b.Ref)≠0 then M9 (N9 a.Ref) (N9 b.Ref)else if Vt a.Choice b.Choice≠0 then Vt a.Choice b.Choice else Wo a.Kids b.Kids:=by
 cases a;cases b;simp only[dO]
mutual
def AA3:A4→List Int
 |⟨r,c,ks⟩=>N9 r++(c::RG ks)
def RG:List A4→List Int
 |[]=>[0]
 |a::l=>1::(AA3 a++RG l)
end
mutual
def AP1:∀(a b:A4) (u v:List Int),M9 (AA3 a++u) (AA3 b++v)=if dO a b≠0 then dO a b else M9 u v
 |⟨r,c,ks⟩,⟨r',c',ks'⟩,u,v=>by
  simp only[AA3,dO,E7,Y8];rw[Ar8 _ _ (by simp[N9])]
  by_cases h:M9 (N9 r) (N9 r')=0
  ·simp only[h,ne_eq,not_true,G0,M9,Vt];rw[At3 ks ks' u v];omega
  simp[h]
def At3:∀(l m:List A4) (u v:List Int),M9 (RG l++u) (RG m++v)=if Wo l m≠0 then Wo l m else M9 u v
 |[],[],u,v=>by simp[M9,RG,Wo]
 |[],_::_,u,v=>by simp[M9,RG,Wo]
 |_::_,[],u,v=>by simp[M9,RG,Wo]
 |a::l,b::m,u,v=>by
  simp only[RG,Wo,Y8,E7,M9,LE,G0];rw[AP1 a b,At3 l m];omega
end
def QU (a b:A4):dO a b=M9 (AA3 a) (AA3 b):=by
 have:=AP1 a b [] []
 simp_all[M9]
def ZJ {N:Nat} {a b:List A4} {step:Int→Option (Int⊕(Unit⊕Int))} {k:Unit⊕Int→Option Int} (hN:a.length<N) (hl:a.length≤30000000)
 (hs:∀(i:Nat) (h1:i<a.length) (h2:i<b.length),step (i:Int)=if cmp .neq (dO a[i] b[i]) 0=true then some (.inr (.inr (dO a[i] b[i])))else some (.inl (ar .add .i64 (i:Int) 1)))
 (he:∀i:Nat,i≤a.length→i≤b.length→i=a.length∨i=b.length→∃r,step (i:Int)=some (.inr r)∧k r=some (if a.length<b.length then -1 else if b.length<a.length then 1 else 0)) (hk:∀c,k (.inr c)=some c):(loopN step N 0).bind k=some (Wo a b):=by
 have key:∀(d i N:Nat),i+d=a.length→d<N→i≤b.length→(loopN step N (i:Int)).bind k=some (Wo (a.drop i) (b.drop i)):=by
  have hend:∀(i N:Nat),i≤a.length→i≤b.length→i=a.length∨i=b.length→(loopN step (N+1) (i:Int)).bind k=some (Wo (a.drop i) (b.drop i)):=fun i N h1 h2 h=>by
   obtain⟨r,e1,e2⟩:=he i h1 h2 h;simp only[loopN,e1,A3,e2]
   by_cases ha:i<a.length
   ·rw[O4 ha,Dg (show b.length≤i by omega),A0 (by omega),A1 (by omega)];simp[Wo]
   rw[Dg (show a.length≤i by omega)]
   by_cases hb:i<b.length
   ·rw[O4 hb,A1 (by omega)];simp[Wo]
   grind[Wo]
  intro d
  induction d with
  |zero=>
   intro i N hi hN hb;obtain⟨N,rfl⟩:∃m,N=m+1:=⟨N-1,by omega⟩
   simp_all
  | succ d ih=>
   intro i N hi hN hb;obtain⟨N,rfl⟩:∃m,N=m+1:=⟨N-1,by omega⟩
   by_cases h:i=b.length
   ·grind
   have ha:i<a.length:=by omega
   have hb:i<b.length:=by omega
   rw[O4 ha,O4 hb,Wo];unfold loopN;rw[hs i ha hb,D0 (by omega) (by omega)]
   by_cases hz:dO a[i] b[i]=0
   ·rw[A0 (show¬(cmp .neq (dO a[i] b[i]) 0=true)from H7 hz),A0 (by omega)]
    grind
   rw[A1 (show cmp .neq (dO a[i] b[i]) 0=true from K0 hz),A1 hz];exact hk _
 simpa using key a.length 0 N (by omega) hN (by omega)
def SJ {N:Nat} (hN:Bgn N):∀(n:Nat) (x y:A4),NG x≤n→Fa x≤30000000→P8 N n x y=some (dO x y)
 |0,d,_,h,_=>by rw[V2]at h;omega
 | n+1,x,y,h,hs=>by
  have hsz:=Fd x;have hdp:=V2 x;have hl:=GU x.Kids;unfold P8;rw[Uq hN,Be2];simp only[A3]
  change (if cmp .neq (M9 (N9 x.Ref) (N9 y.Ref)) 0=true then some (M9 (N9 x.Ref) (N9 y.Ref))else _)=_
  by_cases h0:M9 (N9 x.Ref) (N9 y.Ref)=0
  ·rw[A0 (H7 h0),A0 (show¬(M9 (N9 x.Ref) (N9 y.Ref)≠0) by omega)]
   by_cases h1:x.Choice<y.Choice
   ·rw[A1 (W8 h1)];simp[Vt,h1]
   rw[A0 (K4 h1)]
   by_cases h2:y.Choice<x.Choice
   ·rw[A1 (W1 h2)];simp[Vt,h1,h2]
   rw[A0 (Q4 h2),A0 (by grind[Vt])];unfold J3
   generalize x.Kids=a at *
   generalize y.Kids=b at *
   refine I4 (fun o:Option Int=>o.bind fun r1=>some r1) (ZJ (a:=a) (b:=b) (by omega) (by omega) (fun i h1 h2=>?_) (fun i h1 h2 h=>?_) fun _=>rfl)
   ·rw[A1 (T8 (by omega)),E1,C0 h1];simp only[A3];rw[A0 (by rw[O7,B0];simp;omega),E1,C0 h2];simp only[A3];rw[SJ hN n _ _ (by have:=Ak (E4 h1);omega) (by have:=Dt (E4 h1);omega)];rfl
   by_cases ha:i<a.length
   ·refine⟨.inr 1,?_,?_⟩
    ·rw[A1 (T8 (by omega)),E1,C0 ha];simp only[A3];rw[A1 (by rw[O7,B0];simp;omega)]
    grind
   refine⟨.inl (),by rw[A0 (K4 (by rw[B0];omega))],?_⟩
   dsimp only
   by_cases hb:a.length<b.length
   ·rw[A1 (W8 (by rw[B0,B0];omega)),A1 hb]
   rw[A0 (K4 (by rw[B0,B0];omega)),A0 hb,A0 (show¬b.length<a.length by omega)]
  rw[A1 (K0 h0),A1 (show M9 (N9 x.Ref) (N9 y.Ref)≠0 from h0)]
def AH2 (N:Nat)(a b:T4):CQ N a b=some (M9 (N9 a) (N9 b)):=by
 unfold CQ Fg N9;simp only[L9,D6,Bw,D7,M9,G1,Cp,Di]
 grind
def Za {N:Nat} (hN:Bgn N):∀(n:Nat) (x y:A4),NG x≤n→Fa x≤30000000→Z9 N n x y=some (dO x y)
 |0,d,_,h,_=>by rw[V2]at h;omega
 | n+1,x,y,h,hs=>by
  have hsz:=Fd x;have hdp:=V2 x;have hl:=GU x.Kids;unfold Z9;rw[AH2,Be2];simp only[A3]
  by_cases h0:M9 (N9 x.Ref) (N9 y.Ref)=0
  ·rw[A0 (H7 h0),A0 (show¬(M9 (N9 x.Ref) (N9 y.Ref)≠0) by omega)]
   by_cases h1:x.Choice<y.Choice
   ·rw[A1 (K0 (by omega)),A1 (W8 h1)];simp[Vt,h1]
   by_cases h2:y.Choice<x.Choice
   ·rw[A1 (K0 (by omega)),A0 (K4 h1)];simp[Vt,h1,h2]
   rw[A0 (H7 (by omega)),A0 (show¬(Vt x.Choice y.Choice≠0) by grind[Vt])]
   generalize x.Kids=a at *
   generalize y.Kids=b at *
   refine ZJ (a:=a) (b:=b) (by omega) (by omega) (fun i h1 h2=>?_) (fun i h1 h2 h=>⟨.inl (),by rw[A0 (by simp only[K5,D6,B0];simp;omega)],?_⟩) fun _=>rfl
   ·rw[A1 (by simp only[K5,D6,B0];simp;omega),E1,C0 h1,E1,C0 h2];simp only[A3];rw[Za hN n _ _ (by have:=Ak (E4 h1);omega) (by have:=Dt (E4 h1);omega)];rfl
   dsimp only
   by_cases hb:a.length<b.length
   ·rw[A1 (W8 (by rw[B0,B0];omega)),A1 hb]
   rw[A0 (K4 (by rw[B0,B0];omega)),A0 hb]
   by_cases hc:b.length<a.length
   ·rw[A1 (W1 (by rw[B0,B0];omega)),A1 hc]
   rw[A0 (Q4 (by rw[B0,B0];omega)),A0 hc]
  rw[A1 (K0 h0),A1 (show M9 (N9 x.Ref) (N9 y.Ref)≠0 from h0)]
def W0 (e:A8):List Int:=[e.Time,e.Source,e.Seq]
def HK (e:A8):Bool:=(an (an (an (an (an (cmp .geq e.Time 0) (cmp .leq e.Time 1099511627776)) (cmp .geq e.Source 0)) (cmp .lss e.Source 8)) (cmp .geq e.Seq 0)) (cmp .leq e.Seq 1099511627776))
def EN (a b:A8):Bool:=decide (a.Source=b.Source)&&decide (a.Seq=b.Seq)
def Qn (l:List A8)(i:Nat):Int:=
 match l[i]? with
 |none=>0
 |some e=>if HK e=false then 2 else if 0<i∧0≤M9 (W0 ((l[i-1]?).getD e)) (W0 e)then 14 else if(l.take i).any (fun x=>EN x e)=true then 7 else 0
def Al (l:List A8):Int:=if 4096<l.length then 5 else AD (Qn l) (List.range l.length)
def AF2 {N : Nat} (hN:Bgn N) {l:List A8} (hl:l.length≤4096) {i:Nat} (hi:i<l.length):(loopN
                    (fun(s10:Int)=>
                     (
                      if cmp .lss s10 (i:Int)=true then
                       (B9 l s10).bind fun x12=>
                       (Ig N x12 l[i]).bind fun r14=>
                       if r14=true then
                        some (.inr (.inr ()))
                       else
                        some (.inl (ar .add .i64 s10 1))
                      else
                       some (.inr (.inl ()))
                      :Option ((Int)⊕(Unit⊕Unit))))
                    N 0)=some (if(l.take i).any (fun x=>EN x l[i])=true then .inr ()else .inl ()):=by
 have hlen:(l.take i).length=i:=by rw[U3];omega
 rw [Kt (l:=l.take i) (fun x=>EN x l[i]) (by omega) (by omega) (fun j x hx hj=>by
     have hji:j<i:=by omega
     have e:ar .add .i64 (j:Int) 1=j+1:=D0 (by omega) (by omega)
     rw[List.getElem?_take_of_lt hji]at hx
     rw[A1 (W8 (by omega)),E1,hx];simp only[A3,e,Ig,D7,K5]
     grind[EN]) (by rw[hlen,A0 (K4 (LE _))])]
def AU1 {N:Nat} (hN:Bgn N) {l:List A8}:Jw N l=some (Al l):=by
 unfold Jw Al
 by_cases h1:4096<l.length
 ·rw[A1 (W1 (by rw[B0];omega)),A1 h1]
 rw[A0 (Q4 (by rw[B0];omega)),A0 h1];have hr:(List.range l.length).length=l.length:=Db;rw[L5 (List.range l.length) (by omega) (mk:=fun(_:Unit) i=>i) (body:=BQ fun i=>some (Qn l i)) (fin:=fun _=>.inl ()) (s:=()) (by omega) ?_ ?_]
 ·rw[AN (F:=fun i=>some (Qn l i)) (f:=Qn l) fun x _=>rfl]
  grind
 ·intro s i x hx hi
  have hil:i<l.length:=by omega
  rw[GM hil]at hx
  cases hx;have e:ar .add .i64 (i:Int) 1=i+1:=D0 (by omega) (by omega);rw[A1 (T8 (by omega)),Pm hil];simp only[A3];rw[AF2 hN (by omega) hil]
  have hbs:Qn l i=if HK l[i]=false then 2 else if 0<i∧0≤M9 (W0 ((l[i-1]?).getD l[i])) (W0 l[i])then 14 else if(l.take i).any (fun x=>EN x l[i])=true then 7 else 0:=by
   unfold Qn;rw[C0 hil]
  unfold KP Np BQ;simp only[A3,e];rw[hbs];have hp:(an (an (an (an (an (cmp .geq l[i].Time 0) (cmp .leq l[i].Time 1099511627776)) (cmp .geq l[i].Source 0)) (cmp .lss l[i].Source 8)) (cmp .geq l[i].Seq 0)) (cmp .leq l[i].Seq 1099511627776))=HK l[i]:=rfl;rw[hp]
  cases HK l[i]with
  |false=>rfl
  | true=>
   rw[A0 (show¬(nt true=true) by decide),A0 (show¬(true=false) by decide)]
   by_cases h0:0<i
   ·rw[A1 (W1 (by omega))]
    have e1:ar .sub .i64 (i:Int) 1=((i-1:Nat):Int):=by rw[Gs (by omega) (by omega)];omega
    have hi1:i-1<l.length:=by omega
    rw[e1,Pm hi1,C0 hi1];simp only[A3,AI9,U2];have hk:M9 (N9 ⟨l[i-1].Time,l[i-1].Source,l[i-1].Seq⟩) (N9 ⟨l[i].Time,l[i].Source,l[i].Seq⟩)=M9 (W0 l[i-1]) (W0 l[i]):=rfl;rw[hk]
    by_cases h2:0≤M9 (W0 l[i-1]) (W0 l[i])
    ·rw[A1 (show cmp .geq (M9 (W0 l[i-1]) (W0 l[i])) 0=true by rw[O7];simp_all),A1 (show 0<i∧0≤M9 (W0 l[i-1]) (W0 l[i])from⟨h0,h2⟩)];rfl
    rw[A0 (show¬(cmp .geq (M9 (W0 l[i-1]) (W0 l[i])) 0=true) by rw[O7];grind),A0 (show¬(0<i∧0≤M9 (W0 l[i-1]) (W0 l[i]))from fun h=>h2 h.2)];cases(l.take i).any fun x=>EN x l[i]<;>rfl
   rw[A0 (Q4 (by omega)),A0 (show¬(0<i∧0≤M9 (W0 ((l[i-1]?).getD l[i])) (W0 l[i]))from fun h=>h0 h.1)];cases(l.take i).any fun x=>EN x l[i]<;>rfl
 intro s;rw[hr,A0 Cv]
def JY (p:List A8):List (I1×Bool):=p.map fun e=>(⟨e.Source,e.Seq⟩,true)
def AA8 (p:List A8) (e:A8):∃b,QO (JY p) ⟨e.Source,e.Seq⟩ false=some (p.any fun x=>EN x e,b):=by
 unfold QO JY
 induction p with
 |nil=>simp_all
 | cons x p ih=>
  obtain⟨b,ih⟩:=ih;rw[D9,List.find?_cons,EI]
  by_cases h:(⟨x.Source,x.Seq⟩:I1)=⟨e.Source,e.Seq⟩
  ·have ht:EN x e=true:=by
    simp_all[EN]
   simp_all
  have ht:EN x e=false:=by
   simp_all[EN]
  grind
def Ax6 {p:List A8}{e:A8}(h:(p.any fun x=>EN x e)=false):PF (JY p) ⟨e.Source,e.Seq⟩ true=some (JY (p++[e])):=by
 simp_all[PF,JY,EN]
def AL9 {B:Type} {N n:Nat} {M:Nat→B} {step:(Int×B)→Option ((Int×B)⊕(B⊕(Int×B)))} (f:Nat→Int) {k:B⊕(Int×B)→Option Int} (hN:n<N) (hn:n<1000000000)
 (hs:∀i:Nat,i<n→ar .add .i64 (i:Int) 1=i+1→step ((i:Int),M i)=some (if f i=0 then .inl ((i:Int)+1,M (i+1))else .inr (.inr (f i,M i)))) (he:step ((n:Int),M n)=some (.inr (.inl (M n)))) (h0:∀m,k (.inl m)=some 0) (h1:∀c m,k (.inr (c,m))=some c):(loopN step N (0,M 0)).bind k=some (AD f (List.range n)):=by
 have key:∀(d i N:Nat),i+d=n→d<N→(loopN step N ((i:Int),M i)).bind k=some (AD f (List.range' i d)):=by
  intro d
  induction d with
  |zero=>
   intro i N hi hN;obtain⟨N,rfl⟩:∃m,N=m+1:=⟨N-1,by omega⟩
   simp_all[loopN,AD]
  | succ d ih=>
   intro i N hi hN;obtain⟨N,rfl⟩:∃m,N=m+1:=⟨N-1,by omega⟩;rw[Dr]
   by_cases hf:f i=0
   ·simp only[loopN,hs i (by omega) (D0 (by omega) (by omega)),AD,hf,D2]
    grind
   simp only[loopN,hs i (by omega) (D0 (by omega) (by omega)),AD,hf,G0,A3,h1]
 rw[GP]
 grind
def WY {N:Nat} (hN:Bgn N) {l:List A8}:Ct N l=some (Al l):=by
 unfold Ct Al
 by_cases h1:4096<l.length
 ·rw[A1 (W1 (by rw[B0];omega)),A1 h1]
 rw[A0 (Q4 (by rw[B0];omega)),A0 h1];refine AL9 (M:=fun i=>JY (l.take i)) (Qn l) (by omega) (by omega) (fun i hil e=>?_) (by dsimp only;rw[A0 Cv]) (fun _=>rfl) (fun _ _=>rfl);obtain⟨b,hb⟩:=AA8 (l.take i) l[i];have hp:JT N l[i]=some (HK l[i]):=rfl;have hst:HN N l[i]=some ⟨l[i].Source,l[i].Seq⟩:=rfl
 dsimp only
 rw[A1 (T8 (by omega)),Pm hil];simp only[A3];unfold Qn;rw[hp,hst,C0 hil];simp only[A3,hb,e]
 cases HK l[i]with
 |false=>rfl
 | true=>
  rw[A0 (show¬(nt true=true) by decide),A0 (show¬(true=false) by decide)]
  have ht:(if(l.take i).any (fun x=>EN x l[i])=true then some (.inr (.inr (7,JY (l.take i))))else(PF (JY (l.take i)) ⟨l[i].Source,l[i].Seq⟩ true).bind fun l15=>some (.inl ((i:Int)+1,l15)):Option ((Int×(List (I1×Bool)))⊕(((List (I1×Bool)))⊕(Int×(List (I1×Bool))))))=some (if(if(l.take i).any (fun x=>EN x l[i])=true then(7:Int)else 0)=0 then .inl ((i:Int)+1,JY (l.take (i+1)))else .inr (.inr (if(l.take i).any (fun x=>EN x l[i])=true then(7:Int)else 0,JY (l.take i)))):=by
   by_cases h7:(l.take i).any (fun x=>EN x l[i])=true
   ·simp_all
   rw[A0 h7,A0 h7,Ax6 (by grind),Aw hil];rfl
  by_cases h0:0<i
  ·have hi1:i-1<l.length:=by omega
   rw[A1 (W1 (by omega)),show ar .sub .i64 (i:Int) 1=((i-1:Nat):Int) by rw[Gs (by omega) (by omega)];omega,Pm hi1,C0 hi1];simp only[A3,Uq hN,U2];have hk:M9 [l[i-1].Time,l[i-1].Source,l[i-1].Seq] [l[i].Time,l[i].Source,l[i].Seq]=M9 (W0 l[i-1]) (W0 l[i]):=rfl;rw[hk]
   by_cases h2:0≤M9 (W0 l[i-1]) (W0 l[i])
   ·rw[A1 (show cmp .geq (M9 (W0 l[i-1]) (W0 l[i])) 0=true by rw[O7];simp_all),A1 (show 0<i∧0≤M9 (W0 l[i-1]) (W0 l[i])from⟨h0,h2⟩)];rfl
   rw[A0 (show¬(cmp .geq (M9 (W0 l[i-1]) (W0 l[i])) 0=true) by rw[O7];grind),A0 (show¬(0<i∧0≤M9 (W0 l[i-1]) (W0 l[i]))from fun h=>h2 h.2)];exact ht
  rw[A0 (Q4 (by omega)),A0 (show¬(0<i∧0≤M9 (W0 ((l[i-1]?).getD l[i])) (W0 l[i]))from fun h=>h0 h.1)];exact ht
def AJ (l:List A8)(i:Int):T4:=match l[i.toNat]? with|some e=>⟨e.Time,e.Source,e.Seq⟩|none=>⟨0,0,0⟩
def Bc (l:List A8)(s:List PR):DX:=⟨s.map fun x=>⟨x.Var,AJ l x.At⟩⟩
def SY {α:Type}{l:List α}{k:Nat}(h:k≤l.length):O5 l none (some (k:Int)) none=some (l.take k):=by
 simp_all[O5]
def Al2 {α:Type}{l:List α}{k:Nat}(h:k≤l.length):O5 l (some (k:Int)) none none=some (l.drop k):=by
 unfold O5;rw[A1 (by simp;omega)];simp only[U2,Ds,R6];rw[Av (by simp)]
def Ba0 (a:A4):dO a a=0:=by rw[QU,DQ]
def AP0 (a b:A4):dO b a= - dO a b:=by rw[QU,QU,TY]
def AO9 {a b c:A4} (h1:dO a b≤0) (h2:dO b c≤0):dO a c≤0∧(dO a b<0→dO a c<0):=by
 rw[QU a b]at h1 ⊢
 rw[QU b c]at h2
 rw[QU a c]
 rcases Int.lt_or_eq_of_le h1 with h1|h1
 ·rcases Int.lt_or_eq_of_le h2 with h2|h2
  ·have:=Gb h1 h2;omega
  rw[←JG h2];omega
 rw[JG h1]at *;omega
abbrev DP:=A6
def dpr (b:DP):PR:=⟨b.v,b.at_⟩
def O2 (b:PR):DP:=⟨b.Var,b.At⟩
def AO7 (b:PR):dpr (O2 b)=b:=rfl
def Aa8 (b:DP):O2 (dpr b)=b:=rfl
abbrev N7 (s:List DP):List PR:=s.map dpr
def I3 (s:List PR):N7 (s.map O2)=s:=by rw[N7,J0];exact(X3 fun x _=>AO7 x).trans (List.map_id s)
def AZ4 (s:List DP):(N7 s).map O2=s:=by rw[J0];exact(X3 fun x _=>Aa8 x).trans (List.map_id s)
def Al8 {N:Nat} (hN:Bgn N) {a b:List DP} (ha:a.length≤1000000) (hb:b.length≤1000000):Z7 N [a,b]=some (a++b):=by
 unfold Z7;rw[L5 [a,b] (by simp) (mk:=fun(s:Int) i=>(s,i)) (body:=fun(s:Int) (x:List DP)=>if cmp .lss (ar .add .i64 s (Ar.len x)) 0=true then none else some (.inl (ar .add .i64 s (Ar.len x)))) (fin:=fun s=>s) (s:=(0:Int)) (by simp;omega) ?_ ?_]
 ·have e1:ar .add .i64 0 (Ar.len a)=(a.length:Int):=by rw[B0,D0 (by omega) (by omega)];omega
  have e2:ar .add .i64 (a.length:Int) (Ar.len b)=((a.length+b.length:Nat):Int):=by rw[B0,D0 (by omega) (by omega)];omega
  simp only[L6,e1];rw[A0 (K4 (by omega))];simp only[e2];rw[A0 (K4 (by omega))];simp only[A3]
  have hg:AF N [] ((a.length+b.length:Nat):Int)=some []:=by
   unfold AF As6;rw[A1 (by simp;omega)]
  rw[hg];simp only[A3];rw[L5 [a,b] (by simp) (mk:=fun(s:List DP) i=>(i,s)) (body:=fun(s:List DP) (x:List DP)=>(P9 s x).bind fun r=>some (.inl r)) (fin:=fun s=>s) (s:=([]:List DP)) (by simp;omega) ?_ ?_]
  ·simp only[L6];rw[S1 (by simp;omega)];simp only[A3,I5];rw[S1 (by omega)];rfl
  ·intro s i x hx hi;have e:ar .add .i64 (i:Int) 1=i+1:=D0 (by omega) (by grind);rw[A1 (W8 (by rw[B0];exact hi)),E1,hx,e]
   grind
  intro s;rw[A0 (K4 (by rw[B0];omega))]
 ·intro s i x hx hi;have e:ar .add .i64 (i:Int) 1=i+1:=D0 (by omega) (by grind);rw[A1 (W8 (by rw[B0];exact hi)),E1,hx,e]
  grind
 intro s;rw[A0 (K4 (by rw[B0];omega))]
def Ab0 {N:Nat} (hN:Bgn N) {a b:List DP} {n:Int} (hn:n≤1000000) (hla:a.length≤1000000) (hlb:b.length≤1000000) (ha:UT (N7 a)) (hb:UT (N7 b)) (hd:O1 (N7 a) (N7 b)) (ia:InS n (N7 a)) (ib:InS n (N7 b)):
 H9 N a b=some ((mrg (N7 a) (N7 b)).map O2):=by
 unfold H9;rw[Al8 hN hla hlb];simp only[A3];have hm:=JD _ (B1 _) ha hb hd;have hin:∀x∈mrg (N7 a) (N7 b),0≤x.At∧x.At<n:=fun x hx=>(M5.1 hx).elim (ia x) (ib x)
 have hs:Mp (fun y1 y2=>ED N y1 y2) (a++b)=some ((mrg (N7 a) (N7 b)).map O2):=by
  refine YB ?_ (ES.2 ⟨?_,?_⟩) (by simp;omega)
  ·have:=(Eb _ (N7 a) (N7 b) (B1 _)).map O2;refine this.trans (List.Perm.of_eq ?_);rw[←N1,J0];exact(X3 fun x _=>Aa8 x).trans (List.map_id _)
  ·intro x _
   show(match some (ar .sub .i64 x.at_ x.at_)with|some c=>decide (0≤c)|none=>false)=true
   rw[Gs (by omega) (by omega)];simp
  rw[R5];refine Jg (fun{x y} hx hy hlt=>?_) hm;have:=hin x hx;have:=hin y hy
  constructor
  ·show(match some (ar .sub .i64 x.At y.At)with|some c=>decide (c<0)|none=>false)=true
   rw[Gs (by omega) (by omega)];simp;omega
  show(match some (ar .sub .i64 y.At x.At)with|some c=>decide (0≤c)|none=>false)=true
  rw[Gs (by omega) (by omega)];simp;omega
 rw[hs];rfl
def Le {N:Nat} (hN:Bgn N) {s:List DP} (hl:s.length≤1000000) {f:DP→Option Bool} {P:DP→Bool} (hf:∀x∈s,f x=some (P x)):K8 N s f=some (s.any P):=by
 unfold K8 AE
 obtain⟨j,h,hj⟩:=ZK (N:=N) (l:=s) (by omega) (by omega) (A:=Unit) (B:=Int) (step:=(fun(s1:Int)=>
  (
   if cmp .lss s1 (Ar.len s)=true then
    (B9 s s1).bind fun x3=>
    (f x3).bind fun r4=>
    if r4=true then
     some (.inr (.inr s1))
    else
     some (.inl (ar .add .i64 s1 1))
   else
    some (.inr (.inl ()))
   :Option ((Int)⊕(Unit⊕Int))))) P () (fun i=>i) (fun i x hx hi=>by
  have e:ar .add .i64 (i:Int) 1=i+1:=D0 (by omega) (by omega);simp only[D6,B0,hi,G6,D2,E1,hx,A3,e,hf x (Dd hx)]
  split<;>rfl) (by simp[D6,B0])
 rw[h]
 by_cases ha:s.any P=true
 ·rw[A1 ha,ha];simp only[A3,O7,J1 hj]
 rw[A0 ha];simp only[A3,O7]
 rw[As]at ha
 rw[ha];rfl
def Uw {N:Nat} (hN:Bgn N) {a b:List DP} (ha:a.length≤1000000) (hb:b.length≤1000000):AC N a b=some (!T7 (N7 a) (N7 b)):=by
 unfold AC
 rw[Le hN ha (P:=fun x=>Sg (N7 b) x.at_) fun x _=>by
  unfold Bg
  rw[Le hN hb (P:=fun y=>decide (y.at_=x.at_)) fun y _=>by
   unfold An
   rw[D7,show(decide (x.at_=y.at_))=decide (y.at_=x.at_)from decide_eq_decide.2 ⟨Eq.symm,Eq.symm⟩]]
  simp only[A3,Sg,N7,IJ]
  rfl]
 simp only[A3,T7,N7,IJ,P7];rfl
def AZ6 {N:Nat}(hN:Bgn N){s:List DP}(hl:s.length≤1000000)(i:Int):K8 N s (fun y1=>S8 N y1 i)=some (Sg (N7 s) i):=by
 rw[Le hN hl (f:=fun y1=>S8 N y1 i) (P:=fun y=>decide (y.at_=i)) fun y _=>rfl];simp only[Sg,N7,IJ];rfl
def AZ5 {s:List DP}(h:s≠[]):N7 s≠[]:=fun e=>h (List.map_eq_nil_iff.1 e)
def Wb {s:List DP}(h:s≠[])(hl:s.length≤1000000):∃x,B9 s (ar .sub .i64 (Ar.len s) 1)=some x∧x.at_=T9 (N7 s):=by
 rw[Qb h hl]
 cases hg:s.getLast? with
 |none=>simp_all
 |some x=>exact⟨x,rfl,by simp[T9,N7,List.getLast?_map,hg,dpr]⟩
def Ph {N:Nat}{s:List DP}(h:s≠[])(hl:s.length≤1000000)(hr:0≤T9 (N7 s)∧T9 (N7 s)<1000000):S0 N s=some (T9 (N7 s)+1):=by
 unfold S0;obtain⟨x,hx,e⟩:=Wb h hl;rw[hx];simp only[A3];rw[e,D0 (by omega) (by omega)]
def At2 {N:Nat} (hN:Bgn N) {l:List A8} {s:List DP} (hs:s.length≤1000000) (hw:WfS l (N7 s)) (c b:Int):Y6 N ⟨l,c⟩ s b=some (Vg l (N7 s) b):=by
 unfold Y6;have h1:mkL 16 16 ([]:List A8)=some (List.replicate 16 []):=rfl;rw[h1];simp only[A3];rw[L5 s (by omega) (mk:=fun(rows:List (List A8)) i=>(i,rows)) (body:=fun rows x=>if cmp .lss (dpr x).At b=true then(B9 rows (dpr x).Var).bind fun x9=>(B9 l (dpr x).At).bind fun x14=>(P9 x9 [x14]).bind fun l15=>(FJ rows (dpr x).Var (fun _=>l15)).bind fun l13=>some (.inl l13)else some (.inl rows)) (fin:=fun s=>s) (s:=List.replicate 16 []) (by omega) ?_ ?_]
 ·rw[Ty dpr l b hs hw];rfl
 ·intro rows i x hx hi;have e:ar .add .i64 (i:Int) 1=i+1:=D0 (by omega) (by omega);simp only[D6,B0,hi,G6,D2,E1,hx,A3,e]
  show(if decide (x.at_<b)=true then _ else _)=Option.bind (if decide (x.at_<b)=true then _ else _) _
  by_cases hb:x.at_<b
  ·rw [A1 (J1 hb),A1 (J1 hb)]
   show((B9 rows x.v).bind _)=((B9 rows x.v).bind _).bind _
   cases B9 rows x.v with
   |none=>rfl
   | some r=>
    simp only[A3]
    show((B9 l x.at_).bind _)=((B9 l x.at_).bind _).bind _
    cases B9 l x.at_ with
    |none=>rfl
    | some y=>
     simp only[A3]
     cases P9 r [y]with
     |none=>rfl
     |some q=>
      simp only[A3]
      show((FJ rows x.v _).bind _)=((FJ rows x.v _).bind _).bind _
      cases FJ rows x.v fun _=>q<;>rfl
  grind
 intro s;simp[D6,B0]
def IH (l:List A8)(p:A2)(b:List PR)(i:Nat):Bool:=match l[i]? with|some e=>decide (e.Typ=p.Typ)&&Mn (Vg l b i) p.Var e p.cR|none=>false
def SX {N:Nat}(hN:Bgn N){l:List A8}{s:List DP}(hs:s.length<1000000)(hw:WfS l (N7 s))(c:Int){p:A2}(hc:p.cR.bulk≤16777216){i:Nat}(hi:i<l.length):
 P1 N ⟨l,c⟩ p s i=some (IH l p (N7 s) i):=by
 unfold P1 IH
 dsimp only
 rw[Pm hi,C0 hi];simp only[A3]
 by_cases ht:l[i].Typ=p.Typ
 ·rw[A1 (J4 ht),At2 hN (by omega) hw];simp only[A3];rw[Yr hN (Kz l (by grind) _) _ _ hc];simp[ht]
 rw[A0 (by rw[CI ht];simp)];simp[ht]
def Ww {N:Nat} (hN:Bgn N) {l:List A8} (hl:l.length≤100000) {p:A2} (hc:p.cR.bulk≤16777216) (hop:5≤p.Op∧p.Op≤7) {b s:List DP} (gb:Gd l (N7 b)) (gs:Gd l (N7 s)) (hn:s≠[]) (hd:O1 (N7 b) (N7 s)) (f:Int):
 V4 N ⟨l,f⟩ p b s=some (BY l p (N7 b) (N7 s)):=by
 have lb:=gb.len;have ls:=gs.len
 rw[D4]at lb ls
 have gm:=gb.mrg gs hd;have lm:=gm.len;have hnp:=AZ5 hn;have hlst:=gs.lst hnp;obtain⟨h0,h1,h2,hh⟩:=gs.hd hnp
 obtain⟨x0,hx0,e0⟩:∃x,B9 s 0=some x∧x.at_=hdA (N7 s):=by
  cases s with
  |nil=>simp_all
  |cons x s=>exact⟨x,rfl,rfl⟩
 obtain⟨x1,hx1,e1⟩:=Wb hn (by omega);have hj:=Ab0 (n:=l.length) hN (by omega) (by omega) (by omega) gb.asc gs.asc hd gb.wf.ins gs.wf.ins;have ec:=I3 (mrg (N7 b) (N7 s))
 generalize (mrg (N7 b) (N7 s)).map O2=c at hj ec
 have lc:c.length≤100000:=by have:=I4 List.length ec;rw[D4]at this;omega
 have wc:WfS l (N7 c):=by rw[ec];exact gm.wf
 unfold V4 BY;rw[hx0,hx1,hj];simp only[A3]
 by_cases h6:p.Op=6
 ·rw[A1 (J4 h6),A1 h6];obtain⟨y1,hy1,t1⟩:=Sq (l:=l) (i:=T9 (N7 s)) (by omega) (by omega);obtain⟨y0,hy0,t0⟩:=Sq (l:=l) (i:=x0.at_) (by omega) (by omega);rw[e1,hy1,hy0];simp only[A3,Bv,t1,t0,e0]
 rw[A0 h6,A0 (by rw[CI h6];simp)]
 by_cases h7:p.Op=7
 ·rw[A1 (J4 h7),A1 h7,At2 hN (by omega) wc];simp only[A3];rw[Yr hN (Kz l (show(N7 c).length<1000000 by rw[D4];omega) _) _ _ hc,ec];rfl
 rw[A0 h7,A0 (by rw[CI h7];simp)];obtain⟨n,hnn⟩:=Dh hlst.1;obtain⟨a,ha⟩:=Dh h0;rw[e0,ha,D0 (a:=((a:Nat):Int)) (by omega) (by omega),show((a:Int)+1)=((a+1:Nat):Int) by omega];rw[OP (A:=Unit) (n:=n) (P:=UO l p (N7 b) (N7 s)) (u:=()) 0 ?_ ?_ n (a+1) N (by omega) (by omega) (by omega),VY (by omega) (by omega) (by omega) hh hlst.2]
 ·cases UC l p (N7 b) (N7 s)<;>rfl
 ·intro i _ hi
  have hil:i<l.length:=by omega
  have e:ar .add .i64 (i:Int) 1=i+1:=D0 (by omega) (by omega);rw[A1 (W8 (by omega)),AZ6 hN (by omega),SX hN (by omega) wc _ hc hil,ec];simp only[A3,P7,e];unfold UO IH
  grind
 intro i hi;rw[A0 (K4 (by omega))]
def JQ (p:A2):(A2.pres p.cQ).length+1=p.pre.length:=by rw[A2.pre_eq p];simp
def AB5 {N:Nat} (hN:Bgn N):∀(n:Nat) (p:A2),p.pre.length≤n→p.pre.length≤16777216→AH N n p=some (Y2 p:Int):=by
 intro n
 induction n with
 |zero=>intro p h;have:=JQ p;omega
 | succ n ih=>
  intro p h hb;have hp:=JQ p;have hal:=V5 p;unfold AH
  have h0:((if cmp .eql p.Op 0=true then some 1 else some 0:Option Int))=some (if p.Op=0 then 1 else 0):=by
   rw[D7]
   by_cases h:p.Op=0<;>simp[h]
  rw[h0];simp only[A3];rw[L5 p.cQ (by omega) (mk:=fun(s:Int) i=>(s,i)) (body:=fun s q=>(AH N n q).bind fun r=>some (.inl (ar .add .i64 s r))) (fin:=fun s=>s) (s:=if p.Op=0 then 1 else 0) (by omega) ?_ ?_]
  ·obtain⟨s',h1,q,h2,h3⟩:=DL (R:=Int) (step:=fun(s:Int) q=>(AH N n q).bind fun r=>some (.inl (ar .add .i64 s r)))
    (fun r s=>∃q,q++r=p.cQ∧s=((if p.Op=0 then 1 else 0:Int)+((A2.pres q).countP fun y=>decide (y.Op=0):Nat))) (fun x r s ⟨q,e1,e2⟩=>by
     have hx:x∈p.cQ:=by rw[←e1];simp
     have hxl:=K7 hx
     have hq:(A2.pres q).length≤(A2.pres p.cQ).length:=by rw[←e1,Cm];simp
     have hc:=FQ (p:=fun y:A2=>decide (y.Op=0)) (l:=A2.pres q);have hc2:=FQ (p:=fun y:A2=>decide (y.Op=0)) (l:=x.pre);rw[ih x (by omega) (by omega)];refine⟨_,rfl,q++[x],by grind,?_⟩;have he:(Y2 x:Int)=((x.pre.countP fun y=>decide (y.Op=0):Nat):Int):=rfl;rw[e2,Cm,Er]
     have:A2.pres [x]=x.pre:=by simp[A2.pres]
     rw[this,he,D0 (by split<;>omega) (by split<;>omega)]
     omega) (l:=p.cQ) (s:=if p.Op=0 then 1 else 0) ⟨[],rfl,by simp[A2.pres]⟩
   rw[h1];simp only[A3]
   rw[G4]at h2
   rw[h3,h2,Fx]
   by_cases h:p.Op=0<;>simp[h]
  ·intro s i x hx hi;have e:ar .add .i64 (i:Int) 1=i+1:=D0 (by omega) (by omega);simp only[D6,B0,hi,G6,D2,E1,hx,A3,e];cases AH N n x<;>rfl
  intro s;simp[D6,B0]
def Zl (f:A2→Bool):∀r:List A2,(A2.pres r).any f=r.any fun x=>x.pre.any f
 |[]=>rfl
 |a::r=>by simp only[A2.pres,List.any_append,EI,Zl f r]
def AX7 {N:Nat} (hN:Bgn N):∀(n:Nat) (p:A2),p.pre.length≤n→p.pre.length≤16777216→BW N n p=some (p.pre.any fun y=>decide (y.Op=4)):=by
 intro n
 induction n with
 |zero=>intro p h;have:=JQ p;omega
 | succ n ih=>
  intro p h hb;have hp:=JQ p;have hal:=V5 p;unfold BW;rw[A2.pre_eq p,EI]
  by_cases h4:p.Op=4
  ·rw[A1 (by rw[D7];simp_all)];simp[h4]
  rw[A0 (by rw[D7];grind)]
  rw [Kt (l:=p.cQ) (fun x=>x.pre.any fun y=>decide (y.Op=4)) (by omega) (by omega) (fun i x hx hi=>by
      have hm:=Dd hx;have hxl:=K7 hm;have e:ar .add .i64 (i:Int) 1=i+1:=D0 (by omega) (by omega);simp only[D6,B0,hi,G6,D2,E1,hx,A3,e,ih x (by omega) (by omega)]
      split<;>rfl) (by simp[D6,B0])]
  rw[Zl]
  grind
def Zm {N:Nat} (hN:Bgn N) {b n:Nat} (hb:b≤20000000) (hn:n≤20000000):∃r,GY N (b:Int) (n:Int) 1500=some r∧(r≤1500→r=((b ^ n:Nat):Int)):=by
 unfold GY
 have key:∀(k i M:Nat) (out:Int),i+k=n→k<M→out=((b ^ i:Nat):Int)→out≤30000000000→∃r,loopN
  (fun(s1:Int×Int)=>
   (
    if an (cmp .lss s1.2 (n:Int)) (cmp .leq s1.1 1500)=true then
     some (.inl (ar .mul .i64 s1.1 (b:Int),ar .add .i64 s1.2 1))
    else
     some (.inr s1.1)
    :Option ((Int×Int)⊕(Int))))
  M (out,(i:Int))=some r∧(r≤1500→r=((b ^ n:Nat):Int)):=by
  intro k
  induction k with
  |zero=>
   intro i M out hi hM ho _;obtain⟨M,rfl⟩:∃m,M=m+1:=⟨M-1,by omega⟩;refine⟨out,?_,fun _=>by rw[ho,show i=n by omega]⟩;unfold loopN
   dsimp only
   rw[A0 (by simp only[K5,D6];simp;omega)]
  | succ k ih=>
   intro i M out hi hM ho hs;obtain⟨M,rfl⟩:∃m,M=m+1:=⟨M-1,by omega⟩
   have h0:0≤out:=by rw[ho];omega
   by_cases hle:out≤1500
   ·have hmul:out*(b:Int)≤1500*20000000:=Int.mul_le_mul hle (by omega) (by omega) (by omega);have hmul0:0≤out*(b:Int):=Int.mul_nonneg h0 (by omega);have em:ar .mul .i64 out (b:Int)=out*(b:Int):=AX (by omega) (by omega);have e:ar .add .i64 (i:Int) 1=i+1:=D0 (by omega) (by omega);obtain⟨r,h1,h2⟩:=ih (i+1) M (out*(b:Int)) (by omega) (by omega) (by rw[ho,LA];simp) (by omega);refine⟨r,?_,h2⟩;unfold loopN
    dsimp only
    rw[A1 (by simp only[K5,D6,Bv];simp;omega),em,e,show((i:Int)+1)=((i+1:Nat):Int) by omega];exact h1
   refine⟨out,?_,fun h=>absurd h hle⟩;unfold loopN
   dsimp only
   rw[A0 (by simp only[K5,D6,Bv];simp;omega)]
 obtain⟨r,h1,h2⟩:=key n 0 N 1 (by omega) (by omega) (by simp) (by omega);have h0:((0:Nat):Int)=0:=rfl
 rw[h0]at h1
 grind
def AG0 {N:Nat} (hN:Bgn N) {p:A2} (hb:p.bulk≤16777216) {l:List A8} (hlb:l.length≤16777216):∃b,Jr N p l=some b∧(b=true→l.length≤10∧((Y2 p+1) ^ l.length≤1500∨(BM p∧l.length ^ Y2 p≤1500))):=by
 obtain⟨few,hf⟩:=few9 hN hb;have hpb:=FX p;have hev:Y2 p≤p.pre.length:=FQ;unfold Jr;rw[hf];simp only[A3]
 by_cases h1:Ar.or (nt few) (cmp .gtr (Ar.len l) 10)=true
 ·rw[A1 h1];simp_all
 rw[A0 h1]
 have hl:l.length≤10:=by
  simp only[N8,P7,Bw,B0]at h1
  grind
 rw[Kt (l:=l) (fun x=>cmp .gtr (Ar.len x.Values) 9) (by omega) (by omega) (fun i x hx hi=>by
  have e:ar .add .i64 (i:Int) 1=i+1:=D0 (by omega) (by omega);rw[A1 (T8 hi),E1,hx]
  grind) (by rw[A0 Cv])]
 simp only[A3]
 by_cases h2:(l.any fun x=>cmp .gtr (Ar.len x.Values) 9)=true
 ·rw[A1 h2];simp_all
 rw[A0 h2]
 dsimp only
 rw[AB5 hN N p (by omega) (by omega),AX7 hN N p (by omega) (by omega)];simp only[A3];obtain⟨r1,h3,h4⟩:=Zm hN (b:=Y2 p+1) (n:=l.length) (by omega) (by omega);obtain⟨r2,h5,h6⟩:=Zm hN (b:=l.length) (n:=Y2 p) (by omega) (by omega);rw[D0 (a:=(Y2 p:Int)) (by omega) (by omega),show((Y2 p:Int)+1)=((Y2 p+1:Nat):Int) by omega,B0,h3];simp only[A3]
 by_cases h7:r1≤1500
 ·rw[A1 (show cmp .leq r1 1500=true from J1 h7)]
  grind
 rw[A0 (show¬(cmp .leq r1 1500=true) by rw[Bv];grind)]
 cases hp:p.pre.any fun y=>decide (y.Op=4)with
 |true=>
  rw[A0 (show¬nt true=true by decide)]
  simp_all
 | false=>
  rw[A1 (show nt false=true from rfl),h5];refine⟨decide (r2≤1500),rfl,fun h=>⟨hl,.inr ⟨fun y hy e=>?_,?_⟩⟩⟩
  ·rw[GK]at hp
   simp_all
  grind
def Bf3 {p:A2}{l:List A8}(hp:p.pre.length≤64)(hs:(Y2 p+1) ^ l.length≤1500∨(BM p∧l.length ^ Y2 p≤1500)):Sml l.length p:=by
 rcases hs with h|⟨h1,h2⟩
 ·exact .inl h
 by_cases h3:2≤l.length
 ·simp_all[Sml]
 left
 have hev:Y2 p≤p.pre.length:=FQ
 have:l.length=0∨l.length=1:=by omega
 rcases this with h|h<;>rw[h]<;>simp<;>omega
def AL1 {p:A2}{l:List A8}(hp:p.pre.length≤64)(hl:l.length≤10):mu l p 0≤1000:=by
 unfold mu;have:=S4 hp (show l.length+2≤12 by omega);omega
def out0 (l:List A8):Lk l [] ((0:Nat):Int):=⟨Gd.nil l,fun _ h=>absurd h BC,by omega,by omega⟩
end
end Go.Ab
