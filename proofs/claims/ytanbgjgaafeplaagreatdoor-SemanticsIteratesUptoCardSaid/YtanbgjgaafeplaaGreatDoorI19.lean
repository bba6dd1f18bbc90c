/- GTW0 GTW1 GTW2 GTW3 GTW4 GTW5 GTW6 GTW7 -/
import Derived.Test.YtanbgjgaafeplaaGreatDoorI18
set_option linter.all false
open List (append_nil)
open Nat (add_mul)
open Go.Ab.Ar (ar cmp)
namespace Go.Ab
open Classical
noncomputable section
abbrev BD :=A1
abbrev PR :=I0
def pr (b:BD):PR:=⟨b.cT,b.at_⟩
def IX (b:PR):BD:=⟨b.Var,b.At⟩
theorem ZI (b:PR):pr (IX b)=b:=rfl
theorem TX (b:BD):IX (pr b)=b:=rfl
abbrev G4 (s:List BD):List PR:=s.map pr
theorem P3 (s:List PR):G4 (s.map IX)=s:=by rw[G4,List.map_map];exact(List.map_congr_left fun x _=>ZI x).trans (List.map_id s)
theorem Ah7 {a b:BD}(h:pr a=pr b):a=b:=by have:=congrArg IX h;simpa[TX]using this
theorem Hz {a b:List BD}(h:G4 a=G4 b):a=b:=(List.map_inj_right (fun _ _ h=>Ah7 h)).1 h
def mrg :List PR→List PR→List PR
 |[],b=>b
 |x::a,[]=>x::a
 |x::a,y::b=>if x.At<y.At then x::mrg a (y::b)else y::mrg (x::a) b
 termination_by a b=>a.length+b.length
theorem Cg (b:List PR):mrg [] b=b:=by unfold mrg;rfl
theorem GZ (a:List PR):mrg a []=a:=by cases a<;>(unfold mrg;rfl)
theorem DZ (x y:PR)(a b:List PR):mrg (x::a) (y::b)=if x.At<y.At then x::mrg a (y::b)else y::mrg (x::a) b:=by rw[mrg]
theorem GY :∀(n:Nat) (a b:List PR),a.length+b.length≤n→(mrg a b).Perm (a++b)
 |_,[],b,_=>by rw[Cg];exact .refl _
 |_,x::a,[],_=>by rw[GZ];simp
 |0,x::a,y::b,h=>by simp at h
 |n+1,x::a,y::b,h=>by
  simp only[List.length_cons]at h
  rw[DZ]
  split
  ·exact(GY n a (y::b) (by simp;omega)).cons x
  exact((GY n (x::a) b (by simp;omega)).cons y).trans (List.perm_middle.symm)
theorem X6 {a b:List PR}{x:PR}:x∈mrg a b↔x∈a∨x∈b:=by rw[(GY _ a b (Nat.le_refl _)).mem_iff,List.mem_append]
theorem Pg (a b:List PR):(mrg a b).length=a.length+b.length:=by rw[(GY _ a b (Nat.le_refl _)).length_eq,List.length_append]
def WG (a:List PR):Prop:=a.Pairwise fun x y=>x.At<y.At
def Cz (a b:List PR):Prop:=∀x∈a,∀y∈b,x.At≠y.At
theorem Ll :∀(n:Nat) {a b:List PR},a.length+b.length≤n→WG a→WG b→Cz a b→WG (mrg a b)
 |_,[],b,_,_,hb,_=>by rw[Cg];exact hb
 |_,x::a,[],_,ha,_,_=>by rw[GZ];exact ha
 |0,x::a,y::b,h,_,_,_=>by simp at h
 | n+1,x::a,y::b,h,ha,hb,hd=>by
  simp only[List.length_cons]at h
  unfold WG at ha hb
  rw[List.pairwise_cons]at ha hb
  rw[DZ];have hxy:=hd x (by simp) y (by simp)
  split
  ·rename_i hlt;refine List.pairwise_cons.2 ⟨fun z hz=>?_,Ll n (by simp;omega) ha.2 (List.pairwise_cons.2 hb) fun u hu v hv=>hd u (by simp[hu]) v hv⟩
   rcases X6.1 hz with hz|hz
   ·exact ha.1 z hz
   rcases List.mem_cons.1 hz with rfl|hz
   ·exact hlt
   have:=hb.1 z hz;omega
  rename_i hlt;refine List.pairwise_cons.2 ⟨fun z hz=>?_,Ll n (by simp;omega) (List.pairwise_cons.2 ha) hb.2 fun u hu v hv=>hd u hu v (by simp[hv])⟩
  rcases X6.1 hz with hz|hz
  ·rcases List.mem_cons.1 hz with rfl|hz
   ·omega
   have:=ha.1 z hz;omega
  exact hb.1 z hz
theorem LD {α:Type}(x:α)(l:List α):ES (x::l) (some 1) none none=some l:=by
 unfold ES;rw[if_pos (by simp;omega)];simp
def InS (n:Int)(s:List PR):Prop:=∀x∈s,0≤x.At∧x.At<n
theorem Hv {a b:Int}(h0: -9223372036854775808≤a - b)(h1:a - b<9223372036854775808):ar .sub .i64 a b=a - b:=CV h0 h1
theorem Lo {N:Nat} {a b:List BD} {n:Int} (hn:n≤1000000) (hla:a.length≤1000000) (hlb:b.length≤1000000) (ha:WG (G4 a)) (hb:WG (G4 b)) (hd:Cz (G4 a) (G4 b)) (ia:InS n (G4 a)) (ib:InS n (G4 b)):
 ∃c,K6 N a b=some c∧G4 c=mrg (G4 a) (G4 b):=by
 refine⟨(mrg (G4 a) (G4 b)).map IX,?_,P3 _⟩;unfold K6
 have h1:Sh 0 (ar .add .i64 (Ar.len a) (Ar.len b)) (⟨0,0⟩:BD)=some []:=by
  rw[B5,B5,C5 (by omega) (by omega)];unfold Sh;rw[if_pos (by omega)];rfl
 rw[h1];simp only[Option.bind_some];rw[Y6 (by simp;omega)];simp only[Option.bind_some,List.nil_append];rw[Y6 (by omega)];simp only[Option.bind_some];have hm:=Ll _ (Nat.le_refl _) ha hb hd;have hin:∀x∈mrg (G4 a) (G4 b),0≤x.At∧x.At<n:=fun x hx=>(X6.1 hx).elim (ia x) (ib x)
 have hs:GE (fun y1 y2=>AX N y1 y2) (a++b)=some ((mrg (G4 a) (G4 b)).map IX):=by
  refine Qp ?_ (BP.2 ⟨?_,?_⟩) (by simp;omega)
  ·have:=(GY _ (G4 a) (G4 b) (Nat.le_refl _)).map IX;refine this.trans (List.Perm.of_eq ?_);rw[←List.map_append,List.map_map];exact(List.map_congr_left fun x _=>TX x).trans (List.map_id _)
  ·intro x _
   show(match some (ar .sub .i64 x.at_ x.at_)with|some c=>decide (0≤c)|none=>false)=true
   rw[Hv (by omega) (by omega)];simp
  rw[List.pairwise_map];refine List.Pairwise.imp_of_mem (fun{x y} hx hy hlt=>?_) hm;have:=hin x hx;have:=hin y hy
  constructor
  ·show(match some (ar .sub .i64 x.At y.At)with|some c=>decide (c<0)|none=>false)=true
   rw[Hv (by omega) (by omega)];simp;omega
  show(match some (ar .sub .i64 y.At x.At)with|some c=>decide (0≤c)|none=>false)=true
  rw[Hv (by omega) (by omega)];simp;omega
 rw[hs];rfl
def IF (s:List PR)(i:Int):Bool:=s.any fun x=>decide (x.At=i)
def Ke (a b:List PR):Bool:=a.any fun x=>IF b x.At
theorem Pu {s:List PR}{i:Int}:IF s i=true↔∃x∈s,x.At=i:=by simp[IF]
theorem NU {a b:List PR}:Ke a b=false↔Cz a b:=by
 unfold Ke Cz;rw[List.any_eq_false]
 constructor
 ·intro h x hx y hy e;exact h x hx (Pu.2 ⟨y,hy,e.symm⟩)
 intro h x hx hc;obtain⟨y,hy,e⟩:=Pu.1 hc;exact h x hx y hy e.symm
theorem R9 {α:Type}{l:List α}{i:Int}(h:i<l.length):cmp .lss i (Ar.len l)=true:=FN h
theorem V9 {α:Type}{l:List α}:¬cmp .lss (l.length:Int) (Ar.len l)=true:=Dd (Int.lt_irrefl _)
theorem Jm {α A B:Type} {N:Nat} {l:List α} (hl:l.length<N) (hN:l.length<1000000000) {step:Int→Option (Int ⊕ (A ⊕ B))} (P:α→Bool) (u:A) (r:Int→B)
 (hstep:∀(i:Nat) x,l[i]? =some x→(i:Int)<l.length→step i=some (if P x=true then .inr (.inr (r i))else .inl ((i:Int)+1)))
 (hend:step (l.length:Int)=some (.inr (.inl u))):∃i,loopN step N 0=some (if l.any P=true then .inr (r i)else .inl u)∧0≤i:=by
 have key:∀(k i n:Nat),i+k=l.length→k<n→∃j,loopN step n (i:Int)=some (if(l.drop i).any P=true then .inr (r j)else .inl u)∧0≤j:=by
  intro k
  induction k with
  |zero=>
   intro i n hi hn;obtain⟨n,rfl⟩:∃m,n=m+1:=⟨n - 1,by omega⟩;refine⟨0,?_,by omega⟩;rw[List.drop_eq_nil_of_le (by omega),show(i:Int)=l.length by omega];simp[loopN,hend]
  | succ k ih=>
   intro i n hi hn;obtain⟨n,rfl⟩:∃m,n=m+1:=⟨n - 1,by omega⟩
   have hlt:i<l.length:=by omega
   obtain⟨j,h,hj⟩:=ih (i+1) n (by omega) (by omega);rw[List.drop_eq_getElem_cons hlt,List.any_cons];have hs:=hstep i l[i] (by simp[hlt]) (by omega)
   by_cases hp:P l[i]=true
   ·refine⟨i,?_,by omega⟩
    rw[if_pos hp]at hs
    simp[loopN,hs,hp]
   refine⟨j,?_,hj⟩
   rw[if_neg hp]at hs
   simp only[loopN,hs];rw[show((i:Int)+1)=((i+1:Nat):Int) by omega,h];simp[hp]
 obtain⟨j,h,hj⟩:=key l.length 0 N (by omega) hl;exact⟨j,by simpa using h,hj⟩
theorem Kg {α:Type}{N:Nat}{l:List α}{step:Int→Option (Int ⊕ (Unit ⊕ Unit))}(P:α→Bool)(hl:l.length<N)(hN:l.length<1000000000)
 (hstep:∀(i:Nat) x,l[i]? =some x→(i:Int)<l.length→step i=some (if P x=true then .inr (.inr ())else .inl ((i:Int)+1)))
 (hend:step (l.length:Int)=some (.inr (.inl ()))):loopN step N 0=some (if l.any P=true then .inr ()else .inl ()):=by
 obtain⟨_,h,_⟩:=Jm hl hN P () (fun _=>()) hstep hend;exact h
theorem NY {α S σ R:Type} {L:List α} {N:Nat} {step:S→Option (S ⊕ R)} (mk:σ→Int→S) (g:σ→α→σ) (fin:σ→R) (Inv:Nat→σ→Prop) {s0:σ} (hN:L.length<N) (hl:L.length<1000000000) (h0:Inv 0 s0)
 (hs:∀s (i:Nat) x,L[i]? =some x→(i:Int)<L.length→x∈L→ar .add .i64 (i:Int) 1=i+1→Inv i s→step (mk s i)=some (.inl (mk (g s x) ((i:Int)+1)))∧Inv (i+1) (g s x)) (he:∀s,step (mk s L.length)=some (.inr (fin s))):loopN step N (mk s0 0)=some (fin (L.foldl g s0))∧Inv L.length (L.foldl g s0):=by
 have key:∀(k i N:Nat) (s:σ),i+k=L.length→k<N→Inv i s→loopN step N (mk s (i:Int))=some (fin ((L.drop i).foldl g s))∧Inv L.length ((L.drop i).foldl g s):=by
  intro k
  induction k with
  |zero=>
   intro i N s hi hN ho;obtain⟨N,rfl⟩:∃m,N=m+1:=⟨N - 1,by omega⟩
   have e:i=L.length:=by omega
   subst e;rw[List.drop_length];exact⟨by simp[loopN,he],ho⟩
  |succ k ih=>
   intro i N s hi hN ho;obtain⟨N,rfl⟩:∃m,N=m+1:=⟨N - 1,by omega⟩
   have hlt:i<L.length:=by omega
   obtain⟨h1,h2⟩:=hs s i L[i] (by simp[hlt]) (by omega) (List.getElem_mem hlt) (C5 (by omega) (by omega)) ho;rw[List.drop_eq_getElem_cons hlt];simp only[loopN,h1];exact ih (i+1) N _ (by omega) (by omega) h2
 simpa using key L.length 0 N s0 (by omega) hN h0
theorem Jy {N:Nat} (hN:40000000≤N) {s:List BD} (hl:s.length≤1000000) {f:BD→Option Bool} {P:BD→Bool} (hf:∀x∈s,f x=some (P x)):G3 N s f=some (s.any P):=by
 unfold G3 O0
 obtain⟨j,h,hj⟩:=Jm (N:=N) (l:=s) (by omega) (by omega) (A:=Unit) (B:=Int) (step:=(fun(s1:Int)=>
  (
   if cmp .lss s1 (Ar.len s)=true then
    (B7 s s1).bind fun x3=>
    (f x3).bind fun r4=>
    if r4=true then
     some (.inr (.inr s1))
    else
     some (.inl (ar .add .i64 s1 1))
   else
    some (.inr (.inl ()))
   :Option ((Int) ⊕ (Unit ⊕ Int))))) P () (fun i=>i) (fun i x hx hi=>by
  have e:ar .add .i64 (i:Int) 1=i+1:=C5 (by omega) (by omega);simp only[C1,B5,hi,decide_true,if_true,D9,hx,Option.bind_some,e,hf x (List.mem_of_getElem? hx)]
  split<;>rfl) (by simp[C1,B5])
 rw[h]
 by_cases ha:s.any P=true
 ·rw[if_pos ha,ha];simp only[Option.bind_some,K2,decide_eq_true hj]
 rw[if_neg ha];simp only[Option.bind_some,K2]
 rw[Bool.not_eq_true]at ha
 rw[ha];rfl
theorem Uc {N:Nat}(hN:40000000≤N){s:List BD}(hl:s.length≤1000000)(i:Int):S3 N s i=some (IF (G4 s) i):=by
 unfold S3;rw[Jy hN hl (f:=fun y1=>T5 N y1 i) (P:=fun x=>decide (x.at_=i)) fun x _=>rfl];simp only[Option.bind_some,IF,G4,List.any_map];rfl
theorem Vj {N:Nat}(hN:40000000≤N){a b:List BD}(ha:a.length≤1000000)(hb:b.length≤1000000):Al N a b=some (Ke (G4 a) (G4 b)):=by
 unfold Al;rw[Jy hN ha (P:=fun x=>IF (G4 b) x.at_) fun x _=>by unfold X2;rw[Uc hN hb];rfl];simp only[Option.bind_some,Ke,G4,List.any_map];rfl
def Si (s:List PR):Int:=match s with|[]=>0|x::_=>x.At
def Z5 (s:List PR):Int:=match s.getLast? with|none=>0|some x=>x.At
theorem Ym {α:Type} {l:List α} (h:l≠[]) (hl:l.length≤1000000):B7 l (ar .sub .i64 (Ar.len l) 1)=l.getLast? :=by
 rcases List.eq_nil_or_concat l with rfl|⟨q,y,rfl⟩
 ·exact absurd rfl h
 rw[List.concat_eq_append]at *
 have e1:ar .sub .i64 (Ar.len (q++[y])) 1=(q.length:Int):=by
  have:ar .sub .i64 (Ar.len (q++[y])) 1=Ar.len (q++[y]) - 1:=Hv (by rw[B5];omega) (by rw[B5];omega);rw[this,B5];simp
 rw[e1,D9];simp
theorem DP {s:List PR}(h:s≠[]):∃x,s.getLast? =some x∧x∈s∧Z5 s=x.At:=by
 cases hs:s.getLast? with
 |none=>exact absurd (List.getLast?_eq_none_iff.1 hs) h
 |some x=>exact⟨x,rfl,List.mem_of_getLast? hs,by simp[Z5,hs]⟩
theorem Qt {N:Nat}{s:List BD}(h:s≠[])(hl:s.length≤1000000):K3 N s=some (Z5 (G4 s)):=by
 unfold K3;rw[Ym h hl];unfold Z5;rw[G4,List.getLast?_map]
 cases hs:s.getLast? with
 |none=>exact absurd (List.getLast?_eq_none_iff.1 hs) h
 |some x=>rfl
theorem Jr {α:Type}(x:α)(l:List α):B7 (x::l) 0=some x:=rfl
theorem Nb {s:List PR}(ha:WG s):∀x∈s,x.At≤Z5 s:=by
 intro x hx
 rcases List.eq_nil_or_concat s with rfl|⟨q,y,rfl⟩
 ·cases hx
 rw[List.concat_eq_append]at *
 have e:Z5 (q++[y])=y.At:=by simp[Z5]
 rw[e]
 unfold WG at ha
 rw[List.pairwise_append]at ha
 rcases List.mem_append.1 hx with h|h
 ·have:=ha.2.2 x h y (by simp);omega
 rw[List.mem_singleton.1 h];exact Int.le_refl _
theorem UR :∀{s:List PR} {k:Int} {m:Nat},WG s→(∀x∈s,k≤x.At∧x.At<k+m)→s.length≤m
 |[],_,_,_,_=>Nat.zero_le _
 |x::s,k,m,ha,h=>by
  unfold WG at ha
  rw[List.pairwise_cons]at ha
  have hx:=h x (by simp);obtain⟨m,rfl⟩:∃q,m=q+1:=⟨m - 1,by omega⟩
  have:=UR (s:=s) (k:=x.At+1) (m:=m) ha.2 fun y hy=>by have:=ha.1 y hy;have:=h y (by simp[hy]);omega
  simp;omega
end
end Go.Ab
namespace Go.Ab
open Classical
noncomputable section
def Jc (l:List A6)(s:List PR)(b v:Int):List A6:=s.filterMap fun x=>if x.At<b∧x.Var=v then l[x.At.toNat]? else none
def DE (l:List A6)(s:List PR)(b:Int):Cu:=⟨(List.range 16).map fun(v:Nat)=>Jc l s b (v:Int)⟩
def UV (l:List A6)(s:List PR):Prop:=∀x∈s,(0≤x.Var∧x.Var<16)∧(0≤x.At∧x.At<l.length)
theorem UV.ins {l:List A6}{s:List PR}(h:UV l s):InS l.length s:=fun x hx=>(h x hx).2
theorem QF (l:List A6)(s:List PR)(b v:Int):(Jc l s b v).length≤s.length:=List.length_filterMap_le ..
theorem Oi (l:List A6){s:List PR}(hs:s.length<1000000)(b:Int):LS (DE l s b):=by
 constructor
 ·simp[DE]
 intro r hr
 simp only[DE,List.mem_map]at hr
 obtain⟨v,_,rfl⟩:=hr;have:=QF l s b v;omega
theorem NK (l:List A6)(p:List PR)(x:PR)(b v:Int):Jc l (p++[x]) b v=Jc l p b v++(if x.At<b∧x.Var=v then(l[x.At.toNat]?).toList else[]):=by
 unfold Jc;rw[List.filterMap_append]
 congr 1
 by_cases h:x.At<b∧x.Var=v
 ·simp only[List.filterMap_cons,List.filterMap_nil,if_pos h];cases l[x.At.toNat]? <;>rfl
 simp only[List.filterMap_cons,List.filterMap_nil,if_neg h]
theorem ST {α R:Type} (f:α→PR) (l:List A6) (b:Int) {s:List α} (hs:s.length≤1000000) (hw:UV l (s.map f)):
 H7 (R:=R) (fun rows x=>if cmp .lss (f x).At b=true then(B7 rows (f x).Var).bind fun x9=>(B7 l (f x).At).bind fun x14=>(N6 x9 [x14]).bind fun l15=>(FC rows (f x).Var (fun _=>l15)).bind fun l13=>some (.inl l13)else some (.inl rows)) s (List.replicate 16 [])=
  some (.inl ((List.range 16).map fun(v:Nat)=>Jc l (s.map f) b (v:Int))):=by
 obtain⟨s',h1,p,h2,h3⟩:=Z0 (R:=R) (step:=fun rows x=>if cmp .lss (f x).At b=true then(B7 rows (f x).Var).bind fun x9=>(B7 l (f x).At).bind fun x14=>(N6 x9 [x14]).bind fun l15=>(FC rows (f x).Var (fun _=>l15)).bind fun l13=>some (.inl l13)else some (.inl rows))
  (fun r rows=>∃p,p++r=s∧rows=(List.range 16).map fun(v:Nat)=>Jc l (p.map f) b (v:Int)) (fun x r rows ⟨p,e1,e2⟩=>by
   subst e2
   have hx:x∈s:=by rw[←e1];simp
   obtain⟨⟨v0,v1⟩,a0,a1⟩:=hw (f x) (List.mem_map.2 ⟨x,hx,rfl⟩)
   have hpl:p.length≤1000000:=by have:=congrArg List.length e1;simp at this;omega
   by_cases hb:(f x).At<b
   ·rw[if_pos (by rw[C1];exact decide_eq_true hb)]
    generalize hv:(f x).Var=vv at *
    generalize ha:(f x).At=aa at *
    obtain⟨v,rfl⟩:=Int.eq_ofNat_of_zero_le v0;obtain⟨a,rfl⟩:=Int.eq_ofNat_of_zero_le a0
    have hva:v<16:=by omega
    have haa:a<l.length:=by omega
    have e1':B7 ((List.range 16).map fun(v:Nat)=>Jc l (p.map f) b (v:Int)) (v:Int)=some (Jc l (p.map f) b v):=by
     rw[D9];simp[hva]
    have e2':B7 l (a:Int)=some l[a]:=by rw[D9];simp[haa]
    have hpl':=QF l (p.map f) b v;simp only[e1',e2',Option.bind_some];rw[Y6 (by simp at hpl' ⊢;omega)];simp only[Option.bind_some];refine⟨_,by unfold FC;rw[e1'];rfl,p++[x],by simpa using e1,?_⟩;apply List.ext_getElem?;intro j;rw[List.getElem?_set]
    by_cases hj:j<16
    ·simp only[List.getElem?_map,List.getElem?_range hj,List.map_append,List.map_cons,List.map_nil,NK,hv,ha,Int.toNat_natCast,List.length_map,List.length_range,Option.map_some]
     by_cases hjv:v=j
     ·subst hjv;simp[hb,hj,haa]
     have:¬((v:Int)=(j:Int)):=by omega
     simp[hjv,this]
    have:¬(v=j):=by omega
    simp[hj,this]
   rw[if_neg (by rw[C1];simpa using hb)];refine⟨_,rfl,p++[x],by simpa using e1,?_⟩;apply List.map_congr_left;intro v _
   rw[List.map_append,List.map_cons,List.map_nil,NK,if_neg (by omega),append_nil]) (l:=s) (s:=List.replicate 16 []) ⟨[],rfl,by simp[Jc];rfl⟩
 rw[h1]
 rw[append_nil]at h2
 rw[h3,h2]
theorem Ud {N:Nat} (hN:40000000≤N) {l:List A6} {s:List BD} (hs:s.length≤1000000) (hw:UV l (G4 s)) (f:Bool) (b:Int):P2 N ⟨l,f⟩ s b=some (DE l (G4 s) b):=by
 unfold P2;have h1:Sh 16 16 ([]:List A6)=some (List.replicate 16 []):=rfl;rw[h1];simp only[Option.bind_some];rw[I7 s (by omega) (mk:=fun(rows:List (List A6)) i=>(i,rows)) (body:=fun rows x=>if cmp .lss (pr x).At b=true then(B7 rows (pr x).Var).bind fun x9=>(B7 l (pr x).At).bind fun x14=>(N6 x9 [x14]).bind fun l15=>(FC rows (pr x).Var (fun _=>l15)).bind fun l13=>some (.inl l13)else some (.inl rows)) (fin:=fun s=>s) (s:=List.replicate 16 []) (by omega) ?_ ?_]
 ·rw[ST pr l b hs hw];rfl
 ·intro rows i x hx hi;have e:ar .add .i64 (i:Int) 1=i+1:=C5 (by omega) (by omega);simp only[C1,B5,hi,decide_true,if_true,D9,hx,Option.bind_some,e]
  show(if decide (x.at_<b)=true then _ else _)=Option.bind (if decide (x.at_<b)=true then _ else _) _
  by_cases hb:x.at_<b
  ·rw [if_pos (decide_eq_true hb),if_pos (decide_eq_true hb)]
   show((B7 rows x.cT).bind _)=((B7 rows x.cT).bind _).bind _
   cases B7 rows x.cT with
   |none=>rfl
   | some r=>
    simp only[Option.bind_some]
    show((B7 l x.at_).bind _)=((B7 l x.at_).bind _).bind _
    cases B7 l x.at_ with
    |none=>rfl
    | some y=>
     simp only[Option.bind_some]
     cases N6 r [y]with
     |none=>rfl
     |some q=>
      simp only[Option.bind_some]
      show((FC rows x.cT _).bind _)=((FC rows x.cT _).bind _).bind _
      cases FC rows x.cT fun _=>q<;>rfl
  rw[if_neg (by simpa using hb),if_neg (by simpa using hb)];rfl
 intro s;simp[C1,B5]
theorem FZ {l:List A6}{i:Nat}(h:i<l.length):B7 l (i:Int)=some l[i]:=by rw[D9];simp[h]
theorem Jb {N:Nat}(hN:40000000≤N){l:List A6}{s:List BD}(hs:s.length<1000000)(hw:UV l (G4 s))(f:Bool){c:A3}(hc:c.bulk≤16777216)(own:Int){i:Nat}(hi:i<l.length):
 G6 N ⟨l,f⟩ c s own i=some (T9 (DE l (G4 s) i) own l[i] c):=by
 unfold G6;rw[Ud hN (by omega) hw];simp only[Option.bind_some];rw[FZ hi];simp only[Option.bind_some];rw[Qg hN (Oi l (by simpa using hs) _) own _ hc];rfl
def Zd {β:Type}(T:Nat→Bool)(g:Nat→β):Nat→Nat→List β
 |0,_=>[]
 |k+1,i=>if T i=true then g i::Zd T g k (i+1)else Zd T g k (i+1)
theorem Qf {β:Type}(T:Nat→Bool)(g:Nat→β)(k i:Nat):Zd T g (k+1) i=if T i=true then g i::Zd T g k (i+1)else Zd T g k (i+1):=rfl
theorem Ux {β:Type} {T:Nat→Bool} {g:Nat→β} {x:β}:∀{k i:Nat},x∈Zd T g k i↔∃j,i≤j∧j<i+k∧T j=true∧x=g j
 |0,i=>by simp[Zd];intro j a b;omega
 | k+1,i=>by
  rw[Qf];have ih:=Ux (T:=T) (g:=g) (x:=x) (k:=k) (i:=i+1)
  constructor
  ·intro h
   by_cases ht:T i=true
   ·rw[if_pos ht]at h
    rcases List.mem_cons.1 h with h|h
    ·exact⟨i,by omega,by omega,ht,h⟩
    obtain⟨j,a,b,c⟩:=ih.1 h;exact⟨j,by omega,by omega,c⟩
   rw[if_neg ht]at h
   obtain⟨j,a,b,c⟩:=ih.1 h;exact⟨j,by omega,by omega,c⟩
  rintro⟨j,a,b,c,d⟩
  by_cases hij:j=i
  ·subst hij;rw[if_pos c,d];simp
  have:=ih.2 ⟨j,by omega,by omega,c,d⟩
  split
  ·exact List.mem_cons_of_mem _ this
  exact this
theorem Rq {β A:Type} {n:Nat} {step:Int→Option (List β×(Int ⊕ A))} {T:Nat→Bool} {g:Nat→β} {u:A} (hs:∀i,i<n→step (i:Int)=some (if T i=true then[g i]else[],.inl ((i:Int)+1))) (he:step (n:Int)=some ([],.inr u)):
 ∀(k i N:Nat),i+k=n→k<N→W0 step N (i:Int)=some (Zd T g k i,u)
 |0,i,N,h,hN=>by
  obtain⟨N,rfl⟩:∃m,N=m+1:=⟨N - 1,by omega⟩;rw[show(i:Int)=n by omega];simp[W0,he,Zd]
 |k+1,i,N,h,hN=>by
  obtain⟨N,rfl⟩:∃m,N=m+1:=⟨N - 1,by omega⟩;have ih:=Rq hs he k (i+1) N (by omega) (by omega);simp only[W0,hs i (by omega)];rw[show((i:Int)+1)=((i+1:Nat):Int) by omega,ih];rw[Qf]
  by_cases ht:T i=true<;>simp[ht]
end
end Go.Ab
namespace Go.Ab
open Classical
noncomputable section
theorem Mw {A:Type} {n:Nat} {step:Int→Option (Int ⊕ (A ⊕ Unit))} {P:Nat→Bool} {u:A} (m:Nat) (hs:∀i,m≤i→i<n→step (i:Int)=some (if P i=true then .inr (.inr ())else .inl ((i:Int)+1))) (he:∀i:Nat,n≤i→step (i:Int)=some (.inr (.inl u))):
 ∀(k i N:Nat),n≤i+k→m≤i→k<N→loopN step N (i:Int)=some (if(List.range' i (n - i)).any P=true then .inr ()else .inl u)
 |0,i,N,h,_,hN=>by
  obtain⟨N,rfl⟩:∃m,N=m+1:=⟨N - 1,by omega⟩;rw[show n - i=0 by omega];simp[loopN,he i (by omega)]
 | k+1,i,N,h,hm,hN=>by
  obtain⟨N,rfl⟩:∃m,N=m+1:=⟨N - 1,by omega⟩
  by_cases hi:i<n
  ·have ih:=Mw m hs he k (i+1) N (by omega) (by omega) (by omega);simp only[loopN,hs i hm hi];rw[show n - i=(n - (i+1))+1 by omega,List.range'_succ,List.any_cons]
   by_cases hp:P i=true
   ·simp[hp]
   rw[if_neg hp]
   dsimp only
   rw[show((i:Int)+1)=((i+1:Nat):Int) by omega,ih];simp[hp]
  rw[show n - i=0 by omega];simp[loopN,he i (by omega)]
def Kz (l:List A6)(i:Int):Int:=match l[i.toNat]? with|some e=>e.Time|none=>0
def Gm (l:List A6)(p:A0)(b s:List PR)(i:Nat):Bool:=match l[i]? with|some e=>decide (e.Typ=p.Typ)&&(!IF s i)&&T9 (DE l (mrg b s) i) p.Var e p.cP|none=>false
def IK (l:List A6)(p:A0)(b s:List PR):Bool:= !((List.range l.length).any fun i=>decide (Si s<(i:Int))&&decide ((i:Int)<Z5 s)&&Gm l p b s i)
def keepsA (l:List A6)(p:A0)(b s:List PR):Bool:=
 if p.Op=6 then decide (ar .sub .i64 (Kz l (Z5 s)) (Kz l (Si s))≤p.Span)else if p.Op=7 then T9 (DE l (mrg b s) l.length) (-1) ⟨0,0,0,0,[]⟩ p.cP else IK l p b s
structure Gd (l:List A6) (s:List PR):Prop where
 wf:UV l s
 asc:WG s
theorem Gd.len {l:List A6}{s:List PR}(h:Gd l s):s.length≤l.length:=UR (k:=0) h.asc fun x hx=>by have:=(h.wf x hx).2;omega
theorem Gd.nil (l:List A6):Gd l []:=⟨fun _ h=>absurd h List.not_mem_nil,List.Pairwise.nil⟩
theorem Gd.mrg {l:List A6}{a b:List PR}(ha:Gd l a)(hb:Gd l b)(h:Cz a b):Gd l (mrg a b):=⟨fun x hx=>(X6.1 hx).elim (ha.wf x) (hb.wf x),Ll _ (Nat.le_refl _) ha.asc hb.asc h⟩
theorem Gd.lst {l:List A6}{s:List PR}(h:Gd l s)(hn:s≠[]):0≤Z5 s∧Z5 s<l.length:=by
 obtain⟨x,_,hx,e⟩:=DP hn;rw[e];exact(h.wf x hx).2
theorem Gd.hd {l:List A6} {s:List PR} (h:Gd l s) (hn:s≠[]):0≤Si s∧Si s<l.length∧Si s≤Z5 s∧IF s (Si s)=true:=by
 cases s with
 |nil=>exact absurd rfl hn
 |cons x s=>
  have:=(h.wf x (by simp)).2;exact⟨this.1,this.2,Nb h.asc x (by simp),Pu.2 ⟨x,by simp,rfl⟩⟩
theorem TY {l:List A6}{i:Int}(h0:0≤i)(h1:i<l.length):∃e,B7 l i=some e∧e.Time=Kz l i:=by
 obtain⟨i,rfl⟩:=Int.eq_ofNat_of_zero_le h0
 have hi:i<l.length:=by omega
 exact⟨l[i],FZ hi,by simp[Kz,hi]⟩
theorem Aa9 {s:List BD}(h:s≠[]):∃x,B7 s 0=some x∧x.at_=Si (G4 s):=by
 cases s with
 |nil=>exact absurd rfl h
 |cons x s=>exact⟨x,rfl,rfl⟩
theorem Ah6 {s:List BD}(h:s≠[]):G4 s≠[]:=fun e=>h (List.map_eq_nil_iff.1 e)
theorem Wa {l:List A6} {p:A0} {b s:List PR} {a n:Nat} (h1:(a:Int)≤Si s+1) (h2:Si s≤(a:Int)) (hn:(n:Int)=Z5 s) (hh:IF s (Si s)=true) (hl:Z5 s<l.length):
 (List.range' a (n - a)).any (Gm l p b s)= !IK l p b s:=by
 unfold IK;rw[Bool.not_not,Bool.eq_iff_iff,List.any_eq_true,List.any_eq_true]
 constructor
 ·rintro⟨i,hi,hb⟩
  rw[List.mem_range'_1]at hi
  refine⟨i,List.mem_range.2 (by omega),?_⟩
  have hne:Si s≠(i:Int):=by
   intro e
   rw[e]at hh
   unfold Gm at hb
   split at hb
   ·rw[hh]at hb;simp at hb
   cases hb
  simp only[Bool.and_eq_true,decide_eq_true_eq];exact⟨⟨by omega,by omega⟩,hb⟩
 rintro⟨i,hi,hb⟩
 simp only[Bool.and_eq_true,decide_eq_true_eq]at hb
 exact⟨i,List.mem_range'_1.2 (by omega),hb.2⟩
theorem Vm {N:Nat} (hN:40000000≤N) {l:List A6} (hl:l.length≤10) {p:A0} (hc:p.cP.bulk≤16777216) (hop:5≤p.Op∧p.Op≤7) {b s:List BD} (gb:Gd l (G4 b)) (gs:Gd l (G4 s)) (hn:s≠[]) (hd:Cz (G4 b) (G4 s)) (f:Bool):
 Q0 N ⟨l,f⟩ p b s=some (keepsA l p (G4 b) (G4 s)):=by
 have lb:=gb.len;have ls:=gs.len
 rw[List.length_map]at lb ls
 have gm:=gb.mrg gs hd;have lm:=gm.len;have hnp:=Ah6 hn;have hlst:=gs.lst hnp;obtain⟨h0,h1,h2,hh⟩:=gs.hd hnp;obtain⟨x0,hx0,e0⟩:=Aa9 hn;obtain⟨c,hj,ec⟩:=Lo (N:=N) (n:=l.length) (by omega) (by omega) (by omega) gb.asc gs.asc hd gb.wf.ins gs.wf.ins
 have lc:c.length≤10:=by have:=congrArg List.length ec;rw[List.length_map]at this;omega
 have wc:UV l (G4 c):=by rw[ec];exact gm.wf
 unfold Q0 keepsA;rw[hx0,Qt hn (by omega),hj];simp only[Option.bind_some,Ud hN (show c.length≤1000000 by omega) wc,Qg hN (Oi l (show(G4 c).length<1000000 by rw[List.length_map];omega) _) _ _ hc]
 by_cases h6:p.Op=6
 ·rw[if_pos (by rw[C4];exact decide_eq_true h6),if_pos h6];obtain⟨y1,hy1,t1⟩:=TY (l:=l) (i:=Z5 (G4 s)) (by omega) (by omega);obtain⟨y0,hy0,t0⟩:=TY (l:=l) (i:=x0.at_) (by omega) (by omega);rw[hy1,hy0];simp only[Option.bind_some,DF,t1,t0,e0]
 rw[if_neg h6,if_neg (by rw[C4];simpa using h6)]
 by_cases h7:p.Op=7
 ·rw[if_pos (by rw[C4];exact decide_eq_true h7),if_pos h7,ec];rfl
 rw[if_neg h7,if_neg (by rw[C4];simpa using h7)];obtain⟨n,hnn⟩:=Int.eq_ofNat_of_zero_le hlst.1;obtain⟨a,ha⟩:=Int.eq_ofNat_of_zero_le h0;rw[e0,ha,C5 (a:=((a:Nat):Int)) (by omega) (by omega),show((a:Int)+1)=((a+1:Nat):Int) by omega];rw[Mw (A:=Unit) (n:=n) (P:=Gm l p (G4 b) (G4 s)) (u:=()) 0 ?_ ?_ n (a+1) N (by omega) (by omega) (by omega),Wa (by omega) (by omega) (by omega) hh hlst.2]
 ·cases IK l p (G4 b) (G4 s)<;>rfl
 ·intro i _ hi
  have hil:i<l.length:=by omega
  have e:ar .add .i64 (i:Int) 1=i+1:=C5 (by omega) (by omega);rw[if_pos (FN (by omega)),Uc hN (by omega),FZ hil,Jb hN (by omega) wc _ hc _ hil,ec];simp only[Option.bind_some,U3,C4,e];unfold Gm;simp only[List.getElem?_eq_getElem hil];cases IF (G4 s) (i:Int)<;>by_cases ht:l[i].Typ=p.Typ<;>cases T9 (DE l (mrg (G4 b) (G4 s)) (i:Int)) p.Var l[i] p.cP<;>simp[ht]
 intro i hi;rw[if_neg (Dd (by omega))]
end
end Go.Ab
namespace Go.Ab
open Classical
noncomputable section
def testE (l:List A6)(p:A0)(b:List PR)(i:Nat):Bool:=match l[i]? with|some e=>decide (e.Typ=p.Typ)&&T9 (DE l b i) p.Var e p.cP|none=>false
theorem VA {N:Nat} (hN:40000000≤N) {l:List A6} (hl:l.length≤10) {p:A0} (hc:p.cP.bulk≤16777216) {b:List BD} (gb:Gd l (G4 b)) (f:Bool) {i:Nat} (hi:i≤l.length):
 J9 N ⟨l,f⟩ p b (i:Int)=some (Zd (testE l p (G4 b)) (fun j=>[(⟨p.Var,(j:Int)⟩:BD)]) (l.length - i) i):=by
 have lb:=gb.len
 rw[List.length_map]at lb
 unfold J9 S4
 have h:=Rq (β:=List BD) (A:=Unit) (n:=l.length) (T:=testE l p (G4 b)) (g:=fun j=>[(⟨p.Var,(j:Int)⟩:BD)]) (u:=()) (step:=(fun(s1:Int)=>
  (
   if cmp .lss s1 (Ar.len (⟨l,f⟩:B0).cX)=true then
    (B7 (⟨l,f⟩:B0).cX s1).bind fun x7=>
    if cmp .eql x7.Typ p.Typ=true then
     (G6 N ⟨l,f⟩ p.cP b p.Var s1).bind fun r8=>
     if r8=true then
      N5 (some ([[(⟨p.Var,s1⟩:A1)]],())) fun _=>
      some ([],.inl (ar .add .i64 s1 1))
     else
      some ([],.inl (ar .add .i64 s1 1))
    else
     some ([],.inl (ar .add .i64 s1 1))
   else
    some ([],.inr ())
   :Option (List (List A1)×((Int) ⊕ (Unit)))))) ?_ ?_ (l.length - i) i N (by omega) (by omega)
 ·rw[h];simp[N5]
 ·intro j hj;have e:ar .add .i64 (j:Int) 1=j+1:=C5 (by omega) (by omega);rw[if_pos (FN (by rw[B5];show(j:Int)<(l.length:Int);omega))]
  show((B7 l (j:Int)).bind _)=_
  rw[FZ hj,Jb hN (by omega) gb.wf _ hc _ hj,e];simp only[Option.bind_some,C4,N5];unfold testE;simp only[List.getElem?_eq_getElem hj]
  by_cases ht:l[j].Typ=p.Typ<;>cases T9 (DE l (G4 b) (j:Int)) p.Var l[j] p.cP<;>simp[ht]
 rw[if_neg V9]
def SA (x:PR):List UInt8:=V7 x.Var.toNat++64::(V7 x.At.toNat++[32])
def ID (s:List PR):List UInt8:=s.flatMap SA
def FW (l:List UInt8):List Int:=l.map fun b=>(b.toNat:Int)
theorem Ag4 {n:Int}(h0:0≤n)(h1:n<1000):Ar.wr .i64 n=n:=CV (by omega) (by omega)
theorem Ag3 {n:Int} (h0:0≤n) (h1:n<1000):Ar.wr .u64 n=n:=by
 have e:IntKind.wrap .u64 n=n % 18446744073709551616:=by
  unfold IntKind.wrap;simp[IntKind.bits,IntKind.signed]
 exact e.trans (by omega)
theorem JI {N:Nat} {d:List Int} (hd:d.length≤1000000) {i:Int} (h0:0≤i) (h1:i<100):G1 N d i 10=some (d++FW (V7 i.toNat)):=by
 unfold G1 Y4 V6 EQ;rw[if_neg (Dd (by omega)),Ag3 h0 (by omega),if_pos (show cmp .eql 10 10=true by rfl),if_pos (FN h1),Ag4 h0 (by omega)]
 have hs:LJ i=some ⟨(V7 i.toNat).toArray⟩:=by
  unfold LJ;rw[if_pos (by simp;omega)]
 rw[hs];simp only[Option.bind_some]
 have hl:(V7 i.toNat).length≤2:=by unfold V7;split<;>simp
 rw[Y6 (by simp[Kp];omega)];rfl
theorem Zl (x:PR):(SA x).length≤6:=by
 have h:∀i,(V7 i).length≤2:=fun i=>by unfold V7;split<;>simp
 have:=h x.Var.toNat;have:=h x.At.toNat;simp[SA];omega
theorem UE :∀s:List PR,(ID s).length≤6*s.length
 |[]=>by simp[ID]
 |x::s=>by
  have:=UE s;have:=Zl x
  simp only[ID,List.flatMap_cons,List.length_append,List.length_cons]at *
  omega
theorem Zq {N:Nat} (hN:40000000≤N) {l:List A6} (hl:l.length≤10) {s:List BD} (hs:s.length≤1000) (hw:UV l (G4 s)):M1 N s=Ua (FW (ID (G4 s))):=by
 unfold M1;rw[I7 s (by omega) (mk:=fun(out:List Int) i=>(i,out)) (body:=fun out x=>(G1 N out x.cT 10).bind fun l6=>(N6 l6 [64]).bind fun l90=>(G1 N l90 x.at_ 10).bind fun l209=>(N6 l209 [32]).bind fun l290=>some (.inl l290)) (fin:=fun s=>s) (s:=[]) (by omega) ?_ ?_]
 ·obtain⟨s',h1,p,h2,h3⟩:=Z0 (R:=List Int) (step:=fun out x=>(G1 N out x.cT 10).bind fun l6=>(N6 l6 [64]).bind fun l90=>(G1 N l90 x.at_ 10).bind fun l209=>(N6 l209 [32]).bind fun l290=>some (.inl l290))
   (fun r out=>∃p,p++r=s∧out=FW (ID (G4 p))) (fun x r out ⟨p,e1,e2⟩=>by
    subst e2
    have hx:x∈s:=by rw[←e1];simp
    obtain⟨⟨v0,v1⟩,a0,a1⟩:=hw (pr x) (List.mem_map.2 ⟨x,hx,rfl⟩);have hv0:0≤x.cT:=v0;have hv1:x.cT<16:=v1;have ha0:0≤x.at_:=a0;have ha1:x.at_<l.length:=a1
    have hp:p.length≤1000:=by have:=congrArg List.length e1;simp at this;omega
    have hk:(FW (ID (G4 p))).length≤6000:=by
     have:=UE (G4 p)
     rw[List.length_map]at this
     simp[FW];omega
    have hsm:∀i,(FW (V7 i)).length≤2:=fun i=>by simp only[FW,List.length_map];unfold V7;split<;>simp
    have:=hsm x.cT.toNat;have:=hsm x.at_.toNat;refine⟨FW (ID (G4 p))++FW (V7 x.cT.toNat)++[64]++FW (V7 x.at_.toNat)++[32],?_,p++[x],by simpa using e1,?_⟩
    ·rw[JI (by omega) hv0 (by omega)];simp only[Option.bind_some];rw[Y6 (by simp only[List.length_append,List.length_cons,List.length_nil];omega)];simp only[Option.bind_some];rw[JI (by simp only[List.length_append,List.length_cons,List.length_nil];omega) ha0 (by omega)];simp only[Option.bind_some];rw[Y6 (by simp only[List.length_append,List.length_cons,List.length_nil];omega)];rfl
    simp[FW,ID,SA,G4,pr]) (l:=s) (s:=[]) ⟨[],rfl,rfl⟩
  rw[h1];simp only[Option.bind_some]
  rw[append_nil]at h2
  rw[h3,h2];cases Ua (FW (ID (G4 s)))<;>rfl
 ·intro out i x hx hi;have e:ar .add .i64 (i:Int) 1=i+1:=C5 (by omega) (by omega);simp only[C1,B5,hi,decide_true,if_true,D9,hx,Option.bind_some,e]
  cases G1 N out x.cT 10 with
  |none=>rfl
  | some a=>
   simp only[Option.bind_some]
   cases N6 a [64]with
   |none=>rfl
   | some b=>
    simp only[Option.bind_some]
    cases G1 N b x.at_ 10 with
    |none=>rfl
    |some c=>
     simp only[Option.bind_some];cases N6 c [32]<;>rfl
 intro s;simp[C1,B5]
theorem Mv {m:UInt8}:∀{a b r q:List UInt8},m∉a→m∉b→a++m::r=b++m::q→a=b∧r=q
 |[],[],r,q,_,_,h=>⟨rfl,by simpa using h⟩
 |[],y::b,r,q,_,hb,h=>by simp at h;exact absurd h.1 (by intro e;exact hb (by simp[e]))
 |x::a,[],r,q,ha,_,h=>by simp at h;exact absurd h.1 (by intro e;exact ha (by simp[←e]))
 |x::a,y::b,r,q,ha,hb,h=>by
  simp only[List.cons_append,List.cons.injEq]at h
  have:=Mv (fun e=>ha (by simp[e])) (fun e=>hb (by simp[e])) h.2;exact⟨by rw[h.1,this.1],this.2⟩
theorem Ey {i:Nat}(h:i<100):(64:UInt8)∉V7 i∧(32:UInt8)∉V7 i:=by
 have:∀i<100,(64:UInt8)∉V7 i∧(32:UInt8)∉V7 i:=by decide
 exact this i h
theorem ND {i j:Nat}(hi:i<16)(hj:j<16)(h:V7 i=V7 j):i=j:=by
 have:∀i<16,∀j<16,V7 i=V7 j→i=j:=by decide
 exact this i hi j hj h
theorem LP {l:List A6} (hl:l.length≤10):∀{a b:List PR},UV l a→UV l b→ID a=ID b→a=b
 |[],[],_,_,_=>rfl
 |[],y::b,_,_,h=>by simp[ID,SA]at h
 |x::a,[],_,_,h=>by simp[ID,SA]at h
 | x::a,y::b,ha,hb,h=>by
  obtain⟨⟨v0,v1⟩,a0,a1⟩:=ha x (by simp);obtain⟨⟨w0,w1⟩,b0,b1⟩:=hb y (by simp);obtain⟨m1,m2⟩:=Ey (i:=x.Var.toNat) (by omega);obtain⟨m3,m4⟩:=Ey (i:=x.At.toNat) (by omega);obtain⟨n1,n2⟩:=Ey (i:=y.Var.toNat) (by omega);obtain⟨n3,n4⟩:=Ey (i:=y.At.toNat) (by omega)
  simp only[ID,List.flatMap_cons,SA,List.append_assoc,List.cons_append,List.nil_append]at h
  obtain⟨e1,e2⟩:=Mv m1 n1 h;obtain⟨e3,e4⟩:=Mv m4 n4 e2;have i1:=ND (by omega) (by omega) e1;have i2:=ND (by omega) (by omega) e3
  have hxy:x=y:=by
   cases x;cases y
   simp only[I0.mk.injEq]at *
   omega
  rw[hxy,LP hl (fun z hz=>ha z (by simp[hz])) (fun z hz=>hb z (by simp[hz])) e4]
end
end Go.Ab
namespace Go.Ab
open Classical
noncomputable section
structure WfN (y:A0):Prop where
 op:0≤y.Op∧y.Op≤7
 var:y.Op=0→0≤y.Var∧y.Var<16
 a0:y.Op=0→y.cO=[]
 a1:1≤y.Op→y.Op≤3→y.cO≠[]
 a2:4≤y.Op→∃q,y.cO=[q]
 cond:y.cP.bulk≤16777216
def Kt (p:A0):Prop:=∀y∈p.pre,WfN y
theorem Nz {N:Nat} (hN:40000000≤N) {x:A0} (hb:x.bulk≤16777216) (h:Gt N x=0):Kt x∧x.pre.length≤64:=by
 unfold Gt at h
 by_cases hr:I4 N x=0
 ·rw [if_neg (by simpa using hr)]at h
  by_cases ha:x.pre.any (fun y=>cmp .geq y.Op 8)=true
  ·rw[if_pos ha]at h;cases h
  obtain⟨hp,hd,hg⟩:=Fd hr;refine⟨fun y hy=>?_,hp⟩;have h1:=EE x y hy;have h2:=Dh y
  have hyb:y.bulk≤16777216:=by omega
  have hyl:y.cO.length≤64:=by omega
  obtain⟨ho,s,ng,hs,hc⟩:=Ml hN hyb hyl (hg y hy)
  have h7:y.Op≤7:=by
   rw[Bool.not_eq_true,List.any_eq_false]at ha
   have:=ha y hy
   rw[K2]at this
   simp at this;omega
  have hz:=Xq hN N y.cP (⟨0,[],0,0,0,(⟨0,0,⟨#[]⟩⟩:A5)⟩:A3) (by omega) (by omega);have h1:=El hN (by omega) ho.1 ho.2 hs hz
  rw[(CE hN hyb hyl).2,hg y hy]at h1
  have h1:=Option.some.inj h1
  by_cases har:s.cU≤y.cO.length∧(y.cO.length:Int)≤s.most
  ·rw[if_pos har]at h1
   unfold ET at h1
   by_cases e1:BC s.cS y.Typ 15=true
   ·rw[if_pos e1]at h1;cases h1
   rw[if_neg e1]at h1
   by_cases e2:BC s.cS y.Var 15=true
   ·rw[if_pos e2]at h1;cases h1
   have ht:=hs.tab
   have hop:y.Op=0∨y.Op=1∨y.Op=2∨y.Op=3∨y.Op=4∨y.Op=5∨y.Op=6∨y.Op=7:=by omega
   refine⟨⟨ho.1,h7⟩,?_,?_,?_,?_,by omega⟩
   ·intro h0
    rw[h0]at ht
    have hs:s.cS=true:=by cases ht;rfl
    rw[hs]at e2
    unfold BC at e2
    simp at e2
    omega
   ·intro h0
    rw[h0]at ht
    have hm:s.most=0:=by cases ht;rfl
    exact List.eq_nil_of_length_eq_zero (by omega)
   ·intro h0 h3
    have hm:1≤s.cU:=by
     have:y.Op=1∨y.Op=2∨y.Op=3:=by omega
     rcases this with h|h|h<;>rw[h]at ht<;>cases ht<;>decide
    intro e
    rw[e]at har
    simp at har;omega
   intro h0
   have hm:s.cU=1∧s.most=1:=by
    have:y.Op=4∨y.Op=5∨y.Op=6∨y.Op=7:=by omega
    rcases this with h|h|h|h<;>rw[h]at ht<;>cases ht<;>decide
   have hl:y.cO.length=1:=by omega
   match he:y.cO,hl with
   |[q],_=>exact⟨q,rfl⟩
  rw[if_neg har]at h1;cases h1
 rw[if_pos (show I4 N x≠0 from hr)]at h;exact absurd h hr
theorem O8 {y : A0}:∀{l:List A0},y∈A0.pres l↔∃a∈l,y∈a.pre
 |[]=>by simp[A0.pres]
 | a :: l => by simp only[A0.pres,List.mem_append,O8 (l:=l),List.mem_cons];constructor
                ·rintro(h|⟨b,h1,h2⟩)
                 ·exact⟨a,.inl rfl,h⟩
                 exact⟨b,.inr h1,h2⟩
                rintro⟨b,rfl|h1,h2⟩
                ·exact .inl h2
                exact .inr ⟨b,h1,h2⟩
theorem Kt.self {p:A0}(h:Kt p):WfN p:=h p (Am p)
theorem Kt.arg {p q:A0}(h:Kt p)(hq:q∈p.cO):Kt q:=fun y hy=>h y (by rw[A0.pre_eq];exact List.mem_cons_of_mem _ (O8.2 ⟨q,hq,hy⟩))
theorem Kt.sub {p:A0}{r:List A0}(h:Kt p)(h1:1≤p.Op)(h3:p.Op≤3)(hr:∀q∈r,q∈p.cO)(hn:r≠[]):Kt {p with cO:=r}:=by
 intro y hy
 rw[A0.pre_eq]at hy
 rcases List.mem_cons.1 hy with rfl|hy
 ·exact⟨h.self.op,fun e=>by have:p.Op=0:=e;omega,fun e=>by have:p.Op=0:=e;omega,fun _ _=>hn,fun e=>by have:4≤p.Op:=e;omega,h.self.cond⟩
 obtain⟨q,hq,hy⟩:=O8.1 hy;exact h.arg (hr q hq) y hy
inductive Sm (l:List A6):A0→List PR→Int→List PR→Prop
 |ev {p:A0} {b:List PR} {f:Int} {j:Nat}:p.Op=0→f≤j→j<l.length→testE l p b j=true→Sm l p b f [⟨p.Var,j⟩]
 |seq1 {p q:A0} {b:List PR} {f:Int} {s:List PR}:p.Op=1→p.cO=[q]→Sm l q b f s→Sm l p b f s
 |seq {p q q':A0} {r:List A0} {b:List PR} {f:Int} {s t:List PR}:p.Op=1→p.cO=q::q'::r→Sm l q b f s→Sm l {p with cO:=q'::r} (mrg b s) (Z5 s+1) t→Sm l p b f (mrg s t)
 |alt {p q:A0} {b:List PR} {f:Int} {s:List PR}:p.Op=2→q∈p.cO→Sm l q b f s→Sm l p b f s
 |all1 {p q:A0} {b:List PR} {f:Int} {s:List PR}:p.Op=3→p.cO=[q]→Sm l q b f s→Sm l p b f s
 |all {p q:A0} {r:List A0} {b:List PR} {f:Int} {s t:List PR}:p.Op=3→p.cO=r++[q]→r≠[]→Sm l {p with cO:=r} b f s→Sm l q b f t→Cz s t→Sm l p b f (mrg s t)
 |plus1 {p q:A0} {b:List PR} {f:Int} {s:List PR}:p.Op=4→p.cO=[q]→Sm l q b f s→Sm l p b f s
 |plus {p q:A0} {b:List PR} {f:Int} {s t:List PR}:p.Op=4→p.cO=[q]→Sm l q b f s→Sm l p (mrg b s) (Z5 s+1) t→Sm l p b f (mrg s t)
 |some {p q:A0} {b:List PR} {f:Int} {s:List PR}:5≤p.Op→p.Op≤7→p.cO=[q]→Sm l q b f s→keepsA l p b s=true→Sm l p b f s
theorem Sm.i0 {l:List A6} {p:A0} {b:List PR} {f:Int} {s:List PR} (h0:p.Op=0):Sm l p b f s↔∃j:Nat,f≤j∧j<l.length∧testE l p b j=true∧s=[⟨p.Var,j⟩]:=by
 constructor
 ·intro h
  cases h with
  |ev e0 e1 e2 e3=>exact⟨_,e1,e2,e3,rfl⟩
  |_=>omega
 rintro⟨j,e1,e2,e3,rfl⟩;exact .ev h0 e1 e2 e3
theorem Sm.i1 {l:List A6} {p q:A0} {b:List PR} {f:Int} {s:List PR} (h0:p.Op=1) (ha:p.cO=[q]):Sm l p b f s↔Sm l q b f s:=by
 constructor
 ·intro h
  cases h with
  |seq1 e0 ea hs=>rw[ha]at ea;cases ea;exact hs
  |seq e0 ea hs ht=>rw[ha]at ea;cases ea
  |_=>omega
 exact .seq1 h0 ha
theorem Sm.i1c {l:List A6} {p q q':A0} {r:List A0} {b:List PR} {f:Int} {s:List PR} (h0:p.Op=1) (ha:p.cO=q::q'::r):Sm l p b f s↔∃u t,Sm l q b f u∧Sm l {p with cO:=q'::r} (mrg b u) (Z5 u+1) t∧s=mrg u t:=by
 constructor
 ·intro h
  cases h with
  |seq1 e0 ea hs=>rw[ha]at ea;cases ea
  |seq e0 ea hs ht=>rw[ha]at ea;cases ea;exact⟨_,_,hs,ht,rfl⟩
  |_=>omega
 rintro⟨u,t,hs,ht,rfl⟩;exact .seq h0 ha hs ht
theorem Sm.i2 {l:List A6} {p:A0} {b:List PR} {f:Int} {s:List PR} (h0:p.Op=2):Sm l p b f s↔∃q∈p.cO,Sm l q b f s:=by
 constructor
 ·intro h
  cases h with
  |alt e0 ea hs=>exact⟨_,ea,hs⟩
  |_=>omega
 rintro⟨q,ha,hs⟩;exact .alt h0 ha hs
theorem Sm.i3 {l:List A6} {p q:A0} {b:List PR} {f:Int} {s:List PR} (h0:p.Op=3) (ha:p.cO=[q]):Sm l p b f s↔Sm l q b f s:=by
 constructor
 ·intro h
  cases h with
  |all1 e0 ea hs=>rw[ha]at ea;cases ea;exact hs
  |all e0 ea en hs ht hd=>
   rw[ha]at ea
   exact absurd (List.append_inj_left' (s₁:=[]) ea rfl).symm en
  |_=>omega
 exact .all1 h0 ha
theorem Sm.i3c {l:List A6} {p q:A0} {r:List A0} {b:List PR} {f:Int} {s:List PR} (h0:p.Op=3) (ha:p.cO=r++[q]) (hr:r≠[]):Sm l p b f s↔∃u t,Sm l {p with cO:=r} b f u∧Sm l q b f t∧Cz u t∧s=mrg u t:=by
 constructor
 ·intro h
  cases h with
  |all1 e0 ea hs=>
   rw[ha]at ea
   exact absurd (List.append_inj_left' (s₂:=[]) ea rfl) hr
  |all e0 ea en hs ht hd=>
   rw[ha]at ea
   have e1:=List.append_inj_left' ea rfl;have e2:=List.append_inj_right' ea rfl;cases e1;cases e2;exact⟨_,_,hs,ht,hd,rfl⟩
  |_=>omega
 rintro⟨u,t,hs,ht,hd,rfl⟩;exact .all h0 ha hr hs ht hd
theorem Sm.i4 {l:List A6} {p q:A0} {b:List PR} {f:Int} {s:List PR} (h0:p.Op=4) (ha:p.cO=[q]):Sm l p b f s↔Sm l q b f s∨∃u t,Sm l q b f u∧Sm l p (mrg b u) (Z5 u+1) t∧s=mrg u t:=by
 constructor
 ·intro h
  cases h with
  |plus1 e0 ea hs=>rw[ha]at ea;cases ea;exact .inl hs
  |plus e0 ea hs ht=>rw[ha]at ea;cases ea;exact .inr ⟨_,_,hs,ht,rfl⟩
  |_=>omega
 rintro(hs|⟨u,t,hs,ht,rfl⟩)
 ·exact .plus1 h0 ha hs
 exact .plus h0 ha hs ht
theorem Sm.i5 {l:List A6} {p q:A0} {b:List PR} {f:Int} {s:List PR} (h0:5≤p.Op) (h1:p.Op≤7) (ha:p.cO=[q]):Sm l p b f s↔Sm l q b f s∧keepsA l p b s=true:=by
 constructor
 ·intro h
  cases h with
  |some e0 e1 ea hs hk=>rw[ha]at ea;cases ea;exact⟨hs,hk⟩
  |_=>omega
 rintro⟨hs,hk⟩;exact .some h0 h1 ha hs hk
structure OC (l:List A6) (b:List PR) (f:Int):Prop where
 gd:Gd l b
 lt:∀x∈b,x.At<f
 f0:0≤f
 f1:f≤l.length
structure PJ (l:List A6) (f:Int) (s:List PR):Prop where
 gd:Gd l s
 ge:∀x∈s,f≤x.At
 ne:s≠[]
theorem OC.apart {l:List A6}{b s:List PR}{f:Int}(h:OC l b f)(r:PJ l f s):Cz b s:=fun x hx y hy=>by have:=h.lt x hx;have:=r.ge y hy;omega
theorem OC.next {l:List A6}{b s:List PR}{f:Int}(h:OC l b f)(r:PJ l f s):OC l (mrg b s) (Z5 s+1):=by
 have hl:=r.gd.lst r.ne;refine⟨h.gd.mrg r.gd (h.apart r),fun x hx=>?_,by omega,by omega⟩
 rcases X6.1 hx with hx|hx
 ·obtain⟨y,_,hy,e⟩:=DP r.ne;have:=h.lt x hx;have:=r.ge y hy;omega
 have:=Nb r.gd.asc x hx;omega
theorem PJ.seq {l:List A6} {s t:List PR} {f:Int} (r:PJ l f s) (q:PJ l (Z5 s+1) t):PJ l f (mrg s t)∧Cz s t:=by
 have ha:Cz s t:=fun x hx y hy=>by have:=Nb r.gd.asc x hx;have:=q.ge y hy;omega
 refine⟨⟨r.gd.mrg q.gd ha,fun x hx=>?_,fun e=>?_⟩,ha⟩
 ·rcases X6.1 hx with hx|hx
  ·exact r.ge x hx
  obtain⟨y,_,hy,e⟩:=DP r.ne;have:=r.ge y hy;have:=q.ge x hx;omega
 have h1:=congrArg List.length e
 rw[Pg,List.length_nil]at h1
 have:=List.length_pos_iff.2 r.ne;omega
theorem PJ.all {l:List A6}{s t:List PR}{f:Int}(r:PJ l f s)(q:PJ l f t)(ha:Cz s t):PJ l f (mrg s t):=by
 refine⟨r.gd.mrg q.gd ha,fun x hx=>(X6.1 hx).elim (r.ge x) (q.ge x),fun e=>?_⟩;have h1:=congrArg List.length e
 rw[Pg,List.length_nil]at h1
 have:=List.length_pos_iff.2 r.ne;omega
theorem Sm.res {l:List A6} {p:A0} {b:List PR} {f:Int} {s:List PR} (h:Sm l p b f s):Kt p→OC l b f→PJ l f s:=by
 induction h with
 |@ev p b f j h0 hf hj ht=>
  intro hw ho;refine⟨⟨fun x hx=>?_,List.pairwise_singleton _ _⟩,fun x hx=>?_,by simp⟩
  ·rw[List.mem_singleton.1 hx];exact⟨hw.self.var h0,by show 0≤(j:Int)∧(j:Int)<l.length;omega⟩
  rw[List.mem_singleton.1 hx];exact hf
 |seq1 h0 ha _ ih=>intro hw ho;exact ih (hw.arg (by rw[ha];simp)) ho
 |@seq p q q' r b f s t h0 ha _ _ ih1 ih2=>
  intro hw ho;have r1:=ih1 (hw.arg (by rw[ha];simp)) ho;have r2:=ih2 (hw.sub (by omega) (by omega) (fun x hx=>by rw[ha];exact List.mem_cons_of_mem _ hx) (by simp)) (ho.next r1);exact(r1.seq r2).1
 |alt h0 ha _ ih=>intro hw ho;exact ih (hw.arg ha) ho
 |all1 h0 ha _ ih=>intro hw ho;exact ih (hw.arg (by rw[ha];simp)) ho
 |@all p q r b f s t h0 ha hn _ _ hd ih1 ih2=>
  intro hw ho;exact(ih1 (hw.sub (by omega) (by omega) (fun x hx=>by rw[ha];simp[hx]) hn) ho).all (ih2 (hw.arg (by rw[ha];simp)) ho) hd
 |plus1 h0 ha _ ih=>intro hw ho;exact ih (hw.arg (by rw[ha];simp)) ho
 |@plus p q b f s t h0 ha _ _ ih1 ih2=>
  intro hw ho;have r1:=ih1 (hw.arg (by rw[ha];simp)) ho;exact(r1.seq (ih2 hw (ho.next r1))).1
 |some h0 h1 ha _ _ ih=>intro hw ho;exact ih (hw.arg (by rw[ha];simp)) ho
def Vs (p:A0)(v:Int):Prop:=∃y∈p.pre,y.Op=0∧y.Var=v
theorem Vs.arg {p q:A0}{v:Int}(hq:q∈p.cO)(h:Vs q v):Vs p v:=by
 obtain⟨y,hy,h⟩:=h;exact⟨y,by rw[A0.pre_eq];exact List.mem_cons_of_mem _ (O8.2 ⟨q,hq,hy⟩),h⟩
theorem Vs.sub {p:A0}{r:List A0}{v:Int}(h0:p.Op≠0)(hr:∀q∈r,q∈p.cO)(h:Vs {p with cO:=r} v):Vs p v:=by
 obtain⟨y,hy,h1,h2⟩:=h
 rw[A0.pre_eq]at hy
 rcases List.mem_cons.1 hy with rfl|hy
 ·exact absurd h1 h0
 obtain⟨q,hq,hy⟩:=O8.1 hy;exact Vs.arg (hr q hq) ⟨y,hy,h1,h2⟩
theorem Sm.vars {l:List A6} {p:A0} {b:List PR} {f:Int} {s:List PR} (h:Sm l p b f s):∀x∈s,Vs p x.Var:=by
 induction h with
 |@ev p b f j h0 hf hj ht=>intro x hx;rw[List.mem_singleton.1 hx];exact⟨p,Am p,h0,rfl⟩
 |seq1 h0 ha _ ih=>intro x hx;exact Vs.arg (by rw[ha];simp) (ih x hx)
 |@seq p q q' r b f s t h0 ha _ _ ih1 ih2=>
  intro x hx
  rcases X6.1 hx with hx|hx
  ·exact Vs.arg (by rw[ha];simp) (ih1 x hx)
  exact Vs.sub (by omega) (fun x hx=>by rw[ha];exact List.mem_cons_of_mem _ hx) (ih2 x hx)
 |alt h0 ha _ ih=>intro x hx;exact Vs.arg ha (ih x hx)
 |all1 h0 ha _ ih=>intro x hx;exact Vs.arg (by rw[ha];simp) (ih x hx)
 |@all p q r b f s t h0 ha hn _ _ hd ih1 ih2=>
  intro x hx
  rcases X6.1 hx with hx|hx
  ·exact Vs.sub (by omega) (fun x hx=>by rw[ha];simp[hx]) (ih1 x hx)
  exact Vs.arg (by rw[ha];simp) (ih2 x hx)
 |plus1 h0 ha _ ih=>intro x hx;exact Vs.arg (by rw[ha];simp) (ih x hx)
 |@plus p q b f s t h0 ha _ _ ih1 ih2=>
  intro x hx
  rcases X6.1 hx with hx|hx
  ·exact Vs.arg (by rw[ha];simp) (ih1 x hx)
  exact ih2 x hx
 |some h0 h1 ha _ _ ih=>intro x hx;exact Vs.arg (by rw[ha];simp) (ih x hx)
end
end Go.Ab
namespace Go.Ab
open Classical
noncomputable section
def evs (p:A0):Nat:=p.pre.countP fun y=>decide (y.Op=0)
def AS (p:A0):Prop:=∀y∈p.pre,y.Op≠4
theorem Ej (p:A0):evs p=(if p.Op=0 then 1 else 0)+(A0.pres p.cO).countP fun y=>decide (y.Op=0):=by
 unfold evs;rw[A0.pre_eq,List.countP_cons]
 by_cases h:p.Op=0<;>simp[h]<;>omega
theorem Lr (p:A0)(r:List A0):evs {p with cO:=r}=(if p.Op=0 then 1 else 0)+(A0.pres r).countP fun y=>decide (y.Op=0):=Ej _
theorem KO {q:A0}:∀{l:List A0},q∈l→evs q≤(A0.pres l).countP fun y=>decide (y.Op=0)
 |a::l,h=>by
  simp only[A0.pres,List.countP_append]
  rcases List.mem_cons.1 h with rfl|h
  ·exact Nat.le_add_right _ _
  have:=KO h;unfold evs at *;omega
theorem HI {p q:A0}(h:q∈p.cO):evs q≤evs p:=by rw[Ej p];have:=KO h;omega
theorem AS.arg {p q:A0}(h:AS p)(hq:q∈p.cO):AS q:=fun y hy=>h y (by rw[A0.pre_eq];exact List.mem_cons_of_mem _ (O8.2 ⟨q,hq,hy⟩))
theorem AS.sub {p:A0}{r:List A0}(h:AS p)(hr:∀q∈r,q∈p.cO):AS {p with cO:=r}:=by
 intro y hy
 rw[A0.pre_eq]at hy
 rcases List.mem_cons.1 hy with rfl|hy
 ·exact h p (Am p)
 obtain⟨q,hq,hy⟩:=O8.1 hy;exact h.arg (hr q hq) y hy
def Nt (n:Nat)(p:A0):Prop:=(evs p+1) ^ n≤1500∨(AS p∧2≤n∧n ^ evs p≤1500)
theorem Nt.mono {n:Nat}{p q:A0}(h:Nt n p)(h1:evs q≤evs p)(h2:AS p→AS q):Nt n q:=by
 rcases h with h|⟨a,b,c⟩
 ·exact .inl (Nat.le_trans (Nat.pow_le_pow_left (by omega) n) h)
 exact .inr ⟨h2 a,b,Nat.le_trans (Nat.pow_le_pow_right (by omega) h1) c⟩
theorem Nt.arg {n:Nat}{p q:A0}(h:Nt n p)(hq:q∈p.cO):Nt n q:=h.mono (HI hq) fun k=>k.arg hq
theorem Nt.tail {n:Nat}{p q:A0}{r:List A0}(h:Nt n p)(ha:p.cO=q::r):Nt n {p with cO:=r}:=by
 refine h.mono ?_ fun k=>k.sub fun x hx=>by rw[ha];exact List.mem_cons_of_mem _ hx
 rw[Lr,Ej,ha];simp only[A0.pres,List.countP_append];omega
theorem Dc :∀(r m:List A0),A0.pres (r++m)=A0.pres r++A0.pres m
 |[],m=>by simp[A0.pres]
 |a::r,m=>by simp[A0.pres,Dc r m]
def Hl (V:List Int):Nat→Int→List (List PR)
 |0,_=>[[]]
 |m+1,k=>Hl V m (k+1)++V.flatMap fun v=>(Hl V m (k+1)).map fun s=>⟨v,k⟩::s
theorem Km (V:List Int):∀(m:Nat) (k:Int),(Hl V m k).length=(V.length+1) ^ m
 |0,_=>rfl
 | m+1,k=>by
  have ih:=Km V m (k+1)
  have h:(V.flatMap fun v=>(Hl V m (k+1)).map fun s=>(⟨v,k⟩:PR)::s).length=V.length*(V.length+1) ^ m:=by
   clear ih;generalize hE:Hl V m (k+1)=E
   have hl:E.length=(V.length+1) ^ m:=by rw[←hE];exact Km V m (k+1)
   rw[←hl];clear hl hE
   induction V with
   |nil=>simp
   |cons v V ih=>rw[List.flatMap_cons,List.length_append,ih,List.length_map,List.length_cons,Nat.succ_mul];omega
  rw[Hl,List.length_append,ih,h,Nat.pow_succ];rw[Nat.mul_comm _ (V.length+1),Nat.succ_mul];omega
theorem HJ (V:List Int):∀(m:Nat) (k:Int) (s:List PR),WG s→(∀x∈s,k≤x.At∧x.At<k+m)→(∀x∈s,x.Var∈V)→s∈Hl V m k
 |0,k,[],_,_,_=>by simp[Hl]
 |0,k,x::s,_,h,_=>by have:=h x (by simp);omega
 |m+1,k,[],ha,_,_=>by
  rw[Hl];exact List.mem_append_left _ (HJ V m (k+1) [] ha (by simp) (by simp))
 | m+1,k,x::s,ha,h,hv=>by
  rw[Hl];have ha':=ha
  unfold WG at ha
  rw[List.pairwise_cons]at ha
  have hx:=h x (by simp)
  by_cases e:x.At=k
  ·refine List.mem_append_right _ (List.mem_flatMap.2 ⟨x.Var,hv x (by simp),List.mem_map.2 ⟨s,HJ V m (k+1) s ha.2 (fun y hy=>?_) (fun y hy=>hv y (by simp[hy])),?_⟩⟩)
   ·have:=ha.1 y hy;have:=h y (by simp[hy]);omega
   rw[←e]
  refine List.mem_append_left _ (HJ V m (k+1) (x::s) ha' (fun y hy=>?_) hv);have:=h y hy
  rcases List.mem_cons.1 hy with rfl|hy
  ·omega
  have:=ha.1 y hy;omega
def TV (p:A0):List Int:=(p.pre.filter fun y=>decide (y.Op=0)).map (·.Var)
theorem Vb (p:A0):(TV p).length=evs p:=by unfold TV evs;rw[List.length_map,List.countP_eq_length_filter]
theorem Vs.mem {p:A0}{v:Int}(h:Vs p v):v∈TV p:=by
 obtain⟨y,hy,h0,h1⟩:=h;exact List.mem_map.2 ⟨y,List.mem_filter.2 ⟨hy,by simpa using h0⟩,h1⟩
theorem Aq0 {l:List A6} {p:A0} {L:List (List PR)} (hn:L.Nodup) (h:∀s∈L,Gd l s∧∀x∈s,Vs p x.Var):L.length≤(evs p+1) ^ l.length:=by
 have:=List.Nodup.length_le_of_subset hn (l₂:=Hl (TV p) l.length 0) fun s hs=>by
  obtain⟨g,hv⟩:=h s hs;exact HJ _ _ _ s g.asc (fun x hx=>by have:=(g.wf x hx).2;omega) fun x hx=>(hv x hx).mem
 rwa[Km,Vb]at this
theorem Uh {α β:Type}(A B:List α)(f:α→α→β):(A.flatMap fun a=>B.map (f a)).length=A.length*B.length:=by
 induction A with
 |nil=>simp
 |cons a A ih=>rw[List.flatMap_cons,List.length_append,ih,List.length_map,List.length_cons,Nat.succ_mul];omega
theorem Ui :∀(n:Nat) (p:A0),p.pre.length≤n→Kt p→1≤evs p
 |0,p,h,_=>by rw[A0.pre_eq]at h;simp at h
 | n+1,p,h,hw=>by
  by_cases h0:p.Op=0
  ·rw[Ej,if_pos h0];omega
  have hne:∃q,q∈p.cO:=by
   by_cases h3:p.Op≤3
   ·exact List.exists_mem_of_ne_nil _ (hw.self.a1 (by have:=hw.self.op;omega) h3)
   obtain⟨q,hq⟩:=hw.self.a2 (by omega);exact⟨q,by rw[hq];simp⟩
  obtain⟨q,hq⟩:=hne;have:=Ui n q (by have:=P8 hq;omega) (hw.arg hq);have:=HI hq;omega
theorem Sa {x y:Nat} (hx:2≤x) (hy:2≤y):x+y≤x*y:=by
 obtain⟨a,rfl⟩:∃a,x=a+2:=⟨x - 2,by omega⟩;obtain⟨b,rfl⟩:∃b,y=b+2:=⟨y - 2,by omega⟩
 have:(a+2)*(b+2)=a*b+2*a+2*b+4:=by
  rw[Nat.mul_add,add_mul,add_mul];omega
 omega
theorem Lh {p q:A0}{r:List A0}(ha:p.cO=q::r):({p with cO:=r}:A0).pre.length<p.pre.length:=by
 have h1:=A0.pre_eq ({p with cO:=r}:A0);have h2:=A0.pre_eq p;rw[h1,h2,ha];have:=A0.pre_eq q;simp only[A0.pres,List.length_cons,List.length_append,this];omega
theorem Xy {p q:A0}{r:List A0}(ha:p.cO=r++[q]):({p with cO:=r}:A0).pre.length<p.pre.length:=by
 have h1:=A0.pre_eq ({p with cO:=r}:A0);have h2:=A0.pre_eq p;rw[h1,h2,ha,Dc];have:=A0.pre_eq q;simp only[A0.pres,List.length_cons,List.length_append,this];omega
theorem HZ {l:List A6} (hl:2≤l.length):∀(n:Nat) (p:A0),p.pre.length≤n→Kt p→AS p→∃C:List (List PR),C.length≤l.length ^ evs p∧∀b f s,Sm l p b f s→s∈C
 |0,p,h,_,_=>by rw[A0.pre_eq]at h;simp at h
 | n +1,p,h,hw,hp=>by
  have hop:=hw.self.op;have hnp:=hp p (Am p)
  have hpow:∀q:A0,Kt q→2≤l.length ^ evs q:=fun q hq=>by
   have h1:=Ui _ q (Nat.le_refl _) hq;have:=Nat.pow_le_pow_right (n:=l.length) (by omega) h1
   rw[Nat.pow_one]at this;omega
  by_cases h0:p.Op=0
  ·refine⟨(List.range l.length).map fun(j:Nat)=>[⟨p.Var,(j:Int)⟩],?_,fun b f s hs=>?_⟩
   ·rw[Ej,if_pos h0,hw.self.a0 h0,List.length_map,List.length_range];simp[A0.pres]
   obtain⟨j,_,hj,_,rfl⟩:=(Sm.i0 h0).1 hs;exact List.mem_map.2 ⟨j,List.mem_range.2 hj,rfl⟩
  by_cases h1:p.Op=1
  ·match ha:p.cO with
   |[]=>exact absurd ha (hw.self.a1 (by omega) (by omega))
   |[q]=>
    have hq:q∈p.cO:=by rw[ha];simp
    obtain⟨C,h2,h3⟩:=HZ hl n q (by have:=P8 hq;omega) (hw.arg hq) (hp.arg hq);refine⟨C,Nat.le_trans h2 (Nat.pow_le_pow_right (by omega) (HI hq)),fun b f s hs=>?_⟩;exact h3 _ _ _ ((Sm.i1 h1 ha).1 hs)
   | q::q'::r=>
    have hq:q∈p.cO:=by rw[ha];simp
    obtain⟨C,h2,h3⟩:=HZ hl n q (by have:=P8 hq;omega) (hw.arg hq) (hp.arg hq);obtain⟨D,h4,h5⟩:=HZ hl n {p with cO:=q'::r} (by have:=Lh ha;omega) (hw.sub (by omega) (by omega) (fun x hx=>by rw[ha];exact List.mem_cons_of_mem _ hx) (by simp)) (hp.sub fun x hx=>by rw[ha];exact List.mem_cons_of_mem _ hx);refine⟨C.flatMap fun s=>D.map (mrg s),?_,fun b f s hs=>?_⟩
    ·rw[Uh,show evs p=evs q+evs {p with cO:=q'::r}from ?_,Nat.pow_add]
     ·exact Nat.mul_le_mul h2 h4
     rw[Lr,Ej p,ha,if_neg h0];rw[A0.pres,List.countP_append];unfold evs;omega
    obtain⟨u,t,hu,ht,rfl⟩:=(Sm.i1c h1 ha).1 hs;exact List.mem_flatMap.2 ⟨_,h3 _ _ _ hu,List.mem_map.2 ⟨_,h5 _ _ _ ht,rfl⟩⟩
  by_cases h2':p.Op=2
  ·match ha:p.cO with
   |[]=>exact absurd ha (hw.self.a1 (by omega) (by omega))
   |[q]=>
    have hq:q∈p.cO:=by rw[ha];simp
    obtain⟨C,h2,h3⟩:=HZ hl n q (by have:=P8 hq;omega) (hw.arg hq) (hp.arg hq);refine⟨C,Nat.le_trans h2 (Nat.pow_le_pow_right (by omega) (HI hq)),fun b f s hs=>?_⟩;obtain⟨q',ha',hs⟩:=(Sm.i2 h2').1 hs
    rw[ha]at ha'
    rw[List.mem_singleton.1 ha']at hs
    exact h3 _ _ _ hs
   | q::q'::r=>
    have hq:q∈p.cO:=by rw[ha];simp
    have hws:Kt {p with cO:=q'::r}:=hw.sub (by omega) (by omega) (fun x hx=>by rw[ha];exact List.mem_cons_of_mem _ hx) (by simp);obtain⟨C,h2,h3⟩:=HZ hl n q (by have:=P8 hq;omega) (hw.arg hq) (hp.arg hq);obtain⟨D,h4,h5⟩:=HZ hl n {p with cO:=q'::r} (by have:=Lh ha;omega) hws (hp.sub fun x hx=>by rw[ha];exact List.mem_cons_of_mem _ hx);refine⟨C++D,?_,fun b f s hs=>?_⟩
    ·rw[List.length_append,show evs p=evs q+evs {p with cO:=q'::r}from ?_,Nat.pow_add]
     ·have e1:=hpow q (hw.arg hq);have e2:=hpow _ hws;have:=Sa e1 e2;omega
     rw[Lr,Ej p,ha,if_neg h0];rw[A0.pres,List.countP_append];unfold evs;omega
    obtain⟨x,ha',hs⟩:=(Sm.i2 h2').1 hs
    rw[ha]at ha'
    rcases List.mem_cons.1 ha' with e|hm
    ·rw[e]at hs;exact List.mem_append_left _ (h3 _ _ _ hs)
    exact List.mem_append_right _ (h5 _ _ _ (Sm.alt (p:={p with cO:=q'::r}) h2' hm hs))
  by_cases h3':p.Op=3
  ·rcases List.eq_nil_or_concat p.cO with ha|⟨r,q,ha⟩
   ·exact absurd ha (hw.self.a1 (by omega) (by omega))
   rw[List.concat_eq_append]at ha
   have hq:q∈p.cO:=by rw[ha];simp
   obtain⟨C,h2,h3⟩:=HZ hl n q (by have:=P8 hq;omega) (hw.arg hq) (hp.arg hq)
   by_cases hr:r=[]
   ·subst hr;refine⟨C,Nat.le_trans h2 (Nat.pow_le_pow_right (by omega) (HI hq)),fun b f s hs=>?_⟩;exact h3 _ _ _ ((Sm.i3 h3' ha).1 hs)
   have hws:Kt {p with cO:=r}:=hw.sub (by omega) (by omega) (fun x hx=>by rw[ha];simp[hx]) hr;obtain⟨D,h4,h5⟩:=HZ hl n {p with cO:=r} (by have:=Xy ha;omega) hws (hp.sub fun x hx=>by rw[ha];simp[hx]);refine⟨D.flatMap fun s=>C.map (mrg s),?_,fun b f s hs=>?_⟩
   ·rw[Uh,show evs p=evs {p with cO:=r}+evs q from ?_,Nat.pow_add]
    ·exact Nat.mul_le_mul h4 h2
    rw[Lr,Ej p,ha,if_neg h0,Dc,List.countP_append];simp only[A0.pres,append_nil];unfold evs;omega
   obtain⟨u,t,hu,ht,_,rfl⟩:=(Sm.i3c h3' ha hr).1 hs;exact List.mem_flatMap.2 ⟨_,h5 _ _ _ hu,List.mem_map.2 ⟨_,h3 _ _ _ ht,rfl⟩⟩
  obtain⟨q,ha⟩:=hw.self.a2 (by omega)
  have hq:q∈p.cO:=by rw[ha];simp
  obtain⟨C,h2,h3⟩:=HZ hl n q (by have:=P8 hq;omega) (hw.arg hq) (hp.arg hq);refine⟨C,Nat.le_trans h2 (Nat.pow_le_pow_right (by omega) (HI hq)),fun b f s hs=>?_⟩;exact h3 _ _ _ ((Sm.i5 (by omega) hop.2 ha).1 hs).1
theorem card {l:List A6} {p:A0} (hw:Kt p) (hs:Nt l.length p) {L:List (List PR)} (hn:L.Nodup) (h:∀s∈L,Gd l s∧∃b f,Sm l p b f s):L.length≤1500:=by
 rcases hs with hs|⟨h1,h2,h3⟩
 ·refine Nat.le_trans (Aq0 hn fun s m=>?_) hs;obtain⟨g,b,f,hm⟩:=h s m;exact⟨g,hm.vars⟩
 obtain⟨C,h4,h5⟩:=HZ h2 _ p (Nat.le_refl _) hw h1
 have:=List.Nodup.length_le_of_subset hn (l₂:=C) fun s m=>by
  obtain⟨g,b,f,hm⟩:=h s m;exact h5 b f s hm
 omega
end
end Go.Ab
namespace Go.Ab
open Classical
noncomputable section
theorem Fa {β σ τ:Type}{m:Option (List β×σ)}{f:σ→Option (List β×τ)}{w w':List β}{x:σ}{o:τ}(h1:m=some (w,x))(h2:f x=some (w',o)):N5 m f=some (w++w',o):=by
 unfold N5;rw[h1];simp only[Option.bind_some,h2]
theorem Mb {α β R:Type} {body:Unit→α→Option (List β×(Unit ⊕ R))} {Q:α→β→Prop}:∀{L:List α},(∀x∈L,∃w,body () x=some (w,.inl ())∧∀s,s∈w↔Q x s)→∃W,Bk body L ()=some (W,.inl ())∧∀s,s∈W↔∃x∈L,Q x s
 |[],_=>⟨[],rfl,by simp⟩
 |x::L,h=>by
  obtain⟨w,h1,h2⟩:=h x (by simp);obtain⟨W,h3,h4⟩:=Mb (L:=L) fun y hy=>h y (by simp[hy]);refine⟨w++W,by simp only[Bk,h1,h3],fun s=>?_⟩;rw[List.mem_append,h2,h4];simp
theorem NZ {α β A:Type} {L:List α} {N:Nat} (hN:L.length<N) {step:Int→Option (List β×(Int ⊕ A))} {u:A} {Q:α→β→Prop}
 (hs:∀(i:Nat) x,L[i]? =some x→(i:Int)<L.length→x∈L→∃w,step (i:Int)=some (w,.inl ((i:Int)+1))∧∀s,s∈w↔Q x s) (he:step (L.length:Int)=some ([],.inr u)):∃W,W0 step N 0=some (W,u)∧∀s,s∈W↔∃x∈L,Q x s:=by
 have key:∀(k i N:Nat),i+k=L.length→k<N→∃W,W0 step N (i:Int)=some (W,u)∧∀s,s∈W↔∃x∈L.drop i,Q x s:=by
  intro k
  induction k with
  |zero=>
   intro i N hi hN;obtain⟨N,rfl⟩:∃m,N=m+1:=⟨N - 1,by omega⟩;rw[List.drop_eq_nil_of_le (by omega),show(i:Int)=L.length by omega];exact⟨[],by simp[W0,he],by simp⟩
  |succ k ih=>
   intro i N hi hN;obtain⟨N,rfl⟩:∃m,N=m+1:=⟨N - 1,by omega⟩
   have hlt:i<L.length:=by omega
   obtain⟨w,h1,h2⟩:=hs i L[i] (by simp[hlt]) (by omega) (List.getElem_mem hlt);obtain⟨W,h3,h4⟩:=ih (i+1) N (by omega) (by omega);rw[List.drop_eq_getElem_cons hlt];refine⟨w++W,?_,fun s=>?_⟩
   ·simp only[W0,h1];rw[show((i:Int)+1)=((i+1:Nat):Int) by omega,h3]
   rw[List.mem_append,h2,h4];simp only[List.mem_cons,or_and_right,exists_or,exists_eq_left]
 simpa using key L.length 0 N (by omega) hN
def Gi (s:List BD):ByteArray:=Ql (FW (ID (G4 s)))
theorem YL {a b:List UInt8} (h:Ql (FW a)=Ql (FW b)):a=b:=by
 have e0:∀(a:List UInt8) (acc:ByteArray),((FW a).foldl (fun r n=>r.push (UInt8.ofNat n.toNat)) acc).data.toList=acc.data.toList++a:=fun a=>by
  induction a with
  |nil=>intro acc;simp[FW]
  |cons x a ih=>
   intro acc
   simp only[FW,List.map_cons,List.foldl_cons]at ih ⊢
   rw[ih];simp
 have e:∀a:List UInt8,(Ql (FW a)).data.toList=a:=fun a=>by
  have:=e0 a ByteArray.empty
  simpa[Ql]using this
 rw[←e a,←e b,h]
theorem VZ {l:List A6}(hl:l.length≤10){a b:List BD}(ha:UV l (G4 a))(hb:UV l (G4 b))(h:Gi a=Gi b):a=b:=Hz (LP hl ha hb (YL h))
theorem Vl {N:Nat}(hN:40000000≤N){l:List A6}(hl:l.length≤10){s:List BD}(g:Gd l (G4 s)):M1 N s=some (Gi s):=by
 have:=g.len
 rw[List.length_map]at this
 rw[Zq hN hl (by omega) g.wf];rfl
def IC (out:List (List BD)):List (ByteArray×Bool):=out.map fun s=>(Gi s,true)
theorem Wg (out:List (List BD)) (k:ByteArray):∃b,IG (IC out) k false=some (decide (∃s∈out,Gi s=k),b):=by
 unfold IG IC
 induction out with
 |nil=>exact⟨false,by simp⟩
 |cons x out ih=>
  obtain⟨b,ih⟩:=ih;rw[List.map_cons,List.find?_cons]
  by_cases h:Gi x=k
  ·exact⟨true,by simp[h]⟩
  refine⟨b,?_⟩;simp only[h,decide_false];rw[ih];simp[h]
theorem VB {out:List (List BD)}{s:List BD}(h:¬∃t∈out,Gi t=Gi s):HL (IC out) (Gi s) true=some (IC (out++[s])):=by
 unfold HL;rw[if_neg]
 ·simp[IC]
 intro e
 rw[List.any_eq_true]at e
 obtain⟨p,hp,he⟩:=e
 simp only[IC,List.mem_map]at hp
 obtain⟨t,ht,rfl⟩:=hp;exact h ⟨t,ht,by simpa using he⟩
theorem QS {N:Nat} (hN:40000000≤N) {l:List A6} (hl:l.length≤10) {R:List (List BD)} (hR:∀s∈R,Gd l (G4 s)) (hc:∀L:List (List BD),L.Nodup→(∀s∈L,s∈R)→L.length≤4096):
 ∃ m out,H7 (fun(s11:(List (ByteArray×Bool))×(List (List A1))) (y10:(List A1))=>
  (
   (M1 N y10).bind fun r17=>
   (IG s11.1 r17 (false:Bool)).bind fun r18=>
   if r18.1=true then
    some (.inl (s11.1,s11.2))
   else
    (HL s11.1 r17 true).bind fun l20=>
    (N6 s11.2 ([y10])).bind fun l22=>
    ((
     if cmp .gtr (Ar.len l22) 4096=true then
      none
     else
      some ()
    ):Option (Unit)).bind fun s23=>
    if(⟨l,false⟩:B0).full=true then
     some (.inr (l20,l22))
    else
     some (.inl (l20,l22))
   :Option (((List (ByteArray×Bool))×(List (List A1))) ⊕ (((List (ByteArray×Bool))×(List (List A1))))))
  ) R (([]:List (ByteArray×Bool)),[])=some (.inl (m,out))∧out.Nodup∧∀s,s∈out↔s∈R:=by
 obtain⟨s',h1,p,out,h2,h3,h4,h5⟩:=Z0 (R:=(List (ByteArray×Bool))×(List (List A1))) (step:=fun(s11:(List (ByteArray×Bool))×(List (List A1))) (y10:(List A1))=>
  (
   (M1 N y10).bind fun r17=>
   (IG s11.1 r17 (false:Bool)).bind fun r18=>
   if r18.1=true then
    some (.inl (s11.1,s11.2))
   else
    (HL s11.1 r17 true).bind fun l20=>
    (N6 s11.2 ([y10])).bind fun l22=>
    ((
     if cmp .gtr (Ar.len l22) 4096=true then
      none
     else
      some ()
    ):Option (Unit)).bind fun s23=>
    if(⟨l,false⟩:B0).full=true then
     some (.inr (l20,l22))
    else
     some (.inl (l20,l22))
   :Option (((List (ByteArray×Bool))×(List (List A1))) ⊕ (((List (ByteArray×Bool))×(List (List A1)))))))
  (fun r s=>∃p out,p++r=R∧s=(IC out,out)∧out.Nodup∧∀x,x∈out↔x∈p) (fun y r s ⟨p,out,e1,e2,e3,e4⟩=>by
   subst e2
   have hy:y∈R:=by rw[←e1];simp
   have hout:∀x∈out,x∈R:=fun x hx=>by rw[←e1];simp[(e4 x).1 hx]
   rw[Vl hN hl (hR y hy)];simp only[Option.bind_some];obtain⟨b,hb⟩:=Wg out (Gi y);rw[hb];simp only[Option.bind_some];have hiff:(∃s∈out,Gi s=Gi y)↔y∈out:=⟨fun⟨s,hs,e⟩=>by rw[←VZ hl (hR s (hout s hs)).wf (hR y hy).wf e];exact hs,fun h=>⟨y,h,rfl⟩⟩
   by_cases hm:y∈out
   ·rw[if_pos (decide_eq_true (hiff.2 hm))];refine⟨_,rfl,p++[y],out,by simpa using e1,rfl,e3,fun x=>?_⟩;rw[e4,List.mem_append,List.mem_singleton]
    constructor
    ·exact .inl
    rintro(h|rfl)
    ·exact h
    exact(e4 _).1 hm
   have hn:(out++[y]).Nodup:=by
    rw[List.nodup_append];exact⟨e3,by simp,fun a ha b hb'=>by rw[List.mem_singleton.1 hb'];intro e;exact hm (e▸ha)⟩
   have hlen:(out++[y]).length≤4096:=hc _ hn fun x hx=>by
    rcases List.mem_append.1 hx with h|h
    ·exact hout x h
    rw[List.mem_singleton.1 h];exact hy
   rw[if_neg (by simpa using fun x hx e=>hm (hiff.1 ⟨x,hx,e⟩)),VB (fun e=>hm (hiff.1 e))];simp only[Option.bind_some];rw[Y6 (by simp at hlen ⊢;omega)];simp only[Option.bind_some];rw[if_neg (X7 (by rw[B5];omega))];refine⟨_,rfl,p++[y],out++[y],by simpa using e1,rfl,hn,fun x=>?_⟩
   rw[List.mem_append,List.mem_append,e4]) (l:=R) (s:=([],[])) ⟨[],[],rfl,rfl,by simp,by simp⟩
 subst h3
 rw[append_nil]at h2
 subst h2;exact⟨_,_,h1,h4,h5⟩
def Ef (N n:Nat)(c:B0)(p:A0)(o:List BD)(f:Int):Option (List (List BD)):=
 if p.Op=0 then J9 N c p o f else if p.Op=1 then L5 N n c p o f else if p.Op=2 then L6 N n c p o f else if p.Op=3 then L7 N n c p o f else if p.Op=4 then K5 N n c p o f else F3 N n c p o f
def YV (N n:Nat)(l:List A6)(p:A0)(o:List BD)(f:Int):Prop:=∃L,C6 N n ⟨l,false⟩ p o f=some L∧L.Nodup∧∀s,s∈L↔Sm l p (G4 o) f (G4 s)
theorem EX {l:List A6} {p:A0} (hw:Kt p) (hs:Nt l.length p) {b:List PR} {f:Int} (ho:OC l b f) {L:List (List BD)} (hn:L.Nodup) (h:∀s∈L,Sm l p b f (G4 s)):L.length≤1500:=by
 have:=card hw hs (L:=L.map G4) (by
  rw[List.Nodup,List.pairwise_map]
  exact hn.imp fun hne e=>hne (Hz e)) fun s hs=>by
   obtain⟨t,ht,rfl⟩:=List.mem_map.1 hs;exact⟨((h t ht).res hw ho).gd,b,f,h t ht⟩
 rwa[List.length_map]at this
theorem Ag7 {N:Nat} (hN:40000000≤N) {l:List A6} (hl:l.length≤10) {p:A0} (hw:Kt p) (hs:Nt l.length p) {o:List BD} {f:Int} (ho:OC l (G4 o) f) {n:Nat} {R:List (List BD)} (h:Ef N n ⟨l,false⟩ p o f=some R) (hm:∀s,s∈R↔Sm l p (G4 o) f (G4 s)):YV N (n+1) l p o f:=by
 obtain⟨m,out,h1,h2,h3⟩:=QS hN hl (R:=R) (fun s hs=>(((hm s).1 hs).res hw ho).gd) fun L hL hsub=>by have:=EX hw hs ho hL fun s hs=>(hm s).1 (hsub s hs);omega
 refine⟨out,?_,h2,fun s=>(h3 s).trans (hm s)⟩;have hop:=hw.self.op;unfold C6 Ay
 have key:∀{F:List (List BD)→Option (List (List BD))},((B7 ([fun y1 y2 y3 y4=>J9 N y1 y2 y3 y4,fun y1 y2 y3 y4=>L5 N n y1 y2 y3 y4,fun y1 y2 y3 y4=>L6 N n y1 y2 y3 y4,fun y1 y2 y3 y4=>L7 N n y1 y2 y3 y4,fun y1 y2 y3 y4=>K5 N n y1 y2 y3 y4,fun y1 y2 y3 y4=>F3 N n y1 y2 y3 y4,fun y1 y2 y3 y4=>F3 N n y1 y2 y3 y4,fun y1 y2 y3 y4=>F3 N n y1 y2 y3 y4]:List (B0→A0→(List A1)→Int→Option (List (List A1)))) p.Op).bind fun f7=>(f7 ⟨l,false⟩ p o f).bind F)=F R:=by
  intro F
  have hb:∀{g:B0→A0→(List A1)→Int→Option (List (List A1))} {L:List (B0→A0→(List A1)→Int→Option (List (List A1)))} {i:Int},B7 L i=some g→g ⟨l,false⟩ p o f=some R→((B7 L i).bind fun f7=>(f7 ⟨l,false⟩ p o f).bind F)=F R:=fun e1 e2=>by rw[e1];simp only[Option.bind_some,e2]
  have hc:p.Op=0∨p.Op=1∨p.Op=2∨p.Op=3∨p.Op=4∨p.Op=5∨p.Op=6∨p.Op=7:=by omega
  unfold Ef at h
  rcases hc with e|e|e|e|e|e|e|e<;>(rw[e]at h ⊢;exact hb rfl (by simpa using h))
 simp only[Option.bind_some];rw[key,h1];rfl
end
end Go.Ab
namespace Go.Ab
open Classical
noncomputable section
theorem BG {α β A B:Type}{L:List α}{N:Nat}{step:Int→Option (List β×(Int ⊕ A))}{u:A}{f:A→Option (List β×B)}{y:B}{Q:α→β→Prop}{G:β→Prop}(hN:L.length<N)
 (hs:∀(i:Nat) x,L[i]? =some x→(i:Int)<L.length→x∈L→∃w,step (i:Int)=some (w,.inl ((i:Int)+1))∧∀s,s∈w↔Q x s) (he:step (L.length:Int)=some ([],.inr u)) (hf:f u=some ([],y)) (hG:∀s,(∃x∈L,Q x s)↔G s):∃W,N5 (W0 step N 0) f=some (W,y)∧∀s,s∈W↔G s:=by
 obtain⟨W,h1,h2⟩:=NZ hN hs he;exact⟨W++[],Fa h1 hf,fun s=>by rw[append_nil];exact(h2 s).trans (hG s)⟩
theorem JP {β:Type}{m:Option (List β×Unit)}{G:β→Prop}(h:∃W,m=some (W,())∧∀s,s∈W↔G s):∃R,(m.bind fun q=>some q.1)=some R∧∀s,s∈R↔G s:=by
 obtain⟨W,h1,h2⟩:=h;exact⟨W,by rw[h1];rfl,h2⟩
theorem Fi {β A:Type}{x:β}{o:A}{P:β→Prop}(h:∀s,s=x↔P s):∃w,N5 (some ([x],())) (fun _=>some ([],o))=some (w,o)∧∀s,s∈w↔P s:=⟨[x],rfl,fun s=>by rw[List.mem_singleton];exact h s⟩
section
variable {N:Nat}(hN:40000000≤N){l:List A6}(hl:l.length≤10)
include hN hl
theorem Yh {o u:List BD}{f:Int}(ho:OC l (G4 o) f)(r:PJ l f (G4 u)):∃c,K6 N o u=some c∧G4 c=mrg (G4 o) (G4 u):=by
 have h1:=ho.gd.len;have h2:=r.gd.len
 rw[List.length_map]at h1 h2
 exact Lo (n:=l.length) (by omega) (by omega) (by omega) ho.gd.asc r.gd.asc (ho.apart r) ho.gd.wf.ins r.gd.wf.ins
theorem Yg {u t:List BD}{f g:Int}(r:PJ l f (G4 u))(q:PJ l g (G4 t))(hd:Cz (G4 u) (G4 t)):∃c,K6 N u t=some c∧G4 c=mrg (G4 u) (G4 t):=by
 have h1:=r.gd.len;have h2:=q.gd.len
 rw[List.length_map]at h1 h2
 exact Lo (n:=l.length) (by omega) (by omega) (by omega) r.gd.asc q.gd.asc hd r.gd.wf.ins q.gd.wf.ins
theorem Ye {u:List BD}{f:Int}(r:PJ l f (G4 u)):K3 N u=some (Z5 (G4 u)):=by
 have h1:=r.gd.len
 rw[List.length_map]at h1
 exact Qt (fun e=>r.ne (by rw[e];rfl)) (by omega)
theorem TZ {q:A0} {o:List BD} {f:Int} {n:Nat} (wq:Kt q) (sq:Nt l.length q) (ho:OC l (G4 o) f) (hq:YV N n l q o f) {x5:List BD→Int→Option (List (List BD))} {Qr:List BD→List BD→Prop}
 (hr:∀u,Sm l q (G4 o) f (G4 u)→∀r9,G4 r9=mrg (G4 o) (G4 u)→∃T,x5 r9 (Z5 (G4 u)+1)=some T∧T.length≤4096∧∀t,t∈T↔Qr u t) (hres:∀u t,Sm l q (G4 o) f (G4 u)→Qr u t→PJ l (Z5 (G4 u)+1) (G4 t)):
 ∃R,K4 N (n+2) ⟨l,false⟩ q o f x5=some R∧∀s,s∈R↔∃u t,Sm l q (G4 o) f (G4 u)∧Qr u t∧G4 s=mrg (G4 u) (G4 t):=by
 obtain⟨L,h1,h2,h3⟩:=hq;have hc:=EX wq sq ho h2 fun s hs=>(h3 s).1 hs;unfold K4 O1;refine JP ?_;rw[h1];simp only[Option.bind_some];refine BG (L:=L) (u:=.inl ()) (Q:=fun u s=>∃t,Qr u t∧G4 s=mrg (G4 u) (G4 t)) (by omega) ?_ ?_ rfl ?_
 ·intro i u hu hi hm;have hsm:=(h3 u).1 hm;have r:=hsm.res wq ho;have hlst:=r.gd.lst r.ne;obtain⟨c,hc1,hc2⟩:=Yh hN hl ho r;obtain⟨T,t1,t2,t3⟩:=hr u hsm c hc2;have e:ar .add .i64 (i:Int) 1=i+1:=C5 (by omega) (by omega);rw[if_pos (R9 hi),D9,hu];simp only[Option.bind_some];rw[hc1,Ye hN hl r];simp only[Option.bind_some];rw[C5 (a:=Z5 (G4 u)) (by omega) (by omega),t1];simp only[Option.bind_some,e];refine BG (L:=T) (u:=.inl ()) (Q:=fun t s=>G4 s=mrg (G4 u) (G4 t)) (by omega) ?_ ?_ rfl ?_
  ·intro j t ht hj hmt;have qr:=(t3 t).1 hmt;have rt:=hres u t hsm qr;obtain⟨d,d1,d2⟩:=Yg hN hl r rt (r.seq rt).2;have e:ar .add .i64 (j:Int) 1=j+1:=C5 (by omega) (by omega);rw[if_pos (R9 hj),D9,ht];simp only[Option.bind_some,Bool.false_eq_true,if_false,d1,e];exact Fi fun s=>⟨fun e=>by rw[e,d2],fun e=>Hz (e.trans d2.symm)⟩
  ·rw[if_neg V9]
  intro s
  constructor
  ·rintro⟨t,ht,e⟩;exact⟨t,(t3 t).1 ht,e⟩
  rintro⟨t,ht,e⟩;exact⟨t,(t3 t).2 ht,e⟩
 ·rw[if_neg V9]
 intro s
 constructor
 ·rintro⟨u,hu,t,ht,e⟩;exact⟨u,t,(h3 u).1 hu,ht,e⟩
 rintro⟨u,t,hu,ht,e⟩;exact⟨u,(h3 u).2 hu,t,ht,e⟩
def mu (l:List A6)(p:A0)(f:Nat):Nat:=p.pre.length*(l.length+2)+(l.length - f)
omit hN hl in
theorem FM {p q:A0}{f g:Nat}(h:q.pre.length<p.pre.length):mu l q g+1≤mu l p f:=by
 unfold mu;have:=Nat.mul_le_mul_right (l.length+2) (show q.pre.length+1≤p.pre.length from h)
 rw[add_mul]at this
 omega
omit hN hl in
theorem ZV {p:A0}{f g:Nat}(h:f<g)(hg:g≤l.length):mu l p g+1≤mu l p f:=by unfold mu;omega
def IHk (N:Nat)(l:List A6)(k:Nat):Prop:=∀(p:A0) (o:List BD) (f n:Nat),mu l p f≤k→8*k+8≤n→p.pre.length≤64→Kt p→Nt l.length p→OC l (G4 o) f→YV N n l p o f
omit hN hl in
theorem Uz {u:List PR}{f:Int}(r:PJ l f u)(h0:0≤f):∃g:Nat,Z5 u+1=(g:Int)∧g≤l.length∧f<g:=by
 have:=r.gd.lst r.ne;obtain⟨x,_,hx,e⟩:=DP r.ne;have:=r.ge x hx;exact⟨(Z5 u+1).toNat,by omega,by omega,by omega⟩
theorem Tx {p:A0}(hw:Kt p)(h0:p.Op=0){o:List BD}{f:Nat}(ho:OC l (G4 o) f)(n:Nat):∃R,Ef N n ⟨l,false⟩ p o f=some R∧∀s,s∈R↔Sm l p (G4 o) f (G4 s):=by
 have:=ho.f1;refine⟨_,by unfold Ef;rw[if_pos h0];exact VA hN hl hw.self.cond ho.gd false (by omega),fun s=>?_⟩;rw[Ux,Sm.i0 h0]
 constructor
 ·rintro⟨j,h1,h2,h3,rfl⟩;exact⟨j,by omega,by omega,h3,rfl⟩
 rintro⟨j,h1,h2,h3,e⟩;exact⟨j,by omega,by omega,h3,Hz (e.trans rfl)⟩
theorem Vc {L:List (List BD)}(hL:L.length≤1000000):∃R,N9 N L=some R∧∀s,s∈R↔s∈L:=by
 unfold N9 E9;refine JP ?_;refine BG (L:=L) (u:=()) (Q:=fun x s=>s=x) (by omega) ?_ ?_ rfl ?_
 ·intro i u hu hi hm;have e:ar .add .i64 (i:Int) 1=i+1:=C5 (by omega) (by omega);rw[if_pos (R9 hi),D9,hu];simp only[Option.bind_some,e];exact Fi fun s=>Iff.rfl
 ·rw[if_neg V9]
 intro s;simp
theorem Yz {k:Nat} (ih:IHk N l k) {p:A0} (hw:Kt p) (hp:p.pre.length≤64) (hs:Nt l.length p) (h0:p.Op=1) {o:List BD} {f:Nat} (ho:OC l (G4 o) f) {n:Nat} (hmu:mu l p f≤k+1) (hn:8*k+15≤n):∃R,Ef N n ⟨l,false⟩ p o f=some R∧∀s,s∈R↔Sm l p (G4 o) f (G4 s):=by
 unfold Ef;rw[if_neg (by omega),if_pos h0];obtain⟨n,rfl⟩:∃m,n=m+1:=⟨n - 1,by omega⟩;unfold L5
 match ha:p.cO with
 |[]=>exact absurd ha (hw.self.a1 (by omega) (by omega))
 |[q]=>
  have hq:q∈p.cO:=by rw[ha];simp
  have:=FM (l:=l) (f:=f) (g:=f) (P8 hq);obtain⟨L,h1,h2,h3⟩:=ih q o f n (by omega) (by omega) (by have:=P8 hq;omega) (hw.arg hq) (hs.arg hq) ho;have hc:=EX (hw.arg hq) (hs.arg hq) ho h2 fun s hs=>(h3 s).1 hs;obtain⟨R,h4,h5⟩:=Vc hN hl (L:=L) (by omega);rw[if_pos (show cmp .eql (Ar.len [q]) 1=true from rfl),Jr];simp only[Option.bind_some];rw[h1];simp only[Option.bind_some];rw[h4];exact⟨R,rfl,fun s=>(h5 s).trans ((h3 s).trans (Sm.i1 h0 ha).symm)⟩
 | q::q'::r=>
  have hq:q∈p.cO:=by rw[ha];simp
  have hwr:Kt {p with cO:=q'::r}:=hw.sub (by omega) (by omega) (fun x hx=>by rw[ha];exact List.mem_cons_of_mem _ hx) (by simp);have hsr:Nt l.length {p with cO:=q'::r}:=hs.tail ha;rw[if_neg (by rw[C4,B5];simp;omega),LD,Jr];simp only[Option.bind_some];obtain⟨n,rfl⟩:∃m,n=m+2:=⟨n - 2,by omega⟩;have m1:=FM (l:=l) (f:=f) (g:=f) (P8 hq)
  obtain⟨R,h1,h2⟩:=TZ hN hl (hw.arg hq) (hs.arg hq) ho (ih q o f n (by omega) (by omega) (by have:=P8 hq;omega) (hw.arg hq) (hs.arg hq) ho) (x5:=fun y1 y2=>J8 N (n+2) y1 y2 ⟨l,false⟩ {p with cO:=q'::r})
   (Qr:=fun u t=>Sm l {p with cO:=q'::r} (mrg (G4 o) (G4 u)) (Z5 (G4 u)+1) (G4 t)) (fun u hu r9 e9=>by
    have ru:=hu.res (hw.arg hq) ho;obtain⟨g,hg,hgl,hfg⟩:=Uz ru ho.f0
    have ho':OC l (G4 r9) (g:Int):=by rw[e9,←hg];exact ho.next ru
    have m2:=FM (l:=l) (f:=f) (g:=g) (Lh ha);obtain⟨T,t1,t2,t3⟩:=ih {p with cO:=q'::r} r9 g (n+1) (by omega) (by omega) (by have:=Lh ha;omega) hwr hsr ho';have hc:=EX hwr hsr ho' t2 fun s hs=>(t3 s).1 hs;refine⟨T,?_,by omega,fun t=>?_⟩
    ·unfold J8;rw[hg,t1];rfl
    rw[t3,e9,hg]) (fun u t hu ht=>ht.res hwr (ho.next (hu.res (hw.arg hq) ho)))
  rw[h1];refine⟨R,rfl,fun s=>(h2 s).trans ?_⟩;rw[Sm.i1c h0 ha]
  constructor
  ·rintro⟨u,t,a,b,c⟩;exact⟨G4 u,G4 t,a,b,c⟩
  rintro⟨u,t,a,b,c⟩;exact⟨u.map IX,t.map IX,by rw[P3];exact a,by simp only[P3];exact b,by rw[P3,P3];exact c⟩
end
end
end Go.Ab
