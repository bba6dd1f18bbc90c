/- GTV6 GTV7 GTW0 GTW1 GTW2 GTW3 GTW4 GTW5 GTW6 -/
import Derived.Test.YtanbgjgaafeplaaGreatDoorB17
set_option linter.all false
open List (append_nil)
open Go.Ab.Ar (ar cmp)
namespace Go.Ab
noncomputable section
end
end Go.Ab
namespace Go.Ab
noncomputable section
end
end Go.Ab
namespace Go.Ab
open Classical
noncomputable section
abbrev BD :=A0
abbrev PR :=M1
def pr (b:BD):PR:=⟨b.cV,b.at_⟩
def IU (b:PR):BD:=⟨b.Var,b.At⟩
theorem ZV (b:PR):pr (IU b)=b:=rfl
theorem Ua (b:BD):IU (pr b)=b:=rfl
abbrev G2 (s:List BD):List PR:=s.map pr
theorem O8 (s:List PR):G2 (s.map IU)=s:=by rw[G2,List.map_map];exact(List.map_congr_left fun x _=>ZV x).trans (List.map_id s)
theorem Ai8 {a b:BD}(h:pr a=pr b):a=b:=by have:=congrArg IU h;simpa[Ua]using this
theorem Hr {a b:List BD}(h:G2 a=G2 b):a=b:=(List.map_inj_right (fun _ _ h=>Ai8 h)).1 h
def mrg :List PR→List PR→List PR
 |[],b=>b
 |x::a,[]=>x::a
 |x::a,y::b=>if x.At<y.At then x::mrg a (y::b)else y::mrg (x::a) b
 termination_by a b=>a.length+b.length
theorem Hz (b:List PR):mrg [] b=b:=by unfold mrg;rfl
theorem Jd (a:List PR):mrg a []=a:=by cases a<;>(unfold mrg;rfl)
theorem Je (x y:PR)(a b:List PR):mrg (x::a) (y::b)=if x.At<y.At then x::mrg a (y::b)else y::mrg (x::a) b:=by rw[mrg]
theorem GQ :∀(n:Nat) (a b:List PR),a.length+b.length≤n→(mrg a b).Perm (a++b)
 |_,[],b,_=>by rw[Hz];exact .refl _
 |_,x::a,[],_=>by rw[Jd];simp
 |0,x::a,y::b,h=>by simp at h
 |n+1,x::a,y::b,h=>by
  simp only[List.length_cons]at h
  rw[Je]
  split
  ·exact(GQ n a (y::b) (by simp;omega)).cons x
  exact((GQ n (x::a) b (by simp;omega)).cons y).trans (List.perm_middle.symm)
theorem W6 {a b:List PR}{x:PR}:x∈mrg a b↔x∈a∨x∈b:=by rw[(GQ _ a b (Nat.le_refl _)).mem_iff,List.mem_append]
theorem Pl (a b:List PR):(mrg a b).length=a.length+b.length:=by rw[(GQ _ a b (Nat.le_refl _)).length_eq,List.length_append]
def Vd (a:List PR):Prop:=a.Pairwise fun x y=>x.At<y.At
def CA (a b:List PR):Prop:=∀x∈a,∀y∈b,x.At≠y.At
theorem Lb :∀(n:Nat) {a b:List PR},a.length+b.length≤n→Vd a→Vd b→CA a b→Vd (mrg a b)
 |_,[],b,_,_,hb,_=>by rw[Hz];exact hb
 |_,x::a,[],_,ha,_,_=>by rw[Jd];exact ha
 |0,x::a,y::b,h,_,_,_=>by simp at h
 | n+1,x::a,y::b,h,ha,hb,hd=>by
  simp only[List.length_cons]at h
  unfold Vd at ha hb
  rw[List.pairwise_cons]at ha hb
  rw[Je];have hxy:=hd x (by simp) y (by simp)
  split
  ·rename_i hlt;refine List.pairwise_cons.2 ⟨fun z hz=>?_,Lb n (by simp;omega) ha.2 (List.pairwise_cons.2 hb) fun u hu v hv=>hd u (by simp[hu]) v hv⟩
   rcases W6.1 hz with hz|hz
   ·exact ha.1 z hz
   rcases List.mem_cons.1 hz with rfl|hz
   ·exact hlt
   have:=hb.1 z hz;omega
  rename_i hlt;refine List.pairwise_cons.2 ⟨fun z hz=>?_,Lb n (by simp;omega) (List.pairwise_cons.2 ha) hb.2 fun u hu v hv=>hd u hu v (by simp[hv])⟩
  rcases W6.1 hz with hz|hz
  ·rcases List.mem_cons.1 hz with rfl|hz
   ·omega
   have:=ha.1 z hz;omega
  exact hb.1 z hz
theorem Lv {α:Type}(x:α)(l:List α):Y2 (x::l) (some 1) none none=some l:=by
 unfold Y2;rw[if_pos (by simp;omega)];simp
def InS (n:Int)(s:List PR):Prop:=∀x∈s,0≤x.At∧x.At<n
theorem Ho {a b:Int}(h0: -9223372036854775808≤a - b)(h1:a - b<9223372036854775808):ar .sub .i64 a b=a - b:=CY h0 h1
theorem Lf {N:Nat} {a b:List BD} {n:Int} (hn:n≤1000000) (hla:a.length≤1000000) (hlb:b.length≤1000000) (ha:Vd (G2 a)) (hb:Vd (G2 b)) (hd:CA (G2 a) (G2 b)) (ia:InS n (G2 a)) (ib:InS n (G2 b)):
 ∃c,L4 N a b=some c∧G2 c=mrg (G2 a) (G2 b):=by
 refine⟨(mrg (G2 a) (G2 b)).map IU,?_,O8 _⟩;unfold L4
 have h1:WQ 0 (ar .add .i64 (Ar.len a) (Ar.len b)) (⟨0,0⟩:BD)=some []:=by
  rw[B3,B3,C4 (by omega) (by omega)];unfold WQ;rw[if_pos (by omega)];rfl
 rw[h1];simp only[Option.bind_some];rw[Ad (by simp;omega)];simp only[Option.bind_some,List.nil_append];rw[Ad (by omega)];simp only[Option.bind_some];have hm:=Lb _ (Nat.le_refl _) ha hb hd;have hin:∀x∈mrg (G2 a) (G2 b),0≤x.At∧x.At<n:=fun x hx=>(W6.1 hx).elim (ia x) (ib x)
 have hs:Gg (fun y1 y2=>Ba N y1 y2) (a++b)=some ((mrg (G2 a) (G2 b)).map IU):=by
  refine Qs ?_ (BP.2 ⟨?_,?_⟩) (by simp;omega)
  ·have:=(GQ _ (G2 a) (G2 b) (Nat.le_refl _)).map IU;refine this.trans (List.Perm.of_eq ?_);rw[←List.map_append,List.map_map];exact(List.map_congr_left fun x _=>Ua x).trans (List.map_id _)
  ·intro x _
   show(match some (ar .sub .i64 x.at_ x.at_)with|some c=>decide (0≤c)|none=>false)=true
   rw[Ho (by omega) (by omega)];simp
  rw[List.pairwise_map];refine List.Pairwise.imp_of_mem (fun{x y} hx hy hlt=>?_) hm;have:=hin x hx;have:=hin y hy
  constructor
  ·show(match some (ar .sub .i64 x.At y.At)with|some c=>decide (c<0)|none=>false)=true
   rw[Ho (by omega) (by omega)];simp;omega
  show(match some (ar .sub .i64 y.At x.At)with|some c=>decide (0≤c)|none=>false)=true
  rw[Ho (by omega) (by omega)];simp;omega
 rw[hs];rfl
def IC (s:List PR)(i:Int):Bool:=s.any fun x=>decide (x.At=i)
def JS (a b:List PR):Bool:=a.any fun x=>IC b x.At
theorem Px {s:List PR}{i:Int}:IC s i=true↔∃x∈s,x.At=i:=by simp[IC]
theorem NW {a b:List PR}:JS a b=false↔CA a b:=by
 unfold JS CA;rw[List.any_eq_false]
 constructor
 ·intro h x hx y hy e;exact h x hx (Px.2 ⟨y,hy,e.symm⟩)
 intro h x hx hc;obtain⟨y,hy,e⟩:=Px.1 hc;exact h x hx y hy e.symm
theorem T8 {α:Type}{l:List α}{i:Int}(h:i<l.length):cmp .lss i (Ar.len l)=true:=EG h
theorem X4 {α:Type}{l:List α}:¬cmp .lss (l.length:Int) (Ar.len l)=true:=Bz (Int.lt_irrefl _)
theorem Mr {α A B:Type} {N:Nat} {l:List α} (hl:l.length<N) (hN:l.length<1000000000) {step:Int→Option (Int ⊕ (A ⊕ B))} (P:α→Bool) (u:A) (r:Int→B)
 (hstep:∀(i:Nat) x,l[i]? =some x→(i:Int)<l.length→step i=some (if P x=true then .inr (.inr (r i))else .inl ((i:Int)+1)))
 (hend:step (l.length:Int)=some (.inr (.inl u))):∃i,loopN step N 0=some (if l.any P=true then .inr (r i)else .inl u)∧0≤i:=by
 have key:∀(k i n:Nat),i+k=l.length→k<n→∃j,loopN step n (i:Int)=some (if(l.drop i).any P=true then .inr (r j)else .inl u)∧0≤j:=by
  intro k
  induction k with
  |zero=>
   intro i n hi hn;obtain⟨n,rfl⟩:∃m,n=m+1:=⟨n - 1,by omega⟩;refine⟨0,?_,by omega⟩;rw[List.drop_eq_nil_of_le (by omega),show(i:Int)=l.length by omega];simp[loopN,hend]
  | succ k ih=>
   intro i n hi hn;obtain⟨n,rfl⟩:∃m,n=m+1:=⟨n - 1,by omega⟩
   have hlt:i<l.length:=by omega
   obtain⟨j,h,hj⟩:=ih (i+1) n (by omega) (by omega);rw[List.drop_eq_getElem_cons hlt,List.any_cons];have hs:=hstep i l[i] (by simp[hlt]) (by omega)
   by_cases hp:P l[i]=true
   ·refine⟨i,?_,by omega⟩
    rw[if_pos hp]at hs
    simp[loopN,hs,hp]
   refine⟨j,?_,hj⟩
   rw[if_neg hp]at hs
   simp only[loopN,hs];rw[show((i:Int)+1)=((i+1:Nat):Int) by omega,h];simp[hp]
 obtain⟨j,h,hj⟩:=key l.length 0 N (by omega) hl;exact⟨j,by simpa using h,hj⟩
theorem Fs {α:Type}{N:Nat}{l:List α}{step:Int→Option (Int ⊕ (Unit ⊕ Unit))}(P:α→Bool)(hl:l.length<N)(hN:l.length<1000000000)
 (hstep:∀(i:Nat) x,l[i]? =some x→(i:Int)<l.length→step i=some (if P x=true then .inr (.inr ())else .inl ((i:Int)+1)))
 (hend:step (l.length:Int)=some (.inr (.inl ()))):loopN step N 0=some (if l.any P=true then .inr ()else .inl ()):=by
 obtain⟨_,h,_⟩:=Mr hl hN P () (fun _=>()) hstep hend;exact h
theorem JU {α S σ R:Type} {L:List α} {N:Nat} {step:S→Option (S ⊕ R)} (mk:σ→Int→S) (g:σ→α→σ) (fin:σ→R) (Inv:Nat→σ→Prop) {s0:σ} (hN:L.length<N) (hl:L.length<1000000000) (h0:Inv 0 s0)
 (hs:∀s (i:Nat) x,L[i]? =some x→(i:Int)<L.length→x∈L→ar .add .i64 (i:Int) 1=i+1→Inv i s→step (mk s i)=some (.inl (mk (g s x) ((i:Int)+1)))∧Inv (i+1) (g s x)) (he:∀s,step (mk s L.length)=some (.inr (fin s))):loopN step N (mk s0 0)=some (fin (L.foldl g s0))∧Inv L.length (L.foldl g s0):=by
 have key:∀(k i N:Nat) (s:σ),i+k=L.length→k<N→Inv i s→loopN step N (mk s (i:Int))=some (fin ((L.drop i).foldl g s))∧Inv L.length ((L.drop i).foldl g s):=by
  intro k
  induction k with
  |zero=>
   intro i N s hi hN ho;obtain⟨N,rfl⟩:∃m,N=m+1:=⟨N - 1,by omega⟩
   have e:i=L.length:=by omega
   subst e;rw[List.drop_length];exact⟨by simp[loopN,he],ho⟩
  |succ k ih=>
   intro i N s hi hN ho;obtain⟨N,rfl⟩:∃m,N=m+1:=⟨N - 1,by omega⟩
   have hlt:i<L.length:=by omega
   obtain⟨h1,h2⟩:=hs s i L[i] (by simp[hlt]) (by omega) (List.getElem_mem hlt) (C4 (by omega) (by omega)) ho;rw[List.drop_eq_getElem_cons hlt];simp only[loopN,h1];exact ih (i+1) N _ (by omega) (by omega) h2
 simpa using key L.length 0 N s0 (by omega) hN h0
theorem Js {N:Nat} (hN:40000000≤N) {s:List BD} (hl:s.length≤1000000) {f:BD→Option Bool} {P:BD→Bool} (hf:∀x∈s,f x=some (P x)):G1 N s f=some (s.any P):=by
 unfold G1 N7
 obtain⟨j,h,hj⟩:=Mr (N:=N) (l:=s) (by omega) (by omega) (A:=Unit) (B:=Int) (step:=(fun(s1:Int)=>
  (
   if cmp .lss s1 (Ar.len s)=true then
    (B9 s s1).bind fun x3=>
    (f x3).bind fun r4=>
    if r4=true then
     some (.inr (.inr s1))
    else
     some (.inl (ar .add .i64 s1 1))
   else
    some (.inr (.inl ()))
   :Option ((Int) ⊕ (Unit ⊕ Int))))) P () (fun i=>i) (fun i x hx hi=>by
  have e:ar .add .i64 (i:Int) 1=i+1:=C4 (by omega) (by omega);simp only[C0,B3,hi,decide_true,if_true,D7,hx,Option.bind_some,e,hf x (List.mem_of_getElem? hx)]
  split<;>rfl) (by simp[C0,B3])
 rw[h]
 by_cases ha:s.any P=true
 ·rw[if_pos ha,ha];simp only[Option.bind_some,Q8,decide_eq_true hj]
 rw[if_neg ha];simp only[Option.bind_some,Q8]
 rw[Bool.not_eq_true]at ha
 rw[ha];rfl
theorem Uf {N:Nat}(hN:40000000≤N){s:List BD}(hl:s.length≤1000000)(i:Int):S2 N s i=some (IC (G2 s) i):=by
 unfold S2;rw[Js hN hl (f:=fun y1=>S7 N y1 i) (P:=fun x=>decide (x.at_=i)) fun x _=>rfl];simp only[Option.bind_some,IC,G2,List.any_map];rfl
theorem Vm {N:Nat}(hN:40000000≤N){a b:List BD}(ha:a.length≤1000000)(hb:b.length≤1000000):Ag N a b=some (JS (G2 a) (G2 b)):=by
 unfold Ag;rw[Js hN ha (P:=fun x=>IC (G2 b) x.at_) fun x _=>by unfold W3;rw[Uf hN hb];rfl];simp only[Option.bind_some,JS,G2,List.any_map];rfl
def Sc (s:List PR):Int:=match s with|[]=>0|x::_=>x.At
def W0 (s:List PR):Int:=match s.getLast? with|none=>0|some x=>x.At
theorem Mz {α:Type} {l:List α} (h:l≠[]) (hl:l.length≤1000000):B9 l (ar .sub .i64 (Ar.len l) 1)=l.getLast? :=by
 rcases List.eq_nil_or_concat l with rfl|⟨q,y,rfl⟩
 ·exact absurd rfl h
 rw[List.concat_eq_append]at *
 have e1:ar .sub .i64 (Ar.len (q++[y])) 1=(q.length:Int):=by
  have:ar .sub .i64 (Ar.len (q++[y])) 1=Ar.len (q++[y]) - 1:=Ho (by rw[B3];omega) (by rw[B3];omega);rw[this,B3];simp
 rw[e1,D7];simp
theorem Y7 {s:List PR}(h:s≠[]):∃x,s.getLast? =some x∧x∈s∧W0 s=x.At:=by
 cases hs:s.getLast? with
 |none=>exact absurd (List.getLast?_eq_none_iff.1 hs) h
 |some x=>exact⟨x,rfl,List.mem_of_getLast? hs,by simp[W0,hs]⟩
theorem Qv {N:Nat}{s:List BD}(h:s≠[])(hl:s.length≤1000000):K7 N s=some (W0 (G2 s)):=by
 unfold K7;rw[Mz h hl];unfold W0;rw[G2,List.getLast?_map]
 cases hs:s.getLast? with
 |none=>exact absurd (List.getLast?_eq_none_iff.1 hs) h
 |some x=>rfl
theorem Jj {α:Type}(x:α)(l:List α):B9 (x::l) 0=some x:=rfl
theorem Jw {s:List PR}(ha:Vd s):∀x∈s,x.At≤W0 s:=by
 intro x hx
 rcases List.eq_nil_or_concat s with rfl|⟨q,y,rfl⟩
 ·cases hx
 rw[List.concat_eq_append]at *
 have e:W0 (q++[y])=y.At:=by simp[W0]
 rw[e]
 unfold Vd at ha
 rw[List.pairwise_append]at ha
 rcases List.mem_append.1 hx with h|h
 ·have:=ha.2.2 x h y (by simp);omega
 rw[List.mem_singleton.1 h];exact Int.le_refl _
theorem UW :∀{s:List PR} {k:Int} {m:Nat},Vd s→(∀x∈s,k≤x.At∧x.At<k+m)→s.length≤m
 |[],_,_,_,_=>Nat.zero_le _
 |x::s,k,m,ha,h=>by
  unfold Vd at ha
  rw[List.pairwise_cons]at ha
  have hx:=h x (by simp);obtain⟨m,rfl⟩:∃q,m=q+1:=⟨m - 1,by omega⟩
  have:=UW (s:=s) (k:=x.At+1) (m:=m) ha.2 fun y hy=>by have:=ha.1 y hy;have:=h y (by simp[hy]);omega
  simp;omega
end
end Go.Ab
namespace Go.Ab
open Classical
noncomputable section
def JN (l:List A4)(s:List PR)(b v:Int):List A4:=s.filterMap fun x=>if x.At<b∧x.Var=v then l[x.At.toNat]? else none
def Ha (l:List A4)(s:List PR)(b:Int):DK:=⟨(List.range 16).map fun(v:Nat)=>JN l s b (v:Int)⟩
def Va (l:List A4)(s:List PR):Prop:=∀x∈s,(0≤x.Var∧x.Var<16)∧(0≤x.At∧x.At<l.length)
theorem Va.ins {l:List A4}{s:List PR}(h:Va l s):InS l.length s:=fun x hx=>(h x hx).2
theorem QH (l:List A4)(s:List PR)(b v:Int):(JN l s b v).length≤s.length:=List.length_filterMap_le ..
theorem Oj (l:List A4){s:List PR}(hs:s.length<1000000)(b:Int):LM (Ha l s b):=by
 constructor
 ·simp[Ha]
 intro r hr
 simp only[Ha,List.mem_map]at hr
 obtain⟨v,_,rfl⟩:=hr;have:=QH l s b v;omega
theorem NQ (l:List A4)(p:List PR)(x:PR)(b v:Int):JN l (p++[x]) b v=JN l p b v++(if x.At<b∧x.Var=v then(l[x.At.toNat]?).toList else[]):=by
 unfold JN;rw[List.filterMap_append]
 congr 1
 by_cases h:x.At<b∧x.Var=v
 ·simp only[List.filterMap_cons,List.filterMap_nil,if_pos h];cases l[x.At.toNat]? <;>rfl
 simp only[List.filterMap_cons,List.filterMap_nil,if_neg h]
theorem SM {α R:Type} (f:α→PR) (l:List A4) (b:Int) {s:List α} (hs:s.length≤1000000) (hw:Va l (s.map f)):
 H7 (R:=R) (fun rows x=>if cmp .lss (f x).At b=true then(B9 rows (f x).Var).bind fun x9=>(B9 l (f x).At).bind fun x14=>(S1 x9 [x14]).bind fun l15=>(HG rows (f x).Var (fun _=>l15)).bind fun l13=>some (.inl l13)else some (.inl rows)) s (List.replicate 16 [])=
  some (.inl ((List.range 16).map fun(v:Nat)=>JN l (s.map f) b (v:Int))):=by
 obtain⟨s',h1,p,h2,h3⟩:=Y5 (R:=R) (step:=fun rows x=>if cmp .lss (f x).At b=true then(B9 rows (f x).Var).bind fun x9=>(B9 l (f x).At).bind fun x14=>(S1 x9 [x14]).bind fun l15=>(HG rows (f x).Var (fun _=>l15)).bind fun l13=>some (.inl l13)else some (.inl rows))
  (fun r rows=>∃p,p++r=s∧rows=(List.range 16).map fun(v:Nat)=>JN l (p.map f) b (v:Int)) (fun x r rows ⟨p,e1,e2⟩=>by
   subst e2
   have hx:x∈s:=by rw[←e1];simp
   obtain⟨⟨v0,v1⟩,a0,a1⟩:=hw (f x) (List.mem_map.2 ⟨x,hx,rfl⟩)
   have hpl:p.length≤1000000:=by have:=congrArg List.length e1;simp at this;omega
   by_cases hb:(f x).At<b
   ·rw[if_pos (by rw[C0];exact decide_eq_true hb)]
    generalize hv:(f x).Var=vv at *
    generalize ha:(f x).At=aa at *
    obtain⟨v,rfl⟩:=Int.eq_ofNat_of_zero_le v0;obtain⟨a,rfl⟩:=Int.eq_ofNat_of_zero_le a0
    have hva:v<16:=by omega
    have haa:a<l.length:=by omega
    have e1':B9 ((List.range 16).map fun(v:Nat)=>JN l (p.map f) b (v:Int)) (v:Int)=some (JN l (p.map f) b v):=by
     rw[D7];simp[hva]
    have e2':B9 l (a:Int)=some l[a]:=by rw[D7];simp[haa]
    have hpl':=QH l (p.map f) b v;simp only[e1',e2',Option.bind_some];rw[Ad (by simp at hpl' ⊢;omega)];simp only[Option.bind_some];refine⟨_,by unfold HG;rw[e1'];rfl,p++[x],by simpa using e1,?_⟩;apply List.ext_getElem?;intro j;rw[List.getElem?_set]
    by_cases hj:j<16
    ·simp only[List.getElem?_map,List.getElem?_range hj,List.map_append,List.map_cons,List.map_nil,NQ,hv,ha,Int.toNat_natCast,List.length_map,List.length_range,Option.map_some]
     by_cases hjv:v=j
     ·subst hjv;simp[hb,hj,haa]
     have:¬((v:Int)=(j:Int)):=by omega
     simp[hjv,this]
    have:¬(v=j):=by omega
    simp[hj,this]
   rw[if_neg (by rw[C0];simpa using hb)];refine⟨_,rfl,p++[x],by simpa using e1,?_⟩;apply List.map_congr_left;intro v _
   rw[List.map_append,List.map_cons,List.map_nil,NQ,if_neg (by omega),append_nil]) (l:=s) (s:=List.replicate 16 []) ⟨[],rfl,by simp[JN];rfl⟩
 rw[h1]
 rw[append_nil]at h2
 rw[h3,h2]
theorem Ug {N:Nat} (hN:40000000≤N) {l:List A4} {s:List BD} (hs:s.length≤1000000) (hw:Va l (G2 s)) (f:Bool) (b:Int):O7 N ⟨l,f⟩ s b=some (Ha l (G2 s) b):=by
 unfold O7;have h1:WQ 16 16 ([]:List A4)=some (List.replicate 16 []):=rfl;rw[h1];simp only[Option.bind_some];rw[I9 s (by omega) (mk:=fun(rows:List (List A4)) i=>(i,rows)) (body:=fun rows x=>if cmp .lss (pr x).At b=true then(B9 rows (pr x).Var).bind fun x9=>(B9 l (pr x).At).bind fun x14=>(S1 x9 [x14]).bind fun l15=>(HG rows (pr x).Var (fun _=>l15)).bind fun l13=>some (.inl l13)else some (.inl rows)) (fin:=fun s=>s) (s:=List.replicate 16 []) (by omega) ?_ ?_]
 ·rw[SM pr l b hs hw];rfl
 ·intro rows i x hx hi;have e:ar .add .i64 (i:Int) 1=i+1:=C4 (by omega) (by omega);simp only[C0,B3,hi,decide_true,if_true,D7,hx,Option.bind_some,e]
  show(if decide (x.at_<b)=true then _ else _)=Option.bind (if decide (x.at_<b)=true then _ else _) _
  by_cases hb:x.at_<b
  ·rw [if_pos (decide_eq_true hb),if_pos (decide_eq_true hb)]
   show((B9 rows x.cV).bind _)=((B9 rows x.cV).bind _).bind _
   cases B9 rows x.cV with
   |none=>rfl
   | some r=>
    simp only[Option.bind_some]
    show((B9 l x.at_).bind _)=((B9 l x.at_).bind _).bind _
    cases B9 l x.at_ with
    |none=>rfl
    | some y=>
     simp only[Option.bind_some]
     cases S1 r [y]with
     |none=>rfl
     |some q=>
      simp only[Option.bind_some]
      show((HG rows x.cV _).bind _)=((HG rows x.cV _).bind _).bind _
      cases HG rows x.cV fun _=>q<;>rfl
  rw[if_neg (by simpa using hb),if_neg (by simpa using hb)];rfl
 intro s;simp[C0,B3]
theorem Gb {l:List A4}{i:Nat}(h:i<l.length):B9 l (i:Int)=some l[i]:=by rw[D7];simp[h]
theorem IY {N:Nat}(hN:40000000≤N){l:List A4}{s:List BD}(hs:s.length<1000000)(hw:Va l (G2 s))(f:Bool){c:A7}(hc:c.bulk≤16777216)(own:Int){i:Nat}(hi:i<l.length):
 G5 N ⟨l,f⟩ c s own i=some (Bk (Ha l (G2 s) i) own l[i] c):=by
 unfold G5;rw[Ug hN (by omega) hw];simp only[Option.bind_some];rw[Gb hi];simp only[Option.bind_some];rw[Qk hN (Oj l (by simpa using hs) _) own _ hc];rfl
def Zs {β:Type}(T:Nat→Bool)(g:Nat→β):Nat→Nat→List β
 |0,_=>[]
 |k+1,i=>if T i=true then g i::Zs T g k (i+1)else Zs T g k (i+1)
theorem Qj {β:Type}(T:Nat→Bool)(g:Nat→β)(k i:Nat):Zs T g (k+1) i=if T i=true then g i::Zs T g k (i+1)else Zs T g k (i+1):=rfl
theorem UB {β:Type} {T:Nat→Bool} {g:Nat→β} {x:β}:∀{k i:Nat},x∈Zs T g k i↔∃j,i≤j∧j<i+k∧T j=true∧x=g j
 |0,i=>by simp[Zs];intro j a b;omega
 | k+1,i=>by
  rw[Qj];have ih:=UB (T:=T) (g:=g) (x:=x) (k:=k) (i:=i+1)
  constructor
  ·intro h
   by_cases ht:T i=true
   ·rw[if_pos ht]at h
    rcases List.mem_cons.1 h with h|h
    ·exact⟨i,by omega,by omega,ht,h⟩
    obtain⟨j,a,b,c⟩:=ih.1 h;exact⟨j,by omega,by omega,c⟩
   rw[if_neg ht]at h
   obtain⟨j,a,b,c⟩:=ih.1 h;exact⟨j,by omega,by omega,c⟩
  rintro⟨j,a,b,c,d⟩
  by_cases hij:j=i
  ·subst hij;rw[if_pos c,d];simp
  have:=ih.2 ⟨j,by omega,by omega,c,d⟩
  split
  ·exact List.mem_cons_of_mem _ this
  exact this
theorem Ri {β A:Type} {n:Nat} {step:Int→Option (List β×(Int ⊕ A))} {T:Nat→Bool} {g:Nat→β} {u:A} (hs:∀i,i<n→step (i:Int)=some (if T i=true then[g i]else[],.inl ((i:Int)+1))) (he:step (n:Int)=some ([],.inr u)):
 ∀(k i N:Nat),i+k=n→k<N→V4 step N (i:Int)=some (Zs T g k i,u)
 |0,i,N,h,hN=>by
  obtain⟨N,rfl⟩:∃m,N=m+1:=⟨N - 1,by omega⟩;rw[show(i:Int)=n by omega];simp[V4,he,Zs]
 |k+1,i,N,h,hN=>by
  obtain⟨N,rfl⟩:∃m,N=m+1:=⟨N - 1,by omega⟩;have ih:=Ri hs he k (i+1) N (by omega) (by omega);simp only[V4,hs i (by omega)];rw[show((i:Int)+1)=((i+1:Nat):Int) by omega,ih];rw[Qj]
  by_cases ht:T i=true<;>simp[ht]
end
end Go.Ab
namespace Go.Ab
open Classical
noncomputable section
theorem Mq {A:Type} {n:Nat} {step:Int→Option (Int ⊕ (A ⊕ Unit))} {P:Nat→Bool} {u:A} (m:Nat) (hs:∀i,m≤i→i<n→step (i:Int)=some (if P i=true then .inr (.inr ())else .inl ((i:Int)+1))) (he:∀i:Nat,n≤i→step (i:Int)=some (.inr (.inl u))):
 ∀(k i N:Nat),n≤i+k→m≤i→k<N→loopN step N (i:Int)=some (if(List.range' i (n - i)).any P=true then .inr ()else .inl u)
 |0,i,N,h,_,hN=>by
  obtain⟨N,rfl⟩:∃m,N=m+1:=⟨N - 1,by omega⟩;rw[show n - i=0 by omega];simp[loopN,he i (by omega)]
 | k+1,i,N,h,hm,hN=>by
  obtain⟨N,rfl⟩:∃m,N=m+1:=⟨N - 1,by omega⟩
  by_cases hi:i<n
  ·have ih:=Mq m hs he k (i+1) N (by omega) (by omega) (by omega);simp only[loopN,hs i hm hi];rw[show n - i=(n - (i+1))+1 by omega,List.range'_succ,List.any_cons]
   by_cases hp:P i=true
   ·simp[hp]
   rw[if_neg hp]
   dsimp only
   rw[show((i:Int)+1)=((i+1:Nat):Int) by omega,ih];simp[hp]
  rw[show n - i=0 by omega];simp[loopN,he i (by omega)]
def Kk (l:List A4)(i:Int):Int:=match l[i.toNat]? with|some e=>e.Time|none=>0
def Gn (l:List A4)(p:A1)(b s:List PR)(i:Nat):Bool:=match l[i]? with|some e=>decide (e.Typ=p.Typ)&&(!IC s i)&&Bk (Ha l (mrg b s) i) p.Var e p.cS|none=>false
def II (l:List A4)(p:A1)(b s:List PR):Bool:= !((List.range l.length).any fun i=>decide (Sc s<(i:Int))&&decide ((i:Int)<W0 s)&&Gn l p b s i)
def keepsA (l:List A4)(p:A1)(b s:List PR):Bool:=
 if p.Op=6 then decide (ar .sub .i64 (Kk l (W0 s)) (Kk l (Sc s))≤p.Span)else if p.Op=7 then Bk (Ha l (mrg b s) l.length) (-1) ⟨0,0,0,0,[]⟩ p.cS else II l p b s
structure Gd (l:List A4) (s:List PR):Prop where
 wf:Va l s
 asc:Vd s
theorem Gd.len {l:List A4}{s:List PR}(h:Gd l s):s.length≤l.length:=UW (k:=0) h.asc fun x hx=>by have:=(h.wf x hx).2;omega
theorem Gd.nil (l:List A4):Gd l []:=⟨fun _ h=>absurd h List.not_mem_nil,List.Pairwise.nil⟩
theorem Gd.mrg {l:List A4}{a b:List PR}(ha:Gd l a)(hb:Gd l b)(h:CA a b):Gd l (mrg a b):=⟨fun x hx=>(W6.1 hx).elim (ha.wf x) (hb.wf x),Lb _ (Nat.le_refl _) ha.asc hb.asc h⟩
theorem Gd.lst {l:List A4}{s:List PR}(h:Gd l s)(hn:s≠[]):0≤W0 s∧W0 s<l.length:=by
 obtain⟨x,_,hx,e⟩:=Y7 hn;rw[e];exact(h.wf x hx).2
theorem Gd.hd {l:List A4} {s:List PR} (h:Gd l s) (hn:s≠[]):0≤Sc s∧Sc s<l.length∧Sc s≤W0 s∧IC s (Sc s)=true:=by
 cases s with
 |nil=>exact absurd rfl hn
 |cons x s=>
  have:=(h.wf x (by simp)).2;exact⟨this.1,this.2,Jw h.asc x (by simp),Px.2 ⟨x,by simp,rfl⟩⟩
theorem Ub {l:List A4}{i:Int}(h0:0≤i)(h1:i<l.length):∃e,B9 l i=some e∧e.Time=Kk l i:=by
 obtain⟨i,rfl⟩:=Int.eq_ofNat_of_zero_le h0
 have hi:i<l.length:=by omega
 exact⟨l[i],Gb hi,by simp[Kk,hi]⟩
theorem Ac2 {s:List BD}(h:s≠[]):∃x,B9 s 0=some x∧x.at_=Sc (G2 s):=by
 cases s with
 |nil=>exact absurd rfl h
 |cons x s=>exact⟨x,rfl,rfl⟩
theorem Ai7 {s:List BD}(h:s≠[]):G2 s≠[]:=fun e=>h (List.map_eq_nil_iff.1 e)
theorem Wj {l:List A4} {p:A1} {b s:List PR} {a n:Nat} (h1:(a:Int)≤Sc s+1) (h2:Sc s≤(a:Int)) (hn:(n:Int)=W0 s) (hh:IC s (Sc s)=true) (hl:W0 s<l.length):
 (List.range' a (n - a)).any (Gn l p b s)= !II l p b s:=by
 unfold II;rw[Bool.not_not,Bool.eq_iff_iff,List.any_eq_true,List.any_eq_true]
 constructor
 ·rintro⟨i,hi,hb⟩
  rw[List.mem_range'_1]at hi
  refine⟨i,List.mem_range.2 (by omega),?_⟩
  have hne:Sc s≠(i:Int):=by
   intro e
   rw[e]at hh
   unfold Gn at hb
   split at hb
   ·rw[hh]at hb;simp at hb
   cases hb
  simp only[Bool.and_eq_true,decide_eq_true_eq];exact⟨⟨by omega,by omega⟩,hb⟩
 rintro⟨i,hi,hb⟩
 simp only[Bool.and_eq_true,decide_eq_true_eq]at hb
 exact⟨i,List.mem_range'_1.2 (by omega),hb.2⟩
theorem Vp {N:Nat} (hN:40000000≤N) {l:List A4} (hl:l.length≤10) {p:A1} (hc:p.cS.bulk≤16777216) (hop:5≤p.Op∧p.Op≤7) {b s:List BD} (gb:Gd l (G2 b)) (gs:Gd l (G2 s)) (hn:s≠[]) (hd:CA (G2 b) (G2 s)) (f:Bool):
 P4 N ⟨l,f⟩ p b s=some (keepsA l p (G2 b) (G2 s)):=by
 have lb:=gb.len;have ls:=gs.len
 rw[List.length_map]at lb ls
 have gm:=gb.mrg gs hd;have lm:=gm.len;have hnp:=Ai7 hn;have hlst:=gs.lst hnp;obtain⟨h0,h1,h2,hh⟩:=gs.hd hnp;obtain⟨x0,hx0,e0⟩:=Ac2 hn;obtain⟨c,hj,ec⟩:=Lf (N:=N) (n:=l.length) (by omega) (by omega) (by omega) gb.asc gs.asc hd gb.wf.ins gs.wf.ins
 have lc:c.length≤10:=by have:=congrArg List.length ec;rw[List.length_map]at this;omega
 have wc:Va l (G2 c):=by rw[ec];exact gm.wf
 unfold P4 keepsA;rw[hx0,Qv hn (by omega),hj];simp only[Option.bind_some,Ug hN (show c.length≤1000000 by omega) wc,Qk hN (Oj l (show(G2 c).length<1000000 by rw[List.length_map];omega) _) _ _ hc]
 by_cases h6:p.Op=6
 ·rw[if_pos (by rw[C1];exact decide_eq_true h6),if_pos h6];obtain⟨y1,hy1,t1⟩:=Ub (l:=l) (i:=W0 (G2 s)) (by omega) (by omega);obtain⟨y0,hy0,t0⟩:=Ub (l:=l) (i:=x0.at_) (by omega) (by omega);rw[hy1,hy0];simp only[Option.bind_some,DH,t1,t0,e0]
 rw[if_neg h6,if_neg (by rw[C1];simpa using h6)]
 by_cases h7:p.Op=7
 ·rw[if_pos (by rw[C1];exact decide_eq_true h7),if_pos h7,ec];rfl
 rw[if_neg h7,if_neg (by rw[C1];simpa using h7)];obtain⟨n,hnn⟩:=Int.eq_ofNat_of_zero_le hlst.1;obtain⟨a,ha⟩:=Int.eq_ofNat_of_zero_le h0;rw[e0,ha,C4 (a:=((a:Nat):Int)) (by omega) (by omega),show((a:Int)+1)=((a+1:Nat):Int) by omega];rw[Mq (A:=Unit) (n:=n) (P:=Gn l p (G2 b) (G2 s)) (u:=()) 0 ?_ ?_ n (a+1) N (by omega) (by omega) (by omega),Wj (by omega) (by omega) (by omega) hh hlst.2]
 ·cases II l p (G2 b) (G2 s)<;>rfl
 ·intro i _ hi
  have hil:i<l.length:=by omega
  have e:ar .add .i64 (i:Int) 1=i+1:=C4 (by omega) (by omega);rw[if_pos (EG (by omega)),Uf hN (by omega),Gb hil,IY hN (by omega) wc _ hc _ hil,ec];simp only[Option.bind_some,Y6,C1,e];unfold Gn;simp only[List.getElem?_eq_getElem hil];cases IC (G2 s) (i:Int)<;>by_cases ht:l[i].Typ=p.Typ<;>cases Bk (Ha l (mrg (G2 b) (G2 s)) (i:Int)) p.Var l[i] p.cS<;>simp[ht]
 intro i hi;rw[if_neg (Bz (by omega))]
end
end Go.Ab
namespace Go.Ab
open Classical
noncomputable section
def testE (l:List A4)(p:A1)(b:List PR)(i:Nat):Bool:=match l[i]? with|some e=>decide (e.Typ=p.Typ)&&Bk (Ha l b i) p.Var e p.cS|none=>false
theorem VG {N:Nat} (hN:40000000≤N) {l:List A4} (hl:l.length≤10) {p:A1} (hc:p.cS.bulk≤16777216) {b:List BD} (gb:Gd l (G2 b)) (f:Bool) {i:Nat} (hi:i≤l.length):
 K0 N ⟨l,f⟩ p b (i:Int)=some (Zs (testE l p (G2 b)) (fun j=>[(⟨p.Var,(j:Int)⟩:BD)]) (l.length - i) i):=by
 have lb:=gb.len
 rw[List.length_map]at lb
 unfold K0 S3
 have h:=Ri (β:=List BD) (A:=Unit) (n:=l.length) (T:=testE l p (G2 b)) (g:=fun j=>[(⟨p.Var,(j:Int)⟩:BD)]) (u:=()) (step:=(fun(s1:Int)=>
  (
   if cmp .lss s1 (Ar.len (⟨l,f⟩:A8).cY)=true then
    (B9 (⟨l,f⟩:A8).cY s1).bind fun x7=>
    if cmp .eql x7.Typ p.Typ=true then
     (G5 N ⟨l,f⟩ p.cS b p.Var s1).bind fun r8=>
     if r8=true then
      N3 (some ([[(⟨p.Var,s1⟩:A0)]],())) fun _=>
      some ([],.inl (ar .add .i64 s1 1))
     else
      some ([],.inl (ar .add .i64 s1 1))
    else
     some ([],.inl (ar .add .i64 s1 1))
   else
    some ([],.inr ())
   :Option (List (List A0)×((Int) ⊕ (Unit)))))) ?_ ?_ (l.length - i) i N (by omega) (by omega)
 ·rw[h];simp[N3]
 ·intro j hj;have e:ar .add .i64 (j:Int) 1=j+1:=C4 (by omega) (by omega);rw[if_pos (EG (by rw[B3];show(j:Int)<(l.length:Int);omega))]
  show((B9 l (j:Int)).bind _)=_
  rw[Gb hj,IY hN (by omega) gb.wf _ hc _ hj,e];simp only[Option.bind_some,C1,N3];unfold testE;simp only[List.getElem?_eq_getElem hj]
  by_cases ht:l[j].Typ=p.Typ<;>cases Bk (Ha l (G2 b) (j:Int)) p.Var l[j] p.cS<;>simp[ht]
 rw[if_neg X4]
def Ss (x:PR):List UInt8:=V0 x.Var.toNat++64::(V0 x.At.toNat++[32])
def Iz (s:List PR):List UInt8:=s.flatMap Ss
def Ga (l:List UInt8):List Int:=l.map fun b=>(b.toNat:Int)
theorem Xf {n:Int}(h0:0≤n)(h1:n<1000):Ar.wr .i64 n=n:=CY (by omega) (by omega)
theorem Ah9 {n:Int} (h0:0≤n) (h1:n<1000):Ar.wr .u64 n=n:=by
 have e:IntKind.wrap .u64 n=n % 18446744073709551616:=by
  unfold IntKind.wrap;simp[IntKind.bits,IntKind.signed]
 exact e.trans (by omega)
theorem Jz {N:Nat} {d:List Int} (hd:d.length≤1000000) {i:Int} (h0:0≤i) (h1:i<100):F4 N d i 10=some (d++Ga (V0 i.toNat)):=by
 unfold F4 X8 U9 EX;rw[if_neg (Bz (by omega)),Ah9 h0 (by omega),if_pos (show cmp .eql 10 10=true by rfl),if_pos (EG h1),Xf h0 (by omega)]
 have hs:LD i=some ⟨(V0 i.toNat).toArray⟩:=by
  unfold LD;rw[if_pos (by simp;omega)]
 rw[hs];simp only[Option.bind_some]
 have hl:(V0 i.toNat).length≤2:=by unfold V0;split<;>simp
 rw[Ad (by simp[Ka];omega)];rfl
theorem ZA (x:PR):(Ss x).length≤6:=by
 have h:∀i,(V0 i).length≤2:=fun i=>by unfold V0;split<;>simp
 have:=h x.Var.toNat;have:=h x.At.toNat;simp[Ss];omega
theorem UL :∀s:List PR,(Iz s).length≤6*s.length
 |[]=>by simp[Iz]
 |x::s=>by
  have:=UL s;have:=ZA x
  simp only[Iz,List.flatMap_cons,List.length_append,List.length_cons]at *
  omega
theorem ZE {N:Nat} (hN:40000000≤N) {l:List A4} (hl:l.length≤10) {s:List BD} (hs:s.length≤1000) (hw:Va l (G2 s)):M4 N s=Ud (Ga (Iz (G2 s))):=by
 unfold M4;rw[I9 s (by omega) (mk:=fun(out:List Int) i=>(i,out)) (body:=fun out x=>(F4 N out x.cV 10).bind fun l6=>(S1 l6 [64]).bind fun l90=>(F4 N l90 x.at_ 10).bind fun l209=>(S1 l209 [32]).bind fun l290=>some (.inl l290)) (fin:=fun s=>s) (s:=[]) (by omega) ?_ ?_]
 ·obtain⟨s',h1,p,h2,h3⟩:=Y5 (R:=List Int) (step:=fun out x=>(F4 N out x.cV 10).bind fun l6=>(S1 l6 [64]).bind fun l90=>(F4 N l90 x.at_ 10).bind fun l209=>(S1 l209 [32]).bind fun l290=>some (.inl l290))
   (fun r out=>∃p,p++r=s∧out=Ga (Iz (G2 p))) (fun x r out ⟨p,e1,e2⟩=>by
    subst e2
    have hx:x∈s:=by rw[←e1];simp
    obtain⟨⟨v0,v1⟩,a0,a1⟩:=hw (pr x) (List.mem_map.2 ⟨x,hx,rfl⟩);have hv0:0≤x.cV:=v0;have hv1:x.cV<16:=v1;have ha0:0≤x.at_:=a0;have ha1:x.at_<l.length:=a1
    have hp:p.length≤1000:=by have:=congrArg List.length e1;simp at this;omega
    have hk:(Ga (Iz (G2 p))).length≤6000:=by
     have:=UL (G2 p)
     rw[List.length_map]at this
     simp[Ga];omega
    have hsm:∀i,(Ga (V0 i)).length≤2:=fun i=>by simp only[Ga,List.length_map];unfold V0;split<;>simp
    have:=hsm x.cV.toNat;have:=hsm x.at_.toNat;refine⟨Ga (Iz (G2 p))++Ga (V0 x.cV.toNat)++[64]++Ga (V0 x.at_.toNat)++[32],?_,p++[x],by simpa using e1,?_⟩
    ·rw[Jz (by omega) hv0 (by omega)];simp only[Option.bind_some];rw[Ad (by simp only[List.length_append,List.length_cons,List.length_nil];omega)];simp only[Option.bind_some];rw[Jz (by simp only[List.length_append,List.length_cons,List.length_nil];omega) ha0 (by omega)];simp only[Option.bind_some];rw[Ad (by simp only[List.length_append,List.length_cons,List.length_nil];omega)];rfl
    simp[Ga,Iz,Ss,G2,pr]) (l:=s) (s:=[]) ⟨[],rfl,rfl⟩
  rw[h1];simp only[Option.bind_some]
  rw[append_nil]at h2
  rw[h3,h2];cases Ud (Ga (Iz (G2 s)))<;>rfl
 ·intro out i x hx hi;have e:ar .add .i64 (i:Int) 1=i+1:=C4 (by omega) (by omega);simp only[C0,B3,hi,decide_true,if_true,D7,hx,Option.bind_some,e]
  cases F4 N out x.cV 10 with
  |none=>rfl
  | some a=>
   simp only[Option.bind_some]
   cases S1 a [64]with
   |none=>rfl
   | some b=>
    simp only[Option.bind_some]
    cases F4 N b x.at_ 10 with
    |none=>rfl
    |some c=>
     simp only[Option.bind_some];cases S1 c [32]<;>rfl
 intro s;simp[C0,B3]
theorem Mp {m:UInt8}:∀{a b r q:List UInt8},m∉a→m∉b→a++m::r=b++m::q→a=b∧r=q
 |[],[],r,q,_,_,h=>⟨rfl,by simpa using h⟩
 |[],y::b,r,q,_,hb,h=>by simp at h;exact absurd h.1 (by intro e;exact hb (by simp[e]))
 |x::a,[],r,q,ha,_,h=>by simp at h;exact absurd h.1 (by intro e;exact ha (by simp[←e]))
 |x::a,y::b,r,q,ha,hb,h=>by
  simp only[List.cons_append,List.cons.injEq]at h
  have:=Mp (fun e=>ha (by simp[e])) (fun e=>hb (by simp[e])) h.2;exact⟨by rw[h.1,this.1],this.2⟩
theorem Ez {i:Nat}(h:i<100):(64:UInt8)∉V0 i∧(32:UInt8)∉V0 i:=by
 have:∀i<100,(64:UInt8)∉V0 i∧(32:UInt8)∉V0 i:=by decide
 exact this i h
theorem NJ {i j:Nat}(hi:i<16)(hj:j<16)(h:V0 i=V0 j):i=j:=by
 have:∀i<16,∀j<16,V0 i=V0 j→i=j:=by decide
 exact this i hi j hj h
theorem LK {l:List A4} (hl:l.length≤10):∀{a b:List PR},Va l a→Va l b→Iz a=Iz b→a=b
 |[],[],_,_,_=>rfl
 |[],y::b,_,_,h=>by simp[Iz,Ss]at h
 |x::a,[],_,_,h=>by simp[Iz,Ss]at h
 | x::a,y::b,ha,hb,h=>by
  obtain⟨⟨v0,v1⟩,a0,a1⟩:=ha x (by simp);obtain⟨⟨w0,w1⟩,b0,b1⟩:=hb y (by simp);obtain⟨m1,m2⟩:=Ez (i:=x.Var.toNat) (by omega);obtain⟨m3,m4⟩:=Ez (i:=x.At.toNat) (by omega);obtain⟨n1,n2⟩:=Ez (i:=y.Var.toNat) (by omega);obtain⟨n3,n4⟩:=Ez (i:=y.At.toNat) (by omega)
  simp only[Iz,List.flatMap_cons,Ss,List.append_assoc,List.cons_append,List.nil_append]at h
  obtain⟨e1,e2⟩:=Mp m1 n1 h;obtain⟨e3,e4⟩:=Mp m4 n4 e2;have i1:=NJ (by omega) (by omega) e1;have i2:=NJ (by omega) (by omega) e3
  have hxy:x=y:=by
   cases x;cases y
   simp only[M1.mk.injEq]at *
   omega
  rw[hxy,LK hl (fun z hz=>ha z (by simp[hz])) (fun z hz=>hb z (by simp[hz])) e4]
end
end Go.Ab
namespace Go.Ab
open Classical
noncomputable section
structure WfN (y:A1):Prop where
 op:0≤y.Op∧y.Op≤7
 var:y.Op=0→0≤y.Var∧y.Var<16
 a0:y.Op=0→y.cQ=[]
 a1:1≤y.Op→y.Op≤3→y.cQ≠[]
 a2:4≤y.Op→∃q,y.cQ=[q]
 cond:y.cS.bulk≤16777216
def Ke (p:A1):Prop:=∀y∈p.pre,WfN y
theorem NH {N:Nat} (hN:40000000≤N) {x:A1} (hb:x.bulk≤16777216) (h:Nx N x=0):Ke x∧x.pre.length≤64:=by
 unfold Nx at h
 by_cases hr:O1 N x=0
 ·rw [if_neg (by simpa using hr)]at h
  by_cases ha:x.pre.any (fun y=>cmp .geq y.Op 8)=true
  ·rw[if_pos ha]at h;cases h
  obtain⟨hp,hd,hg⟩:=Hq hr;refine⟨fun y hy=>?_,hp⟩;have h1:=EF x y hy;have h2:=Dp y
  have hyb:y.bulk≤16777216:=by omega
  have hyl:y.cQ.length≤64:=by omega
  obtain⟨ho,s,ng,hs,hc⟩:=Me hN hyb hyl (hg y hy)
  have h7:y.Op≤7:=by
   rw[Bool.not_eq_true,List.any_eq_false]at ha
   have:=ha y hy
   rw[Q8]at this
   simp at this;omega
  have hz:=Af3 hN N y.cS (⟨0,[],0,0,0,(⟨0,0,⟨#[]⟩⟩:A6)⟩:A7) (by omega) (by omega);have h1:=FY hN (by omega) ho.1 ho.2 hs hz
  rw[(DP hN hyb hyl).2,hg y hy]at h1
  have h1:=Option.some.inj h1
  by_cases har:s.cX≤y.cQ.length∧(y.cQ.length:Int)≤s.most
  ·rw[if_pos har]at h1
   unfold Iq at h1
   by_cases e1:Dn s.cT y.Typ 15=true
   ·rw[if_pos e1]at h1;cases h1
   rw[if_neg e1]at h1
   by_cases e2:Dn s.cT y.Var 15=true
   ·rw[if_pos e2]at h1;cases h1
   have ht:=hs.tab
   have hop:y.Op=0∨y.Op=1∨y.Op=2∨y.Op=3∨y.Op=4∨y.Op=5∨y.Op=6∨y.Op=7:=by omega
   refine⟨⟨ho.1,h7⟩,?_,?_,?_,?_,by omega⟩
   ·intro h0
    rw[h0]at ht
    have hs:s.cT=true:=by cases ht;rfl
    rw[hs]at e2
    unfold Dn at e2
    simp at e2
    omega
   ·intro h0
    rw[h0]at ht
    have hm:s.most=0:=by cases ht;rfl
    exact List.eq_nil_of_length_eq_zero (by omega)
   ·intro h0 h3
    have hm:1≤s.cX:=by
     have:y.Op=1∨y.Op=2∨y.Op=3:=by omega
     rcases this with h|h|h<;>rw[h]at ht<;>cases ht<;>decide
    intro e
    rw[e]at har
    simp at har;omega
   intro h0
   have hm:s.cX=1∧s.most=1:=by
    have:y.Op=4∨y.Op=5∨y.Op=6∨y.Op=7:=by omega
    rcases this with h|h|h|h<;>rw[h]at ht<;>cases ht<;>decide
   have hl:y.cQ.length=1:=by omega
   match he:y.cQ,hl with
   |[q],_=>exact⟨q,rfl⟩
  rw[if_neg har]at h1;cases h1
 rw[if_pos (show O1 N x≠0 from hr)]at h;exact absurd h hr
theorem Q6 {y : A1}:∀{l:List A1},y∈A1.pres l↔∃a∈l,y∈a.pre
 |[]=>by simp[A1.pres]
 | a :: l => by simp only[A1.pres,List.mem_append,Q6 (l:=l),List.mem_cons];constructor
                ·rintro(h|⟨b,h1,h2⟩)
                 ·exact⟨a,.inl rfl,h⟩
                 exact⟨b,.inr h1,h2⟩
                rintro⟨b,rfl|h1,h2⟩
                ·exact .inl h2
                exact .inr ⟨b,h1,h2⟩
theorem Ke.self {p:A1}(h:Ke p):WfN p:=h p (Cd p)
theorem Ke.arg {p q:A1}(h:Ke p)(hq:q∈p.cQ):Ke q:=fun y hy=>h y (by rw[A1.pre_eq];exact List.mem_cons_of_mem _ (Q6.2 ⟨q,hq,hy⟩))
theorem Ke.sub {p:A1}{r:List A1}(h:Ke p)(h1:1≤p.Op)(h3:p.Op≤3)(hr:∀q∈r,q∈p.cQ)(hn:r≠[]):Ke {p with cQ:=r}:=by
 intro y hy
 rw[A1.pre_eq]at hy
 rcases List.mem_cons.1 hy with rfl|hy
 ·exact⟨h.self.op,fun e=>by have:p.Op=0:=e;omega,fun e=>by have:p.Op=0:=e;omega,fun _ _=>hn,fun e=>by have:4≤p.Op:=e;omega,h.self.cond⟩
 obtain⟨q,hq,hy⟩:=Q6.1 hy;exact h.arg (hr q hq) y hy
inductive Sm (l:List A4):A1→List PR→Int→List PR→Prop
 |ev {p:A1} {b:List PR} {f:Int} {j:Nat}:p.Op=0→f≤j→j<l.length→testE l p b j=true→Sm l p b f [⟨p.Var,j⟩]
 |seq1 {p q:A1} {b:List PR} {f:Int} {s:List PR}:p.Op=1→p.cQ=[q]→Sm l q b f s→Sm l p b f s
 |seq {p q q':A1} {r:List A1} {b:List PR} {f:Int} {s t:List PR}:p.Op=1→p.cQ=q::q'::r→Sm l q b f s→Sm l {p with cQ:=q'::r} (mrg b s) (W0 s+1) t→Sm l p b f (mrg s t)
 |alt {p q:A1} {b:List PR} {f:Int} {s:List PR}:p.Op=2→q∈p.cQ→Sm l q b f s→Sm l p b f s
 |all1 {p q:A1} {b:List PR} {f:Int} {s:List PR}:p.Op=3→p.cQ=[q]→Sm l q b f s→Sm l p b f s
 |all {p q:A1} {r:List A1} {b:List PR} {f:Int} {s t:List PR}:p.Op=3→p.cQ=r++[q]→r≠[]→Sm l {p with cQ:=r} b f s→Sm l q b f t→CA s t→Sm l p b f (mrg s t)
 |plus1 {p q:A1} {b:List PR} {f:Int} {s:List PR}:p.Op=4→p.cQ=[q]→Sm l q b f s→Sm l p b f s
 |plus {p q:A1} {b:List PR} {f:Int} {s t:List PR}:p.Op=4→p.cQ=[q]→Sm l q b f s→Sm l p (mrg b s) (W0 s+1) t→Sm l p b f (mrg s t)
 |some {p q:A1} {b:List PR} {f:Int} {s:List PR}:5≤p.Op→p.Op≤7→p.cQ=[q]→Sm l q b f s→keepsA l p b s=true→Sm l p b f s
theorem Sm.i0 {l:List A4} {p:A1} {b:List PR} {f:Int} {s:List PR} (h0:p.Op=0):Sm l p b f s↔∃j:Nat,f≤j∧j<l.length∧testE l p b j=true∧s=[⟨p.Var,j⟩]:=by
 constructor
 ·intro h
  cases h with
  |ev e0 e1 e2 e3=>exact⟨_,e1,e2,e3,rfl⟩
  |_=>omega
 rintro⟨j,e1,e2,e3,rfl⟩;exact .ev h0 e1 e2 e3
theorem Sm.i1 {l:List A4} {p q:A1} {b:List PR} {f:Int} {s:List PR} (h0:p.Op=1) (ha:p.cQ=[q]):Sm l p b f s↔Sm l q b f s:=by
 constructor
 ·intro h
  cases h with
  |seq1 e0 ea hs=>rw[ha]at ea;cases ea;exact hs
  |seq e0 ea hs ht=>rw[ha]at ea;cases ea
  |_=>omega
 exact .seq1 h0 ha
theorem Sm.i1c {l:List A4} {p q q':A1} {r:List A1} {b:List PR} {f:Int} {s:List PR} (h0:p.Op=1) (ha:p.cQ=q::q'::r):Sm l p b f s↔∃u t,Sm l q b f u∧Sm l {p with cQ:=q'::r} (mrg b u) (W0 u+1) t∧s=mrg u t:=by
 constructor
 ·intro h
  cases h with
  |seq1 e0 ea hs=>rw[ha]at ea;cases ea
  |seq e0 ea hs ht=>rw[ha]at ea;cases ea;exact⟨_,_,hs,ht,rfl⟩
  |_=>omega
 rintro⟨u,t,hs,ht,rfl⟩;exact .seq h0 ha hs ht
theorem Sm.i2 {l:List A4} {p:A1} {b:List PR} {f:Int} {s:List PR} (h0:p.Op=2):Sm l p b f s↔∃q∈p.cQ,Sm l q b f s:=by
 constructor
 ·intro h
  cases h with
  |alt e0 ea hs=>exact⟨_,ea,hs⟩
  |_=>omega
 rintro⟨q,ha,hs⟩;exact .alt h0 ha hs
theorem Sm.i3 {l:List A4} {p q:A1} {b:List PR} {f:Int} {s:List PR} (h0:p.Op=3) (ha:p.cQ=[q]):Sm l p b f s↔Sm l q b f s:=by
 constructor
 ·intro h
  cases h with
  |all1 e0 ea hs=>rw[ha]at ea;cases ea;exact hs
  |all e0 ea en hs ht hd=>
   rw[ha]at ea
   exact absurd (List.append_inj_left' (s₁:=[]) ea rfl).symm en
  |_=>omega
 exact .all1 h0 ha
theorem Sm.i3c {l:List A4} {p q:A1} {r:List A1} {b:List PR} {f:Int} {s:List PR} (h0:p.Op=3) (ha:p.cQ=r++[q]) (hr:r≠[]):Sm l p b f s↔∃u t,Sm l {p with cQ:=r} b f u∧Sm l q b f t∧CA u t∧s=mrg u t:=by
 constructor
 ·intro h
  cases h with
  |all1 e0 ea hs=>
   rw[ha]at ea
   exact absurd (List.append_inj_left' (s₂:=[]) ea rfl) hr
  |all e0 ea en hs ht hd=>
   rw[ha]at ea
   have e1:=List.append_inj_left' ea rfl;have e2:=List.append_inj_right' ea rfl;cases e1;cases e2;exact⟨_,_,hs,ht,hd,rfl⟩
  |_=>omega
 rintro⟨u,t,hs,ht,hd,rfl⟩;exact .all h0 ha hr hs ht hd
theorem Sm.i4 {l:List A4} {p q:A1} {b:List PR} {f:Int} {s:List PR} (h0:p.Op=4) (ha:p.cQ=[q]):Sm l p b f s↔Sm l q b f s∨∃u t,Sm l q b f u∧Sm l p (mrg b u) (W0 u+1) t∧s=mrg u t:=by
 constructor
 ·intro h
  cases h with
  |plus1 e0 ea hs=>rw[ha]at ea;cases ea;exact .inl hs
  |plus e0 ea hs ht=>rw[ha]at ea;cases ea;exact .inr ⟨_,_,hs,ht,rfl⟩
  |_=>omega
 rintro(hs|⟨u,t,hs,ht,rfl⟩)
 ·exact .plus1 h0 ha hs
 exact .plus h0 ha hs ht
theorem Sm.i5 {l:List A4} {p q:A1} {b:List PR} {f:Int} {s:List PR} (h0:5≤p.Op) (h1:p.Op≤7) (ha:p.cQ=[q]):Sm l p b f s↔Sm l q b f s∧keepsA l p b s=true:=by
 constructor
 ·intro h
  cases h with
  |some e0 e1 ea hs hk=>rw[ha]at ea;cases ea;exact⟨hs,hk⟩
  |_=>omega
 rintro⟨hs,hk⟩;exact .some h0 h1 ha hs hk
structure OF (l:List A4) (b:List PR) (f:Int):Prop where
 gd:Gd l b
 lt:∀x∈b,x.At<f
 f0:0≤f
 f1:f≤l.length
structure PO (l:List A4) (f:Int) (s:List PR):Prop where
 gd:Gd l s
 ge:∀x∈s,f≤x.At
 ne:s≠[]
theorem OF.apart {l:List A4}{b s:List PR}{f:Int}(h:OF l b f)(r:PO l f s):CA b s:=fun x hx y hy=>by have:=h.lt x hx;have:=r.ge y hy;omega
theorem OF.next {l:List A4}{b s:List PR}{f:Int}(h:OF l b f)(r:PO l f s):OF l (mrg b s) (W0 s+1):=by
 have hl:=r.gd.lst r.ne;refine⟨h.gd.mrg r.gd (h.apart r),fun x hx=>?_,by omega,by omega⟩
 rcases W6.1 hx with hx|hx
 ·obtain⟨y,_,hy,e⟩:=Y7 r.ne;have:=h.lt x hx;have:=r.ge y hy;omega
 have:=Jw r.gd.asc x hx;omega
theorem PO.seq {l:List A4} {s t:List PR} {f:Int} (r:PO l f s) (q:PO l (W0 s+1) t):PO l f (mrg s t)∧CA s t:=by
 have ha:CA s t:=fun x hx y hy=>by have:=Jw r.gd.asc x hx;have:=q.ge y hy;omega
 refine⟨⟨r.gd.mrg q.gd ha,fun x hx=>?_,fun e=>?_⟩,ha⟩
 ·rcases W6.1 hx with hx|hx
  ·exact r.ge x hx
  obtain⟨y,_,hy,e⟩:=Y7 r.ne;have:=r.ge y hy;have:=q.ge x hx;omega
 have h1:=congrArg List.length e
 rw[Pl,List.length_nil]at h1
 have:=List.length_pos_iff.2 r.ne;omega
theorem PO.all {l:List A4}{s t:List PR}{f:Int}(r:PO l f s)(q:PO l f t)(ha:CA s t):PO l f (mrg s t):=by
 refine⟨r.gd.mrg q.gd ha,fun x hx=>(W6.1 hx).elim (r.ge x) (q.ge x),fun e=>?_⟩;have h1:=congrArg List.length e
 rw[Pl,List.length_nil]at h1
 have:=List.length_pos_iff.2 r.ne;omega
theorem Sm.res {l:List A4} {p:A1} {b:List PR} {f:Int} {s:List PR} (h:Sm l p b f s):Ke p→OF l b f→PO l f s:=by
 induction h with
 |@ev p b f j h0 hf hj ht=>
  intro hw ho;refine⟨⟨fun x hx=>?_,List.pairwise_singleton _ _⟩,fun x hx=>?_,by simp⟩
  ·rw[List.mem_singleton.1 hx];exact⟨hw.self.var h0,by show 0≤(j:Int)∧(j:Int)<l.length;omega⟩
  rw[List.mem_singleton.1 hx];exact hf
 |seq1 h0 ha _ ih=>intro hw ho;exact ih (hw.arg (by rw[ha];simp)) ho
 |@seq p q q' r b f s t h0 ha _ _ ih1 ih2=>
  intro hw ho;have r1:=ih1 (hw.arg (by rw[ha];simp)) ho;have r2:=ih2 (hw.sub (by omega) (by omega) (fun x hx=>by rw[ha];exact List.mem_cons_of_mem _ hx) (by simp)) (ho.next r1);exact(r1.seq r2).1
 |alt h0 ha _ ih=>intro hw ho;exact ih (hw.arg ha) ho
 |all1 h0 ha _ ih=>intro hw ho;exact ih (hw.arg (by rw[ha];simp)) ho
 |@all p q r b f s t h0 ha hn _ _ hd ih1 ih2=>
  intro hw ho;exact(ih1 (hw.sub (by omega) (by omega) (fun x hx=>by rw[ha];simp[hx]) hn) ho).all (ih2 (hw.arg (by rw[ha];simp)) ho) hd
 |plus1 h0 ha _ ih=>intro hw ho;exact ih (hw.arg (by rw[ha];simp)) ho
 |@plus p q b f s t h0 ha _ _ ih1 ih2=>
  intro hw ho;have r1:=ih1 (hw.arg (by rw[ha];simp)) ho;exact(r1.seq (ih2 hw (ho.next r1))).1
 |some h0 h1 ha _ _ ih=>intro hw ho;exact ih (hw.arg (by rw[ha];simp)) ho
def Vs (p:A1)(v:Int):Prop:=∃y∈p.pre,y.Op=0∧y.Var=v
theorem Vs.arg {p q:A1}{v:Int}(hq:q∈p.cQ)(h:Vs q v):Vs p v:=by
 obtain⟨y,hy,h⟩:=h;exact⟨y,by rw[A1.pre_eq];exact List.mem_cons_of_mem _ (Q6.2 ⟨q,hq,hy⟩),h⟩
theorem Vs.sub {p:A1}{r:List A1}{v:Int}(h0:p.Op≠0)(hr:∀q∈r,q∈p.cQ)(h:Vs {p with cQ:=r} v):Vs p v:=by
 obtain⟨y,hy,h1,h2⟩:=h
 rw[A1.pre_eq]at hy
 rcases List.mem_cons.1 hy with rfl|hy
 ·exact absurd h1 h0
 obtain⟨q,hq,hy⟩:=Q6.1 hy;exact Vs.arg (hr q hq) ⟨y,hy,h1,h2⟩
theorem Sm.vars {l:List A4} {p:A1} {b:List PR} {f:Int} {s:List PR} (h:Sm l p b f s):∀x∈s,Vs p x.Var:=by
 induction h with
 |@ev p b f j h0 hf hj ht=>intro x hx;rw[List.mem_singleton.1 hx];exact⟨p,Cd p,h0,rfl⟩
 |seq1 h0 ha _ ih=>intro x hx;exact Vs.arg (by rw[ha];simp) (ih x hx)
 |@seq p q q' r b f s t h0 ha _ _ ih1 ih2=>
  intro x hx
  rcases W6.1 hx with hx|hx
  ·exact Vs.arg (by rw[ha];simp) (ih1 x hx)
  exact Vs.sub (by omega) (fun x hx=>by rw[ha];exact List.mem_cons_of_mem _ hx) (ih2 x hx)
 |alt h0 ha _ ih=>intro x hx;exact Vs.arg ha (ih x hx)
 |all1 h0 ha _ ih=>intro x hx;exact Vs.arg (by rw[ha];simp) (ih x hx)
 |@all p q r b f s t h0 ha hn _ _ hd ih1 ih2=>
  intro x hx
  rcases W6.1 hx with hx|hx
  ·exact Vs.sub (by omega) (fun x hx=>by rw[ha];simp[hx]) (ih1 x hx)
  exact Vs.arg (by rw[ha];simp) (ih2 x hx)
 |plus1 h0 ha _ ih=>intro x hx;exact Vs.arg (by rw[ha];simp) (ih x hx)
 |@plus p q b f s t h0 ha _ _ ih1 ih2=>
  intro x hx
  rcases W6.1 hx with hx|hx
  ·exact Vs.arg (by rw[ha];simp) (ih1 x hx)
  exact ih2 x hx
 |some h0 h1 ha _ _ ih=>intro x hx;exact Vs.arg (by rw[ha];simp) (ih x hx)
end
end Go.Ab
namespace Go.Ab
open Classical
noncomputable section
def evs (p:A1):Nat:=p.pre.countP fun y=>decide (y.Op=0)
def AU (p:A1):Prop:=∀y∈p.pre,y.Op≠4
theorem FU (p:A1):evs p=(if p.Op=0 then 1 else 0)+(A1.pres p.cQ).countP fun y=>decide (y.Op=0):=by
 unfold evs;rw[A1.pre_eq,List.countP_cons]
 by_cases h:p.Op=0<;>simp[h]<;>omega
theorem Lj (p:A1)(r:List A1):evs {p with cQ:=r}=(if p.Op=0 then 1 else 0)+(A1.pres r).countP fun y=>decide (y.Op=0):=FU _
theorem KH {q:A1}:∀{l:List A1},q∈l→evs q≤(A1.pres l).countP fun y=>decide (y.Op=0)
 |a::l,h=>by
  simp only[A1.pres,List.countP_append]
  rcases List.mem_cons.1 h with rfl|h
  ·exact Nat.le_add_right _ _
  have:=KH h;unfold evs at *;omega
theorem HB {p q:A1}(h:q∈p.cQ):evs q≤evs p:=by rw[FU p];have:=KH h;omega
theorem AU.arg {p q:A1}(h:AU p)(hq:q∈p.cQ):AU q:=fun y hy=>h y (by rw[A1.pre_eq];exact List.mem_cons_of_mem _ (Q6.2 ⟨q,hq,hy⟩))
theorem AU.sub {p:A1}{r:List A1}(h:AU p)(hr:∀q∈r,q∈p.cQ):AU {p with cQ:=r}:=by
 intro y hy
 rw[A1.pre_eq]at hy
 rcases List.mem_cons.1 hy with rfl|hy
 ·exact h p (Cd p)
 obtain⟨q,hq,hy⟩:=Q6.1 hy;exact h.arg (hr q hq) y hy
def NB (n:Nat)(p:A1):Prop:=(evs p+1) ^ n≤1500∨(AU p∧2≤n∧n ^ evs p≤1500)
theorem NB.mono {n:Nat}{p q:A1}(h:NB n p)(h1:evs q≤evs p)(h2:AU p→AU q):NB n q:=by
 rcases h with h|⟨a,b,c⟩
 ·exact .inl (Nat.le_trans (Nat.pow_le_pow_left (by omega) n) h)
 exact .inr ⟨h2 a,b,Nat.le_trans (Nat.pow_le_pow_right (by omega) h1) c⟩
theorem NB.arg {n:Nat}{p q:A1}(h:NB n p)(hq:q∈p.cQ):NB n q:=h.mono (HB hq) fun k=>k.arg hq
theorem NB.tail {n:Nat}{p q:A1}{r:List A1}(h:NB n p)(ha:p.cQ=q::r):NB n {p with cQ:=r}:=by
 refine h.mono ?_ fun k=>k.sub fun x hx=>by rw[ha];exact List.mem_cons_of_mem _ hx
 rw[Lj,FU,ha];simp only[A1.pres,List.countP_append];omega
theorem Dk :∀(r m:List A1),A1.pres (r++m)=A1.pres r++A1.pres m
 |[],m=>by simp[A1.pres]
 |a::r,m=>by simp[A1.pres,Dk r m]
def Hb (V:List Int):Nat→Int→List (List PR)
 |0,_=>[[]]
 |m+1,k=>Hb V m (k+1)++V.flatMap fun v=>(Hb V m (k+1)).map fun s=>⟨v,k⟩::s
theorem JZ (V:List Int):∀(m:Nat) (k:Int),(Hb V m k).length=(V.length+1) ^ m
 |0,_=>rfl
 | m+1,k=>by
  have ih:=JZ V m (k+1)
  have h:(V.flatMap fun v=>(Hb V m (k+1)).map fun s=>(⟨v,k⟩:PR)::s).length=V.length*(V.length+1) ^ m:=by
   clear ih;generalize hE:Hb V m (k+1)=E
   have hl:E.length=(V.length+1) ^ m:=by rw[←hE];exact JZ V m (k+1)
   rw[←hl];clear hl hE
   induction V with
   |nil=>simp
   |cons v V ih=>rw[List.flatMap_cons,List.length_append,ih,List.length_map,List.length_cons,Nat.succ_mul];omega
  rw[Hb,List.length_append,ih,h,Nat.pow_succ];rw[Nat.mul_comm _ (V.length+1),Nat.succ_mul];omega
theorem HC (V:List Int):∀(m:Nat) (k:Int) (s:List PR),Vd s→(∀x∈s,k≤x.At∧x.At<k+m)→(∀x∈s,x.Var∈V)→s∈Hb V m k
 |0,k,[],_,_,_=>by simp[Hb]
 |0,k,x::s,_,h,_=>by have:=h x (by simp);omega
 |m+1,k,[],ha,_,_=>by
  rw[Hb];exact List.mem_append_left _ (HC V m (k+1) [] ha (by simp) (by simp))
 | m+1,k,x::s,ha,h,hv=>by
  rw[Hb];have ha':=ha
  unfold Vd at ha
  rw[List.pairwise_cons]at ha
  have hx:=h x (by simp)
  by_cases e:x.At=k
  ·refine List.mem_append_right _ (List.mem_flatMap.2 ⟨x.Var,hv x (by simp),List.mem_map.2 ⟨s,HC V m (k+1) s ha.2 (fun y hy=>?_) (fun y hy=>hv y (by simp[hy])),?_⟩⟩)
   ·have:=ha.1 y hy;have:=h y (by simp[hy]);omega
   rw[←e]
  refine List.mem_append_left _ (HC V m (k+1) (x::s) ha' (fun y hy=>?_) hv);have:=h y hy
  rcases List.mem_cons.1 hy with rfl|hy
  ·omega
  have:=ha.1 y hy;omega
def TY (p:A1):List Int:=(p.pre.filter fun y=>decide (y.Op=0)).map (·.Var)
theorem Vg (p:A1):(TY p).length=evs p:=by unfold TY evs;rw[List.length_map,List.countP_eq_length_filter]
theorem Vs.mem {p:A1}{v:Int}(h:Vs p v):v∈TY p:=by
 obtain⟨y,hy,h0,h1⟩:=h;exact List.mem_map.2 ⟨y,List.mem_filter.2 ⟨hy,by simpa using h0⟩,h1⟩
theorem Ar0 {l:List A4} {p:A1} {L:List (List PR)} (hn:L.Nodup) (h:∀s∈L,Gd l s∧∀x∈s,Vs p x.Var):L.length≤(evs p+1) ^ l.length:=by
 have:=List.Nodup.length_le_of_subset hn (l₂:=Hb (TY p) l.length 0) fun s hs=>by
  obtain⟨g,hv⟩:=h s hs;exact HC _ _ _ s g.asc (fun x hx=>by have:=(g.wf x hx).2;omega) fun x hx=>(hv x hx).mem
 rwa[JZ,Vg]at this
theorem Ul {α β:Type}(A B:List α)(f:α→α→β):(A.flatMap fun a=>B.map (f a)).length=A.length*B.length:=by
 induction A with
 |nil=>simp
 |cons a A ih=>rw[List.flatMap_cons,List.length_append,ih,List.length_map,List.length_cons,Nat.succ_mul];omega
theorem Um :∀(n:Nat) (p:A1),p.pre.length≤n→Ke p→1≤evs p
 |0,p,h,_=>by rw[A1.pre_eq]at h;simp at h
 | n+1,p,h,hw=>by
  by_cases h0:p.Op=0
  ·rw[FU,if_pos h0];omega
  have hne:∃q,q∈p.cQ:=by
   by_cases h3:p.Op≤3
   ·exact List.exists_mem_of_ne_nil _ (hw.self.a1 (by have:=hw.self.op;omega) h3)
   obtain⟨q,hq⟩:=hw.self.a2 (by omega);exact⟨q,by rw[hq];simp⟩
  obtain⟨q,hq⟩:=hne;have:=Um n q (by have:=P2 hq;omega) (hw.arg hq);have:=HB hq;omega
theorem RV {x y:Nat} (hx:2≤x) (hy:2≤y):x+y≤x*y:=by
 obtain⟨a,rfl⟩:∃a,x=a+2:=⟨x - 2,by omega⟩;obtain⟨b,rfl⟩:∃b,y=b+2:=⟨y - 2,by omega⟩
 have:(a+2)*(b+2)=a*b+2*a+2*b+4:=by
  rw[Nat.mul_add,Nat.add_mul,Nat.add_mul];omega
 omega
theorem KW {p q:A1}{r:List A1}(ha:p.cQ=q::r):({p with cQ:=r}:A1).pre.length<p.pre.length:=by
 have h1:=A1.pre_eq ({p with cQ:=r}:A1);have h2:=A1.pre_eq p;rw[h1,h2,ha];have:=A1.pre_eq q;simp only[A1.pres,List.length_cons,List.length_append,this];omega
theorem XL {p q:A1}{r:List A1}(ha:p.cQ=r++[q]):({p with cQ:=r}:A1).pre.length<p.pre.length:=by
 have h1:=A1.pre_eq ({p with cQ:=r}:A1);have h2:=A1.pre_eq p;rw[h1,h2,ha,Dk];have:=A1.pre_eq q;simp only[A1.pres,List.length_cons,List.length_append,this];omega
theorem HX {l:List A4} (hl:2≤l.length):∀(n:Nat) (p:A1),p.pre.length≤n→Ke p→AU p→∃C:List (List PR),C.length≤l.length ^ evs p∧∀b f s,Sm l p b f s→s∈C
 |0,p,h,_,_=>by rw[A1.pre_eq]at h;simp at h
 | n +1,p,h,hw,hp=>by
  have hop:=hw.self.op;have hnp:=hp p (Cd p)
  have hpow:∀q:A1,Ke q→2≤l.length ^ evs q:=fun q hq=>by
   have h1:=Um _ q (Nat.le_refl _) hq;have:=Nat.pow_le_pow_right (n:=l.length) (by omega) h1
   rw[Nat.pow_one]at this;omega
  by_cases h0:p.Op=0
  ·refine⟨(List.range l.length).map fun(j:Nat)=>[⟨p.Var,(j:Int)⟩],?_,fun b f s hs=>?_⟩
   ·rw[FU,if_pos h0,hw.self.a0 h0,List.length_map,List.length_range];simp[A1.pres]
   obtain⟨j,_,hj,_,rfl⟩:=(Sm.i0 h0).1 hs;exact List.mem_map.2 ⟨j,List.mem_range.2 hj,rfl⟩
  by_cases h1:p.Op=1
  ·match ha:p.cQ with
   |[]=>exact absurd ha (hw.self.a1 (by omega) (by omega))
   |[q]=>
    have hq:q∈p.cQ:=by rw[ha];simp
    obtain⟨C,h2,h3⟩:=HX hl n q (by have:=P2 hq;omega) (hw.arg hq) (hp.arg hq);refine⟨C,Nat.le_trans h2 (Nat.pow_le_pow_right (by omega) (HB hq)),fun b f s hs=>?_⟩;exact h3 _ _ _ ((Sm.i1 h1 ha).1 hs)
   | q::q'::r=>
    have hq:q∈p.cQ:=by rw[ha];simp
    obtain⟨C,h2,h3⟩:=HX hl n q (by have:=P2 hq;omega) (hw.arg hq) (hp.arg hq);obtain⟨D,h4,h5⟩:=HX hl n {p with cQ:=q'::r} (by have:=KW ha;omega) (hw.sub (by omega) (by omega) (fun x hx=>by rw[ha];exact List.mem_cons_of_mem _ hx) (by simp)) (hp.sub fun x hx=>by rw[ha];exact List.mem_cons_of_mem _ hx);refine⟨C.flatMap fun s=>D.map (mrg s),?_,fun b f s hs=>?_⟩
    ·rw[Ul,show evs p=evs q+evs {p with cQ:=q'::r}from ?_,Nat.pow_add]
     ·exact Nat.mul_le_mul h2 h4
     rw[Lj,FU p,ha,if_neg h0];rw[A1.pres,List.countP_append];unfold evs;omega
    obtain⟨u,t,hu,ht,rfl⟩:=(Sm.i1c h1 ha).1 hs;exact List.mem_flatMap.2 ⟨_,h3 _ _ _ hu,List.mem_map.2 ⟨_,h5 _ _ _ ht,rfl⟩⟩
  by_cases h2':p.Op=2
  ·match ha:p.cQ with
   |[]=>exact absurd ha (hw.self.a1 (by omega) (by omega))
   |[q]=>
    have hq:q∈p.cQ:=by rw[ha];simp
    obtain⟨C,h2,h3⟩:=HX hl n q (by have:=P2 hq;omega) (hw.arg hq) (hp.arg hq);refine⟨C,Nat.le_trans h2 (Nat.pow_le_pow_right (by omega) (HB hq)),fun b f s hs=>?_⟩;obtain⟨q',ha',hs⟩:=(Sm.i2 h2').1 hs
    rw[ha]at ha'
    rw[List.mem_singleton.1 ha']at hs
    exact h3 _ _ _ hs
   | q::q'::r=>
    have hq:q∈p.cQ:=by rw[ha];simp
    have hws:Ke {p with cQ:=q'::r}:=hw.sub (by omega) (by omega) (fun x hx=>by rw[ha];exact List.mem_cons_of_mem _ hx) (by simp);obtain⟨C,h2,h3⟩:=HX hl n q (by have:=P2 hq;omega) (hw.arg hq) (hp.arg hq);obtain⟨D,h4,h5⟩:=HX hl n {p with cQ:=q'::r} (by have:=KW ha;omega) hws (hp.sub fun x hx=>by rw[ha];exact List.mem_cons_of_mem _ hx);refine⟨C++D,?_,fun b f s hs=>?_⟩
    ·rw[List.length_append,show evs p=evs q+evs {p with cQ:=q'::r}from ?_,Nat.pow_add]
     ·have e1:=hpow q (hw.arg hq);have e2:=hpow _ hws;have:=RV e1 e2;omega
     rw[Lj,FU p,ha,if_neg h0];rw[A1.pres,List.countP_append];unfold evs;omega
    obtain⟨x,ha',hs⟩:=(Sm.i2 h2').1 hs
    rw[ha]at ha'
    rcases List.mem_cons.1 ha' with e|hm
    ·rw[e]at hs;exact List.mem_append_left _ (h3 _ _ _ hs)
    exact List.mem_append_right _ (h5 _ _ _ (Sm.alt (p:={p with cQ:=q'::r}) h2' hm hs))
  by_cases h3':p.Op=3
  ·rcases List.eq_nil_or_concat p.cQ with ha|⟨r,q,ha⟩
   ·exact absurd ha (hw.self.a1 (by omega) (by omega))
   rw[List.concat_eq_append]at ha
   have hq:q∈p.cQ:=by rw[ha];simp
   obtain⟨C,h2,h3⟩:=HX hl n q (by have:=P2 hq;omega) (hw.arg hq) (hp.arg hq)
   by_cases hr:r=[]
   ·subst hr;refine⟨C,Nat.le_trans h2 (Nat.pow_le_pow_right (by omega) (HB hq)),fun b f s hs=>?_⟩;exact h3 _ _ _ ((Sm.i3 h3' ha).1 hs)
   have hws:Ke {p with cQ:=r}:=hw.sub (by omega) (by omega) (fun x hx=>by rw[ha];simp[hx]) hr;obtain⟨D,h4,h5⟩:=HX hl n {p with cQ:=r} (by have:=XL ha;omega) hws (hp.sub fun x hx=>by rw[ha];simp[hx]);refine⟨D.flatMap fun s=>C.map (mrg s),?_,fun b f s hs=>?_⟩
   ·rw[Ul,show evs p=evs {p with cQ:=r}+evs q from ?_,Nat.pow_add]
    ·exact Nat.mul_le_mul h4 h2
    rw[Lj,FU p,ha,if_neg h0,Dk,List.countP_append];simp only[A1.pres,append_nil];unfold evs;omega
   obtain⟨u,t,hu,ht,_,rfl⟩:=(Sm.i3c h3' ha hr).1 hs;exact List.mem_flatMap.2 ⟨_,h5 _ _ _ hu,List.mem_map.2 ⟨_,h3 _ _ _ ht,rfl⟩⟩
  obtain⟨q,ha⟩:=hw.self.a2 (by omega)
  have hq:q∈p.cQ:=by rw[ha];simp
  obtain⟨C,h2,h3⟩:=HX hl n q (by have:=P2 hq;omega) (hw.arg hq) (hp.arg hq);refine⟨C,Nat.le_trans h2 (Nat.pow_le_pow_right (by omega) (HB hq)),fun b f s hs=>?_⟩;exact h3 _ _ _ ((Sm.i5 (by omega) hop.2 ha).1 hs).1
theorem card {l:List A4} {p:A1} (hw:Ke p) (hs:NB l.length p) {L:List (List PR)} (hn:L.Nodup) (h:∀s∈L,Gd l s∧∃b f,Sm l p b f s):L.length≤1500:=by
 rcases hs with hs|⟨h1,h2,h3⟩
 ·refine Nat.le_trans (Ar0 hn fun s m=>?_) hs;obtain⟨g,b,f,hm⟩:=h s m;exact⟨g,hm.vars⟩
 obtain⟨C,h4,h5⟩:=HX h2 _ p (Nat.le_refl _) hw h1
 have:=List.Nodup.length_le_of_subset hn (l₂:=C) fun s m=>by
  obtain⟨g,b,f,hm⟩:=h s m;exact h5 b f s hm
 omega
end
end Go.Ab
namespace Go.Ab
open Classical
noncomputable section
theorem Fg {β σ τ:Type}{m:Option (List β×σ)}{f:σ→Option (List β×τ)}{w w':List β}{x:σ}{o:τ}(h1:m=some (w,x))(h2:f x=some (w',o)):N3 m f=some (w++w',o):=by
 unfold N3;rw[h1];simp only[Option.bind_some,h2]
theorem LW {α β R:Type} {body:Unit→α→Option (List β×(Unit ⊕ R))} {Q:α→β→Prop}:∀{L:List α},(∀x∈L,∃w,body () x=some (w,.inl ())∧∀s,s∈w↔Q x s)→∃W,Bl body L ()=some (W,.inl ())∧∀s,s∈W↔∃x∈L,Q x s
 |[],_=>⟨[],rfl,by simp⟩
 |x::L,h=>by
  obtain⟨w,h1,h2⟩:=h x (by simp);obtain⟨W,h3,h4⟩:=LW (L:=L) fun y hy=>h y (by simp[hy]);refine⟨w++W,by simp only[Bl,h1,h3],fun s=>?_⟩;rw[List.mem_append,h2,h4];simp
theorem Oa {α β A:Type} {L:List α} {N:Nat} (hN:L.length<N) {step:Int→Option (List β×(Int ⊕ A))} {u:A} {Q:α→β→Prop}
 (hs:∀(i:Nat) x,L[i]? =some x→(i:Int)<L.length→x∈L→∃w,step (i:Int)=some (w,.inl ((i:Int)+1))∧∀s,s∈w↔Q x s) (he:step (L.length:Int)=some ([],.inr u)):∃W,V4 step N 0=some (W,u)∧∀s,s∈W↔∃x∈L,Q x s:=by
 have key:∀(k i N:Nat),i+k=L.length→k<N→∃W,V4 step N (i:Int)=some (W,u)∧∀s,s∈W↔∃x∈L.drop i,Q x s:=by
  intro k
  induction k with
  |zero=>
   intro i N hi hN;obtain⟨N,rfl⟩:∃m,N=m+1:=⟨N - 1,by omega⟩;rw[List.drop_eq_nil_of_le (by omega),show(i:Int)=L.length by omega];exact⟨[],by simp[V4,he],by simp⟩
  |succ k ih=>
   intro i N hi hN;obtain⟨N,rfl⟩:∃m,N=m+1:=⟨N - 1,by omega⟩
   have hlt:i<L.length:=by omega
   obtain⟨w,h1,h2⟩:=hs i L[i] (by simp[hlt]) (by omega) (List.getElem_mem hlt);obtain⟨W,h3,h4⟩:=ih (i+1) N (by omega) (by omega);rw[List.drop_eq_getElem_cons hlt];refine⟨w++W,?_,fun s=>?_⟩
   ·simp only[V4,h1];rw[show((i:Int)+1)=((i+1:Nat):Int) by omega,h3]
   rw[List.mem_append,h2,h4];simp only[List.mem_cons,or_and_right,exists_or,exists_eq_left]
 simpa using key L.length 0 N (by omega) hN
def Gj (s:List BD):ByteArray:=Qp (Ga (Iz (G2 s)))
theorem YX {a b:List UInt8} (h:Qp (Ga a)=Qp (Ga b)):a=b:=by
 have e0:∀(a:List UInt8) (acc:ByteArray),((Ga a).foldl (fun r n=>r.push (UInt8.ofNat n.toNat)) acc).data.toList=acc.data.toList++a:=fun a=>by
  induction a with
  |nil=>intro acc;simp[Ga]
  |cons x a ih=>
   intro acc
   simp only[Ga,List.map_cons,List.foldl_cons]at ih ⊢
   rw[ih];simp
 have e:∀a:List UInt8,(Qp (Ga a)).data.toList=a:=fun a=>by
  have:=e0 a ByteArray.empty
  simpa[Qp]using this
 rw[←e a,←e b,h]
theorem Wi {l:List A4}(hl:l.length≤10){a b:List BD}(ha:Va l (G2 a))(hb:Va l (G2 b))(h:Gj a=Gj b):a=b:=Hr (LK hl ha hb (YX h))
theorem Vo {N:Nat}(hN:40000000≤N){l:List A4}(hl:l.length≤10){s:List BD}(g:Gd l (G2 s)):M4 N s=some (Gj s):=by
 have:=g.len
 rw[List.length_map]at this
 rw[ZE hN hl (by omega) g.wf];rfl
def Iy (out:List (List BD)):List (ByteArray×Bool):=out.map fun s=>(Gj s,true)
theorem Wp (out:List (List BD)) (k:ByteArray):∃b,ID (Iy out) k false=some (decide (∃s∈out,Gj s=k),b):=by
 unfold ID Iy
 induction out with
 |nil=>exact⟨false,by simp⟩
 |cons x out ih=>
  obtain⟨b,ih⟩:=ih;rw[List.map_cons,List.find?_cons]
  by_cases h:Gj x=k
  ·exact⟨true,by simp[h]⟩
  refine⟨b,?_⟩;simp only[h,decide_false];rw[ih];simp[h]
theorem VH {out:List (List BD)}{s:List BD}(h:¬∃t∈out,Gj t=Gj s):HI (Iy out) (Gj s) true=some (Iy (out++[s])):=by
 unfold HI;rw[if_neg]
 ·simp[Iy]
 intro e
 rw[List.any_eq_true]at e
 obtain⟨p,hp,he⟩:=e
 simp only[Iy,List.mem_map]at hp
 obtain⟨t,ht,rfl⟩:=hp;exact h ⟨t,ht,by simpa using he⟩
theorem QP {N:Nat} (hN:40000000≤N) {l:List A4} (hl:l.length≤10) {R:List (List BD)} (hR:∀s∈R,Gd l (G2 s)) (hc:∀L:List (List BD),L.Nodup→(∀s∈L,s∈R)→L.length≤4096):
 ∃ m out,H7 (fun(s11:(List (ByteArray×Bool))×(List (List A0))) (y10:(List A0))=>
  (
   (M4 N y10).bind fun r17=>
   (ID s11.1 r17 (false:Bool)).bind fun r18=>
   if r18.1=true then
    some (.inl (s11.1,s11.2))
   else
    (HI s11.1 r17 true).bind fun l20=>
    (S1 s11.2 ([y10])).bind fun l22=>
    ((
     if cmp .gtr (Ar.len l22) 4096=true then
      none
     else
      some ()
    ):Option (Unit)).bind fun s23=>
    if(⟨l,false⟩:A8).full=true then
     some (.inr (l20,l22))
    else
     some (.inl (l20,l22))
   :Option (((List (ByteArray×Bool))×(List (List A0))) ⊕ (((List (ByteArray×Bool))×(List (List A0))))))
  ) R (([]:List (ByteArray×Bool)),[])=some (.inl (m,out))∧out.Nodup∧∀s,s∈out↔s∈R:=by
 obtain⟨s',h1,p,out,h2,h3,h4,h5⟩:=Y5 (R:=(List (ByteArray×Bool))×(List (List A0))) (step:=fun(s11:(List (ByteArray×Bool))×(List (List A0))) (y10:(List A0))=>
  (
   (M4 N y10).bind fun r17=>
   (ID s11.1 r17 (false:Bool)).bind fun r18=>
   if r18.1=true then
    some (.inl (s11.1,s11.2))
   else
    (HI s11.1 r17 true).bind fun l20=>
    (S1 s11.2 ([y10])).bind fun l22=>
    ((
     if cmp .gtr (Ar.len l22) 4096=true then
      none
     else
      some ()
    ):Option (Unit)).bind fun s23=>
    if(⟨l,false⟩:A8).full=true then
     some (.inr (l20,l22))
    else
     some (.inl (l20,l22))
   :Option (((List (ByteArray×Bool))×(List (List A0))) ⊕ (((List (ByteArray×Bool))×(List (List A0)))))))
  (fun r s=>∃p out,p++r=R∧s=(Iy out,out)∧out.Nodup∧∀x,x∈out↔x∈p) (fun y r s ⟨p,out,e1,e2,e3,e4⟩=>by
   subst e2
   have hy:y∈R:=by rw[←e1];simp
   have hout:∀x∈out,x∈R:=fun x hx=>by rw[←e1];simp[(e4 x).1 hx]
   rw[Vo hN hl (hR y hy)];simp only[Option.bind_some];obtain⟨b,hb⟩:=Wp out (Gj y);rw[hb];simp only[Option.bind_some];have hiff:(∃s∈out,Gj s=Gj y)↔y∈out:=⟨fun⟨s,hs,e⟩=>by rw[←Wi hl (hR s (hout s hs)).wf (hR y hy).wf e];exact hs,fun h=>⟨y,h,rfl⟩⟩
   by_cases hm:y∈out
   ·rw[if_pos (decide_eq_true (hiff.2 hm))];refine⟨_,rfl,p++[y],out,by simpa using e1,rfl,e3,fun x=>?_⟩;rw[e4,List.mem_append,List.mem_singleton]
    constructor
    ·exact .inl
    rintro(h|rfl)
    ·exact h
    exact(e4 _).1 hm
   have hn:(out++[y]).Nodup:=by
    rw[List.nodup_append];exact⟨e3,by simp,fun a ha b hb'=>by rw[List.mem_singleton.1 hb'];intro e;exact hm (e▸ha)⟩
   have hlen:(out++[y]).length≤4096:=hc _ hn fun x hx=>by
    rcases List.mem_append.1 hx with h|h
    ·exact hout x h
    rw[List.mem_singleton.1 h];exact hy
   rw[if_neg (by simpa using fun x hx e=>hm (hiff.1 ⟨x,hx,e⟩)),VH (fun e=>hm (hiff.1 e))];simp only[Option.bind_some];rw[Ad (by simp at hlen ⊢;omega)];simp only[Option.bind_some];rw[if_neg (V5 (by rw[B3];omega))];refine⟨_,rfl,p++[y],out++[y],by simpa using e1,rfl,hn,fun x=>?_⟩
   rw[List.mem_append,List.mem_append,e4]) (l:=R) (s:=([],[])) ⟨[],[],rfl,rfl,by simp,by simp⟩
 subst h3
 rw[append_nil]at h2
 subst h2;exact⟨_,_,h1,h4,h5⟩
def Ei (N n:Nat)(c:A8)(p:A1)(o:List BD)(f:Int):Option (List (List BD)):=
 if p.Op=0 then K0 N c p o f else if p.Op=1 then L7 N n c p o f else if p.Op=2 then L8 N n c p o f else if p.Op=3 then L9 N n c p o f else if p.Op=4 then K9 N n c p o f else E8 N n c p o f
def Zm (N n:Nat)(l:List A4)(p:A1)(o:List BD)(f:Int):Prop:=∃L,C3 N n ⟨l,false⟩ p o f=some L∧L.Nodup∧∀s,s∈L↔Sm l p (G2 o) f (G2 s)
theorem Fc {l:List A4} {p:A1} (hw:Ke p) (hs:NB l.length p) {b:List PR} {f:Int} (ho:OF l b f) {L:List (List BD)} (hn:L.Nodup) (h:∀s∈L,Sm l p b f (G2 s)):L.length≤1500:=by
 have:=card hw hs (L:=L.map G2) (by
  rw[List.Nodup,List.pairwise_map]
  exact hn.imp fun hne e=>hne (Hr e)) fun s hs=>by
   obtain⟨t,ht,rfl⟩:=List.mem_map.1 hs;exact⟨((h t ht).res hw ho).gd,b,f,h t ht⟩
 rwa[List.length_map]at this
theorem Ai2 {N:Nat} (hN:40000000≤N) {l:List A4} (hl:l.length≤10) {p:A1} (hw:Ke p) (hs:NB l.length p) {o:List BD} {f:Int} (ho:OF l (G2 o) f) {n:Nat} {R:List (List BD)} (h:Ei N n ⟨l,false⟩ p o f=some R) (hm:∀s,s∈R↔Sm l p (G2 o) f (G2 s)):Zm N (n+1) l p o f:=by
 obtain⟨m,out,h1,h2,h3⟩:=QP hN hl (R:=R) (fun s hs=>(((hm s).1 hs).res hw ho).gd) fun L hL hsub=>by have:=Fc hw hs ho hL fun s hs=>(hm s).1 (hsub s hs);omega
 refine⟨out,?_,h2,fun s=>(h3 s).trans (hm s)⟩;have hop:=hw.self.op;unfold C3 AA
 have key:∀{F:List (List BD)→Option (List (List BD))},((B9 ([fun y1 y2 y3 y4=>K0 N y1 y2 y3 y4,fun y1 y2 y3 y4=>L7 N n y1 y2 y3 y4,fun y1 y2 y3 y4=>L8 N n y1 y2 y3 y4,fun y1 y2 y3 y4=>L9 N n y1 y2 y3 y4,fun y1 y2 y3 y4=>K9 N n y1 y2 y3 y4,fun y1 y2 y3 y4=>E8 N n y1 y2 y3 y4,fun y1 y2 y3 y4=>E8 N n y1 y2 y3 y4,fun y1 y2 y3 y4=>E8 N n y1 y2 y3 y4]:List (A8→A1→(List A0)→Int→Option (List (List A0)))) p.Op).bind fun f7=>(f7 ⟨l,false⟩ p o f).bind F)=F R:=by
  intro F
  have hb:∀{g:A8→A1→(List A0)→Int→Option (List (List A0))} {L:List (A8→A1→(List A0)→Int→Option (List (List A0)))} {i:Int},B9 L i=some g→g ⟨l,false⟩ p o f=some R→((B9 L i).bind fun f7=>(f7 ⟨l,false⟩ p o f).bind F)=F R:=fun e1 e2=>by rw[e1];simp only[Option.bind_some,e2]
  have hc:p.Op=0∨p.Op=1∨p.Op=2∨p.Op=3∨p.Op=4∨p.Op=5∨p.Op=6∨p.Op=7:=by omega
  unfold Ei at h
  rcases hc with e|e|e|e|e|e|e|e<;>(rw[e]at h ⊢;exact hb rfl (by simpa using h))
 simp only[Option.bind_some];rw[key,h1];rfl
end
end Go.Ab
