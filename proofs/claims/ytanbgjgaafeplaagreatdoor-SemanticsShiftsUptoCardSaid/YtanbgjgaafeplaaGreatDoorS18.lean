/- GTV7 GTW0 GTW1 GTW2 GTW3 GTW4 GTW5 GTW6 GTW7 -/
import Derived.Test.YtanbgjgaafeplaaGreatDoorS17
set_option linter.all false
open List (append_nil)
open Nat (add_mul)
open Go.Ab.Ar (ar cmp)
namespace Go.Ab
noncomputable section
end
end Go.Ab
namespace Go.Ab
open Classical
noncomputable section
abbrev BD :=A1
abbrev PR :=K7
def pr (b:BD):PR:=⟨b.cS,b.at_⟩
def Ij (b:PR):BD:=⟨b.Var,b.At⟩
theorem Yi (b:PR):pr (Ij b)=b:=rfl
theorem SD (b:BD):Ij (pr b)=b:=rfl
abbrev F6 (s:List BD):List PR:=s.map pr
theorem N8 (s:List PR):F6 (s.map Ij)=s:=by rw[F6,List.map_map];exact(List.map_congr_left fun x _=>Yi x).trans (List.map_id s)
theorem ZW {a b:BD}(h:pr a=pr b):a=b:=by have:=congrArg Ij h;simpa[SD]using this
theorem GL {a b:List BD}(h:F6 a=F6 b):a=b:=(List.map_inj_right (fun _ _ h=>ZW h)).1 h
def mrg :List PR→List PR→List PR
 |[],b=>b
 |x::a,[]=>x::a
 |x::a,y::b=>if x.At<y.At then x::mrg a (y::b)else y::mrg (x::a) b
 termination_by a b=>a.length+b.length
theorem GT (b:List PR):mrg [] b=b:=by unfold mrg;rfl
theorem It (a:List PR):mrg a []=a:=by cases a<;>(unfold mrg;rfl)
theorem Iu (x y:PR)(a b:List PR):mrg (x::a) (y::b)=if x.At<y.At then x::mrg a (y::b)else y::mrg (x::a) b:=by rw[mrg]
theorem Gm :∀(n:Nat) (a b:List PR),a.length+b.length≤n→(mrg a b).Perm (a++b)
 |_,[],b,_=>by rw[GT];exact .refl _
 |_,x::a,[],_=>by rw[It];simp
 |0,x::a,y::b,h=>by simp at h
 |n+1,x::a,y::b,h=>by
  simp only[List.length_cons]at h
  rw[Iu]
  split
  ·exact(Gm n a (y::b) (by simp;omega)).cons x
  exact((Gm n (x::a) b (by simp;omega)).cons y).trans (List.perm_middle.symm)
theorem V6 {a b:List PR}{x:PR}:x∈mrg a b↔x∈a∨x∈b:=by rw[(Gm _ a b (Nat.le_refl _)).mem_iff,List.mem_append]
theorem NP (a b:List PR):(mrg a b).length=a.length+b.length:=by rw[(Gm _ a b (Nat.le_refl _)).length_eq,List.length_append]
def Vi (a:List PR):Prop:=a.Pairwise fun x y=>x.At<y.At
def BW (a b:List PR):Prop:=∀x∈a,∀y∈b,x.At≠y.At
theorem Ki :∀(n:Nat) {a b:List PR},a.length+b.length≤n→Vi a→Vi b→BW a b→Vi (mrg a b)
 |_,[],b,_,_,hb,_=>by rw[GT];exact hb
 |_,x::a,[],_,ha,_,_=>by rw[It];exact ha
 |0,x::a,y::b,h,_,_,_=>by simp at h
 | n+1,x::a,y::b,h,ha,hb,hd=>by
  simp only[List.length_cons]at h
  unfold Vi at ha hb
  rw[List.pairwise_cons]at ha hb
  rw[Iu];have hxy:=hd x (by simp) y (by simp)
  split
  ·rename_i hlt;refine List.pairwise_cons.2 ⟨fun z hz=>?_,Ki n (by simp;omega) ha.2 (List.pairwise_cons.2 hb) fun u hu v hv=>hd u (by simp[hu]) v hv⟩
   rcases V6.1 hz with hz|hz
   ·exact ha.1 z hz
   rcases List.mem_cons.1 hz with rfl|hz
   ·exact hlt
   have:=hb.1 z hz;omega
  rename_i hlt;refine List.pairwise_cons.2 ⟨fun z hz=>?_,Ki n (by simp;omega) (List.pairwise_cons.2 ha) hb.2 fun u hu v hv=>hd u hu v (by simp[hv])⟩
  rcases V6.1 hz with hz|hz
  ·rcases List.mem_cons.1 hz with rfl|hz
   ·omega
   have:=ha.1 z hz;omega
  exact hb.1 z hz
theorem Kx {α:Type}(x:α)(l:List α):IX (x::l) (some 1) none none=some l:=by
 unfold IX;rw[if_pos (by simp;omega)];simp
def InS (n:Int)(s:List PR):Prop:=∀x∈s,0≤x.At∧x.At<n
theorem DN {a b:Int}(h0: -9223372036854775808≤a - b)(h1:a - b<9223372036854775808):ar .sub .i64 a b=a - b:=Ct h0 h1
theorem Kk {N:Nat} {a b:List BD} {n:Int} (hn:n≤1000000) (hla:a.length≤1000000) (hlb:b.length≤1000000) (ha:Vi (F6 a)) (hb:Vi (F6 b)) (hd:BW (F6 a) (F6 b)) (ia:InS n (F6 a)) (ib:InS n (F6 b)):
 ∃c,K0 N a b=some c∧F6 c=mrg (F6 a) (F6 b):=by
 refine⟨(mrg (F6 a) (F6 b)).map Ij,?_,N8 _⟩;unfold K0
 have h1:Vk 0 (ar .add .i64 (Ar.len a) (Ar.len b)) (⟨0,0⟩:BD)=some []:=by
  rw[B3,B3,C0 (by omega) (by omega)];unfold Vk;rw[if_pos (by omega)];rfl
 rw[h1];simp only[Option.bind_some];rw[W7 (by simp;omega)];simp only[Option.bind_some,List.nil_append];rw[W7 (by omega)];simp only[Option.bind_some];have hm:=Ki _ (Nat.le_refl _) ha hb hd;have hin:∀x∈mrg (F6 a) (F6 b),0≤x.At∧x.At<n:=fun x hx=>(V6.1 hx).elim (ia x) (ib x)
 have hs:FT (fun y1 y2=>AC N y1 y2) (a++b)=some ((mrg (F6 a) (F6 b)).map Ij):=by
  refine Pa ?_ (Bp.2 ⟨?_,?_⟩) (by simp;omega)
  ·have:=(Gm _ (F6 a) (F6 b) (Nat.le_refl _)).map Ij;refine this.trans (List.Perm.of_eq ?_);rw[←List.map_append,List.map_map];exact(List.map_congr_left fun x _=>SD x).trans (List.map_id _)
  ·intro x _
   show(match some (ar .sub .i64 x.at_ x.at_)with|some c=>decide (0≤c)|none=>false)=true
   rw[DN (by omega) (by omega)];simp
  rw[List.pairwise_map];refine List.Pairwise.imp_of_mem (fun{x y} hx hy hlt=>?_) hm;have:=hin x hx;have:=hin y hy
  constructor
  ·show(match some (ar .sub .i64 x.At y.At)with|some c=>decide (c<0)|none=>false)=true
   rw[DN (by omega) (by omega)];simp;omega
  show(match some (ar .sub .i64 y.At x.At)with|some c=>decide (0≤c)|none=>false)=true
  rw[DN (by omega) (by omega)];simp;omega
 rw[hs];rfl
def HQ (s:List PR)(i:Int):Bool:=s.any fun x=>decide (x.At=i)
def Je (a b:List PR):Bool:=a.any fun x=>HQ b x.At
theorem Oc {s:List PR}{i:Int}:HQ s i=true↔∃x∈s,x.At=i:=by simp[HQ]
theorem MG {a b:List PR}:Je a b=false↔BW a b:=by
 unfold Je BW;rw[List.any_eq_false]
 constructor
 ·intro h x hx y hy e;exact h x hx (Oc.2 ⟨y,hy,e.symm⟩)
 intro h x hx hc;obtain⟨y,hy,e⟩:=Oc.1 hc;exact h x hx y hy e.symm
theorem U8 {α:Type}{l:List α}{i:Int}(h:i<l.length):cmp .lss i (Ar.len l)=true:=DW h
theorem X2 {α:Type}{l:List α}:¬cmp .lss (l.length:Int) (Ar.len l)=true:=BJ (Int.lt_irrefl _)
theorem Lo {α A B:Type} {N:Nat} {l:List α} (hl:l.length<N) (hN:l.length<1000000000) {step:Int→Option (Int ⊕ (A ⊕ B))} (P:α→Bool) (u:A) (r:Int→B)
 (hstep:∀(i:Nat) x,l[i]? =some x→(i:Int)<l.length→step i=some (if P x=true then .inr (.inr (r i))else .inl ((i:Int)+1)))
 (hend:step (l.length:Int)=some (.inr (.inl u))):∃i,loopN step N 0=some (if l.any P=true then .inr (r i)else .inl u)∧0≤i:=by
 have key:∀(k i n:Nat),i+k=l.length→k<n→∃j,loopN step n (i:Int)=some (if(l.drop i).any P=true then .inr (r j)else .inl u)∧0≤j:=by
  intro k
  induction k with
  |zero=>
   intro i n hi hn;obtain⟨n,rfl⟩:∃m,n=m+1:=⟨n - 1,by omega⟩;refine⟨0,?_,by omega⟩;rw[List.drop_eq_nil_of_le (by omega),show(i:Int)=l.length by omega];simp[loopN,hend]
  | succ k ih=>
   intro i n hi hn;obtain⟨n,rfl⟩:∃m,n=m+1:=⟨n - 1,by omega⟩
   have hlt:i<l.length:=by omega
   obtain⟨j,h,hj⟩:=ih (i+1) n (by omega) (by omega);rw[List.drop_eq_getElem_cons hlt,List.any_cons];have hs:=hstep i l[i] (by simp[hlt]) (by omega)
   by_cases hp:P l[i]=true
   ·refine⟨i,?_,by omega⟩
    rw[if_pos hp]at hs
    simp[loopN,hs,hp]
   refine⟨j,?_,hj⟩
   rw[if_neg hp]at hs
   simp only[loopN,hs];rw[show((i:Int)+1)=((i+1:Nat):Int) by omega,h];simp[hp]
 obtain⟨j,h,hj⟩:=key l.length 0 N (by omega) hl;exact⟨j,by simpa using h,hj⟩
theorem GU {α:Type}{N:Nat}{l:List α}{step:Int→Option (Int ⊕ (Unit ⊕ Unit))}(P:α→Bool)(hl:l.length<N)(hN:l.length<1000000000)
 (hstep:∀(i:Nat) x,l[i]? =some x→(i:Int)<l.length→step i=some (if P x=true then .inr (.inr ())else .inl ((i:Int)+1)))
 (hend:step (l.length:Int)=some (.inr (.inl ()))):loopN step N 0=some (if l.any P=true then .inr ()else .inl ()):=by
 obtain⟨_,h,_⟩:=Lo hl hN P () (fun _=>()) hstep hend;exact h
theorem Jg {α S σ R:Type} {L:List α} {N:Nat} {step:S→Option (S ⊕ R)} (mk:σ→Int→S) (g:σ→α→σ) (fin:σ→R) (Inv:Nat→σ→Prop) {s0:σ} (hN:L.length<N) (hl:L.length<1000000000) (h0:Inv 0 s0)
 (hs:∀s (i:Nat) x,L[i]? =some x→(i:Int)<L.length→x∈L→ar .add .i64 (i:Int) 1=i+1→Inv i s→step (mk s i)=some (.inl (mk (g s x) ((i:Int)+1)))∧Inv (i+1) (g s x)) (he:∀s,step (mk s L.length)=some (.inr (fin s))):loopN step N (mk s0 0)=some (fin (L.foldl g s0))∧Inv L.length (L.foldl g s0):=by
 have key:∀(k i N:Nat) (s:σ),i+k=L.length→k<N→Inv i s→loopN step N (mk s (i:Int))=some (fin ((L.drop i).foldl g s))∧Inv L.length ((L.drop i).foldl g s):=by
  intro k
  induction k with
  |zero=>
   intro i N s hi hN ho;obtain⟨N,rfl⟩:∃m,N=m+1:=⟨N - 1,by omega⟩
   have e:i=L.length:=by omega
   subst e;rw[List.drop_length];exact⟨by simp[loopN,he],ho⟩
  |succ k ih=>
   intro i N s hi hN ho;obtain⟨N,rfl⟩:∃m,N=m+1:=⟨N - 1,by omega⟩
   have hlt:i<L.length:=by omega
   obtain⟨h1,h2⟩:=hs s i L[i] (by simp[hlt]) (by omega) (List.getElem_mem hlt) (C0 (by omega) (by omega)) ho;rw[List.drop_eq_getElem_cons hlt];simp only[loopN,h1];exact ih (i+1) N _ (by omega) (by omega) h2
 simpa using key L.length 0 N s0 (by omega) hN h0
theorem IF {N:Nat} (hN:40000000≤N) {s:List BD} (hl:s.length≤1000000) {f:BD→Option Bool} {P:BD→Bool} (hf:∀x∈s,f x=some (P x)):F5 N s f=some (s.any P):=by
 unfold F5 M7
 obtain⟨j,h,hj⟩:=Lo (N:=N) (l:=s) (by omega) (by omega) (A:=Unit) (B:=Int) (step:=(fun(s1:Int)=>
  (
   if cmp .lss s1 (Ar.len s)=true then
    (B9 s s1).bind fun x3=>
    (f x3).bind fun r4=>
    if r4=true then
     some (.inr (.inr s1))
    else
     some (.inl (ar .add .i64 s1 1))
   else
    some (.inr (.inl ()))
   :Option ((Int) ⊕ (Unit ⊕ Int))))) P () (fun i=>i) (fun i x hx hi=>by
  have e:ar .add .i64 (i:Int) 1=i+1:=C0 (by omega) (by omega);simp only[B8,B3,hi,decide_true,if_true,D5,hx,Option.bind_some,e,hf x (List.mem_of_getElem? hx)]
  split<;>rfl) (by simp[B8,B3])
 rw[h]
 by_cases ha:s.any P=true
 ·rw[if_pos ha,ha];simp only[Option.bind_some,O4,decide_eq_true hj]
 rw[if_neg ha];simp only[Option.bind_some,O4]
 rw[Bool.not_eq_true]at ha
 rw[ha];rfl
theorem SI {N:Nat}(hN:40000000≤N){s:List BD}(hl:s.length≤1000000)(i:Int):Q7 N s i=some (HQ (F6 s) i):=by
 unfold Q7;rw[IF hN hl (f:=fun y1=>R7 N y1 i) (P:=fun x=>decide (x.at_=i)) fun x _=>rfl];simp only[Option.bind_some,HQ,F6,List.any_map];rfl
theorem TQ {N:Nat}(hN:40000000≤N){a b:List BD}(ha:a.length≤1000000)(hb:b.length≤1000000):Y8 N a b=some (Je (F6 a) (F6 b)):=by
 unfold Y8;rw[IF hN ha (P:=fun x=>HQ (F6 b) x.at_) fun x _=>by unfold V2;rw[SI hN hb];rfl];simp only[Option.bind_some,Je,F6,List.any_map];rfl
def QP (s:List PR):Int:=match s with|[]=>0|x::_=>x.At
def X6 (s:List PR):Int:=match s.getLast? with|none=>0|some x=>x.At
theorem WL {α:Type} {l:List α} (h:l≠[]) (hl:l.length≤1000000):B9 l (ar .sub .i64 (Ar.len l) 1)=l.getLast? :=by
 rcases List.eq_nil_or_concat l with rfl|⟨q,y,rfl⟩
 ·exact absurd rfl h
 rw[List.concat_eq_append]at *
 have e1:ar .sub .i64 (Ar.len (q++[y])) 1=(q.length:Int):=by
  have:ar .sub .i64 (Ar.len (q++[y])) 1=Ar.len (q++[y]) - 1:=DN (by rw[B3];omega) (by rw[B3];omega);rw[this,B3];simp
 rw[e1,D5];simp
theorem Di {s:List PR}(h:s≠[]):∃x,s.getLast? =some x∧x∈s∧X6 s=x.At:=by
 cases hs:s.getLast? with
 |none=>exact absurd (List.getLast?_eq_none_iff.1 hs) h
 |some x=>exact⟨x,rfl,List.mem_of_getLast? hs,by simp[X6,hs]⟩
theorem Pd {N:Nat}{s:List BD}(h:s≠[])(hl:s.length≤1000000):J7 N s=some (X6 (F6 s)):=by
 unfold J7;rw[WL h hl];unfold X6;rw[F6,List.getLast?_map]
 cases hs:s.getLast? with
 |none=>exact absurd (List.getLast?_eq_none_iff.1 hs) h
 |some x=>rfl
theorem Iy {α:Type}(x:α)(l:List α):B9 (x::l) 0=some x:=rfl
theorem LS {s:List PR}(ha:Vi s):∀x∈s,x.At≤X6 s:=by
 intro x hx
 rcases List.eq_nil_or_concat s with rfl|⟨q,y,rfl⟩
 ·cases hx
 rw[List.concat_eq_append]at *
 have e:X6 (q++[y])=y.At:=by simp[X6]
 rw[e]
 unfold Vi at ha
 rw[List.pairwise_append]at ha
 rcases List.mem_append.1 hx with h|h
 ·have:=ha.2.2 x h y (by simp);omega
 rw[List.mem_singleton.1 h];exact Int.le_refl _
theorem Ty :∀{s:List PR} {k:Int} {m:Nat},Vi s→(∀x∈s,k≤x.At∧x.At<k+m)→s.length≤m
 |[],_,_,_,_=>Nat.zero_le _
 |x::s,k,m,ha,h=>by
  unfold Vi at ha
  rw[List.pairwise_cons]at ha
  have hx:=h x (by simp);obtain⟨m,rfl⟩:∃q,m=q+1:=⟨m - 1,by omega⟩
  have:=Ty (s:=s) (k:=x.At+1) (m:=m) ha.2 fun y hy=>by have:=ha.1 y hy;have:=h y (by simp[hy]);omega
  simp;omega
end
end Go.Ab
namespace Go.Ab
open Classical
noncomputable section
def Ja (l:List A3)(s:List PR)(b v:Int):List A3:=s.filterMap fun x=>if x.At<b∧x.Var=v then l[x.At.toNat]? else none
def Gx (l:List A3)(s:List PR)(b:Int):CH:=⟨(List.range 16).map fun(v:Nat)=>Ja l s b (v:Int)⟩
def TC (l:List A3)(s:List PR):Prop:=∀x∈s,(0≤x.Var∧x.Var<16)∧(0≤x.At∧x.At<l.length)
theorem TC.ins {l:List A3}{s:List PR}(h:TC l s):InS l.length s:=fun x hx=>(h x hx).2
theorem Pq (l:List A3)(s:List PR)(b v:Int):(Ja l s b v).length≤s.length:=List.length_filterMap_le ..
theorem MV (l:List A3){s:List PR}(hs:s.length<1000000)(b:Int):KM (Gx l s b):=by
 constructor
 ·simp[Gx]
 intro r hr
 simp only[Gx,List.mem_map]at hr
 obtain⟨v,_,rfl⟩:=hr;have:=Pq l s b v;omega
theorem MA (l:List A3)(p:List PR)(x:PR)(b v:Int):Ja l (p++[x]) b v=Ja l p b v++(if x.At<b∧x.Var=v then(l[x.At.toNat]?).toList else[]):=by
 unfold Ja;rw[List.filterMap_append]
 congr 1
 by_cases h:x.At<b∧x.Var=v
 ·simp only[List.filterMap_cons,List.filterMap_nil,if_pos h];cases l[x.At.toNat]? <;>rfl
 simp only[List.filterMap_cons,List.filterMap_nil,if_neg h]
theorem Ru {α R:Type} (f:α→PR) (l:List A3) (b:Int) {s:List α} (hs:s.length≤1000000) (hw:TC l (s.map f)):
 G6 (R:=R) (fun rows x=>if cmp .lss (f x).At b=true then(B9 rows (f x).Var).bind fun x9=>(B9 l (f x).At).bind fun x14=>(P3 x9 [x14]).bind fun l15=>(GZ rows (f x).Var (fun _=>l15)).bind fun l13=>some (.inl l13)else some (.inl rows)) s (List.replicate 16 [])=
  some (.inl ((List.range 16).map fun(v:Nat)=>Ja l (s.map f) b (v:Int))):=by
 obtain⟨s',h1,p,h2,h3⟩:=X1 (R:=R) (step:=fun rows x=>if cmp .lss (f x).At b=true then(B9 rows (f x).Var).bind fun x9=>(B9 l (f x).At).bind fun x14=>(P3 x9 [x14]).bind fun l15=>(GZ rows (f x).Var (fun _=>l15)).bind fun l13=>some (.inl l13)else some (.inl rows))
  (fun r rows=>∃p,p++r=s∧rows=(List.range 16).map fun(v:Nat)=>Ja l (p.map f) b (v:Int)) (fun x r rows ⟨p,e1,e2⟩=>by
   subst e2
   have hx:x∈s:=by rw[←e1];simp
   obtain⟨⟨v0,v1⟩,a0,a1⟩:=hw (f x) (List.mem_map.2 ⟨x,hx,rfl⟩)
   have hpl:p.length≤1000000:=by have:=congrArg List.length e1;simp at this;omega
   by_cases hb:(f x).At<b
   ·rw[if_pos (by rw[B8];exact decide_eq_true hb)]
    generalize hv:(f x).Var=vv at *
    generalize ha:(f x).At=aa at *
    obtain⟨v,rfl⟩:=Int.eq_ofNat_of_zero_le v0;obtain⟨a,rfl⟩:=Int.eq_ofNat_of_zero_le a0
    have hva:v<16:=by omega
    have haa:a<l.length:=by omega
    have e1':B9 ((List.range 16).map fun(v:Nat)=>Ja l (p.map f) b (v:Int)) (v:Int)=some (Ja l (p.map f) b v):=by
     rw[D5];simp[hva]
    have e2':B9 l (a:Int)=some l[a]:=by rw[D5];simp[haa]
    have hpl':=Pq l (p.map f) b v;simp only[e1',e2',Option.bind_some];rw[W7 (by simp at hpl' ⊢;omega)];simp only[Option.bind_some];refine⟨_,by unfold GZ;rw[e1'];rfl,p++[x],by simpa using e1,?_⟩;apply List.ext_getElem?;intro j;rw[List.getElem?_set]
    by_cases hj:j<16
    ·simp only[List.getElem?_map,List.getElem?_range hj,List.map_append,List.map_cons,List.map_nil,MA,hv,ha,Int.toNat_natCast,List.length_map,List.length_range,Option.map_some]
     by_cases hjv:v=j
     ·subst hjv;simp[hb,hj,haa]
     have:¬((v:Int)=(j:Int)):=by omega
     simp[hjv,this]
    have:¬(v=j):=by omega
    simp[hj,this]
   rw[if_neg (by rw[B8];simpa using hb)];refine⟨_,rfl,p++[x],by simpa using e1,?_⟩;apply List.map_congr_left;intro v _
   rw[List.map_append,List.map_cons,List.map_nil,MA,if_neg (by omega),append_nil]) (l:=s) (s:=List.replicate 16 []) ⟨[],rfl,by simp[Ja];rfl⟩
 rw[h1]
 rw[append_nil]at h2
 rw[h3,h2]
theorem SJ {N:Nat} (hN:40000000≤N) {l:List A3} {s:List BD} (hs:s.length≤1000000) (hw:TC l (F6 s)) (f:Bool) (b:Int):N7 N ⟨l,f⟩ s b=some (Gx l (F6 s) b):=by
 unfold N7;have h1:Vk 16 16 ([]:List A3)=some (List.replicate 16 []):=rfl;rw[h1];simp only[Option.bind_some];rw[I0 s (by omega) (mk:=fun(rows:List (List A3)) i=>(i,rows)) (body:=fun rows x=>if cmp .lss (pr x).At b=true then(B9 rows (pr x).Var).bind fun x9=>(B9 l (pr x).At).bind fun x14=>(P3 x9 [x14]).bind fun l15=>(GZ rows (pr x).Var (fun _=>l15)).bind fun l13=>some (.inl l13)else some (.inl rows)) (fin:=fun s=>s) (s:=List.replicate 16 []) (by omega) ?_ ?_]
 ·rw[Ru pr l b hs hw];rfl
 ·intro rows i x hx hi;have e:ar .add .i64 (i:Int) 1=i+1:=C0 (by omega) (by omega);simp only[B8,B3,hi,decide_true,if_true,D5,hx,Option.bind_some,e]
  show(if decide (x.at_<b)=true then _ else _)=Option.bind (if decide (x.at_<b)=true then _ else _) _
  by_cases hb:x.at_<b
  ·rw [if_pos (decide_eq_true hb),if_pos (decide_eq_true hb)]
   show((B9 rows x.cS).bind _)=((B9 rows x.cS).bind _).bind _
   cases B9 rows x.cS with
   |none=>rfl
   | some r=>
    simp only[Option.bind_some]
    show((B9 l x.at_).bind _)=((B9 l x.at_).bind _).bind _
    cases B9 l x.at_ with
    |none=>rfl
    | some y=>
     simp only[Option.bind_some]
     cases P3 r [y]with
     |none=>rfl
     |some q=>
      simp only[Option.bind_some]
      show((GZ rows x.cS _).bind _)=((GZ rows x.cS _).bind _).bind _
      cases GZ rows x.cS fun _=>q<;>rfl
  rw[if_neg (by simpa using hb),if_neg (by simpa using hb)];rfl
 intro s;simp[B8,B3]
theorem Fq {l:List A3}{i:Nat}(h:i<l.length):B9 l (i:Int)=some l[i]:=by rw[D5];simp[h]
theorem Io {N:Nat}(hN:40000000≤N){l:List A3}{s:List BD}(hs:s.length<1000000)(hw:TC l (F6 s))(f:Bool){c:A5}(hc:c.bulk≤16777216)(own:Int){i:Nat}(hi:i<l.length):
 G0 N ⟨l,f⟩ c s own i=some (Y2 (Gx l (F6 s) i) own l[i] c):=by
 unfold G0;rw[SJ hN (by omega) hw];simp only[Option.bind_some];rw[Fq hi];simp only[Option.bind_some];rw[OR hN (MV l (by simpa using hs) _) own _ hc];rfl
def XE {β:Type}(T:Nat→Bool)(g:Nat→β):Nat→Nat→List β
 |0,_=>[]
 |k+1,i=>if T i=true then g i::XE T g k (i+1)else XE T g k (i+1)
theorem OQ {β:Type}(T:Nat→Bool)(g:Nat→β)(k i:Nat):XE T g (k+1) i=if T i=true then g i::XE T g k (i+1)else XE T g k (i+1):=rfl
theorem Te {β:Type} {T:Nat→Bool} {g:Nat→β} {x:β}:∀{k i:Nat},x∈XE T g k i↔∃j,i≤j∧j<i+k∧T j=true∧x=g j
 |0,i=>by simp[XE];intro j a b;omega
 | k+1,i=>by
  rw[OQ];have ih:=Te (T:=T) (g:=g) (x:=x) (k:=k) (i:=i+1)
  constructor
  ·intro h
   by_cases ht:T i=true
   ·rw[if_pos ht]at h
    rcases List.mem_cons.1 h with h|h
    ·exact⟨i,by omega,by omega,ht,h⟩
    obtain⟨j,a,b,c⟩:=ih.1 h;exact⟨j,by omega,by omega,c⟩
   rw[if_neg ht]at h
   obtain⟨j,a,b,c⟩:=ih.1 h;exact⟨j,by omega,by omega,c⟩
  rintro⟨j,a,b,c,d⟩
  by_cases hij:j=i
  ·subst hij;rw[if_pos c,d];simp
  have:=ih.2 ⟨j,by omega,by omega,c,d⟩
  split
  ·exact List.mem_cons_of_mem _ this
  exact this
theorem Qa {β A:Type} {n:Nat} {step:Int→Option (List β×(Int ⊕ A))} {T:Nat→Bool} {g:Nat→β} {u:A} (hs:∀i,i<n→step (i:Int)=some (if T i=true then[g i]else[],.inl ((i:Int)+1))) (he:step (n:Int)=some ([],.inr u)):
 ∀(k i N:Nat),i+k=n→k<N→U2 step N (i:Int)=some (XE T g k i,u)
 |0,i,N,h,hN=>by
  obtain⟨N,rfl⟩:∃m,N=m+1:=⟨N - 1,by omega⟩;rw[show(i:Int)=n by omega];simp[U2,he,XE]
 |k+1,i,N,h,hN=>by
  obtain⟨N,rfl⟩:∃m,N=m+1:=⟨N - 1,by omega⟩;have ih:=Qa hs he k (i+1) N (by omega) (by omega);simp only[U2,hs i (by omega)];rw[show((i:Int)+1)=((i+1:Nat):Int) by omega,ih];rw[OQ]
  by_cases ht:T i=true<;>simp[ht]
end
end Go.Ab
namespace Go.Ab
open Classical
noncomputable section
theorem Ln {A:Type} {n:Nat} {step:Int→Option (Int ⊕ (A ⊕ Unit))} {P:Nat→Bool} {u:A} (m:Nat) (hs:∀i,m≤i→i<n→step (i:Int)=some (if P i=true then .inr (.inr ())else .inl ((i:Int)+1))) (he:∀i:Nat,n≤i→step (i:Int)=some (.inr (.inl u))):
 ∀(k i N:Nat),n≤i+k→m≤i→k<N→loopN step N (i:Int)=some (if(List.range' i (n - i)).any P=true then .inr ()else .inl u)
 |0,i,N,h,_,hN=>by
  obtain⟨N,rfl⟩:∃m,N=m+1:=⟨N - 1,by omega⟩;rw[show n - i=0 by omega];simp[loopN,he i (by omega)]
 | k+1,i,N,h,hm,hN=>by
  obtain⟨N,rfl⟩:∃m,N=m+1:=⟨N - 1,by omega⟩
  by_cases hi:i<n
  ·have ih:=Ln m hs he k (i+1) N (by omega) (by omega) (by omega);simp only[loopN,hs i hm hi];rw[show n - i=(n - (i+1))+1 by omega,List.range'_succ,List.any_cons]
   by_cases hp:P i=true
   ·simp[hp]
   rw[if_neg hp]
   dsimp only
   rw[show((i:Int)+1)=((i+1:Nat):Int) by omega,ih];simp[hp]
  rw[show n - i=0 by omega];simp[loopN,he i (by omega)]
def Jw (l:List A3)(i:Int):Int:=match l[i.toNat]? with|some e=>e.Time|none=>0
def FD (l:List A3)(p:A0)(b s:List PR)(i:Nat):Bool:=match l[i]? with|some e=>decide (e.Typ=p.Typ)&&(!HQ s i)&&Y2 (Gx l (mrg b s) i) p.Var e p.cO|none=>false
def HV (l:List A3)(p:A0)(b s:List PR):Bool:= !((List.range l.length).any fun i=>decide (QP s<(i:Int))&&decide ((i:Int)<X6 s)&&FD l p b s i)
def keepsA (l:List A3)(p:A0)(b s:List PR):Bool:=
 if p.Op=6 then decide (ar .sub .i64 (Jw l (X6 s)) (Jw l (QP s))≤p.Span)else if p.Op=7 then Y2 (Gx l (mrg b s) l.length) (-1) ⟨0,0,0,0,[]⟩ p.cO else HV l p b s
structure Gd (l:List A3) (s:List PR):Prop where
 wf:TC l s
 asc:Vi s
theorem Gd.len {l:List A3}{s:List PR}(h:Gd l s):s.length≤l.length:=Ty (k:=0) h.asc fun x hx=>by have:=(h.wf x hx).2;omega
theorem Gd.nil (l:List A3):Gd l []:=⟨fun _ h=>absurd h List.not_mem_nil,List.Pairwise.nil⟩
theorem Gd.mrg {l:List A3}{a b:List PR}(ha:Gd l a)(hb:Gd l b)(h:BW a b):Gd l (mrg a b):=⟨fun x hx=>(V6.1 hx).elim (ha.wf x) (hb.wf x),Ki _ (Nat.le_refl _) ha.asc hb.asc h⟩
theorem Gd.lst {l:List A3}{s:List PR}(h:Gd l s)(hn:s≠[]):0≤X6 s∧X6 s<l.length:=by
 obtain⟨x,_,hx,e⟩:=Di hn;rw[e];exact(h.wf x hx).2
theorem Gd.hd {l:List A3} {s:List PR} (h:Gd l s) (hn:s≠[]):0≤QP s∧QP s<l.length∧QP s≤X6 s∧HQ s (QP s)=true:=by
 cases s with
 |nil=>exact absurd rfl hn
 |cons x s=>
  have:=(h.wf x (by simp)).2;exact⟨this.1,this.2,LS h.asc x (by simp),Oc.2 ⟨x,by simp,rfl⟩⟩
theorem SE {l:List A3}{i:Int}(h0:0≤i)(h1:i<l.length):∃e,B9 l i=some e∧e.Time=Jw l i:=by
 obtain⟨i,rfl⟩:=Int.eq_ofNat_of_zero_le h0
 have hi:i<l.length:=by omega
 exact⟨l[i],Fq hi,by simp[Jw,hi]⟩
theorem YL {s:List BD}(h:s≠[]):∃x,B9 s 0=some x∧x.at_=QP (F6 s):=by
 cases s with
 |nil=>exact absurd rfl h
 |cons x s=>exact⟨x,rfl,rfl⟩
theorem ZV {s:List BD}(h:s≠[]):F6 s≠[]:=fun e=>h (List.map_eq_nil_iff.1 e)
theorem UG {l:List A3} {p:A0} {b s:List PR} {a n:Nat} (h1:(a:Int)≤QP s+1) (h2:QP s≤(a:Int)) (hn:(n:Int)=X6 s) (hh:HQ s (QP s)=true) (hl:X6 s<l.length):
 (List.range' a (n - a)).any (FD l p b s)= !HV l p b s:=by
 unfold HV;rw[Bool.not_not,Bool.eq_iff_iff,List.any_eq_true,List.any_eq_true]
 constructor
 ·rintro⟨i,hi,hb⟩
  rw[List.mem_range'_1]at hi
  refine⟨i,List.mem_range.2 (by omega),?_⟩
  have hne:QP s≠(i:Int):=by
   intro e
   rw[e]at hh
   unfold FD at hb
   split at hb
   ·rw[hh]at hb;simp at hb
   cases hb
  simp only[Bool.and_eq_true,decide_eq_true_eq];exact⟨⟨by omega,by omega⟩,hb⟩
 rintro⟨i,hi,hb⟩
 simp only[Bool.and_eq_true,decide_eq_true_eq]at hb
 exact⟨i,List.mem_range'_1.2 (by omega),hb.2⟩
theorem TU {N:Nat} (hN:40000000≤N) {l:List A3} (hl:l.length≤10) {p:A0} (hc:p.cO.bulk≤16777216) (hop:5≤p.Op∧p.Op≤7) {b s:List BD} (gb:Gd l (F6 b)) (gs:Gd l (F6 s)) (hn:s≠[]) (hd:BW (F6 b) (F6 s)) (f:Bool):
 O6 N ⟨l,f⟩ p b s=some (keepsA l p (F6 b) (F6 s)):=by
 have lb:=gb.len;have ls:=gs.len
 rw[List.length_map]at lb ls
 have gm:=gb.mrg gs hd;have lm:=gm.len;have hnp:=ZV hn;have hlst:=gs.lst hnp;obtain⟨h0,h1,h2,hh⟩:=gs.hd hnp;obtain⟨x0,hx0,e0⟩:=YL hn;obtain⟨c,hj,ec⟩:=Kk (N:=N) (n:=l.length) (by omega) (by omega) (by omega) gb.asc gs.asc hd gb.wf.ins gs.wf.ins
 have lc:c.length≤10:=by have:=congrArg List.length ec;rw[List.length_map]at this;omega
 have wc:TC l (F6 c):=by rw[ec];exact gm.wf
 unfold O6 keepsA;rw[hx0,Pd hn (by omega),hj];simp only[Option.bind_some,SJ hN (show c.length≤1000000 by omega) wc,OR hN (MV l (show(F6 c).length<1000000 by rw[List.length_map];omega) _) _ _ hc]
 by_cases h6:p.Op=6
 ·rw[if_pos (by rw[C2];exact decide_eq_true h6),if_pos h6];obtain⟨y1,hy1,t1⟩:=SE (l:=l) (i:=X6 (F6 s)) (by omega) (by omega);obtain⟨y0,hy0,t0⟩:=SE (l:=l) (i:=x0.at_) (by omega) (by omega);rw[hy1,hy0];simp only[Option.bind_some,Cr,t1,t0,e0]
 rw[if_neg h6,if_neg (by rw[C2];simpa using h6)]
 by_cases h7:p.Op=7
 ·rw[if_pos (by rw[C2];exact decide_eq_true h7),if_pos h7,ec];rfl
 rw[if_neg h7,if_neg (by rw[C2];simpa using h7)];obtain⟨n,hnn⟩:=Int.eq_ofNat_of_zero_le hlst.1;obtain⟨a,ha⟩:=Int.eq_ofNat_of_zero_le h0;rw[e0,ha,C0 (a:=((a:Nat):Int)) (by omega) (by omega),show((a:Int)+1)=((a+1:Nat):Int) by omega];rw[Ln (A:=Unit) (n:=n) (P:=FD l p (F6 b) (F6 s)) (u:=()) 0 ?_ ?_ n (a+1) N (by omega) (by omega) (by omega),UG (by omega) (by omega) (by omega) hh hlst.2]
 ·cases HV l p (F6 b) (F6 s)<;>rfl
 ·intro i _ hi
  have hil:i<l.length:=by omega
  have e:ar .add .i64 (i:Int) 1=i+1:=C0 (by omega) (by omega);rw[if_pos (DW (by omega)),SI hN (by omega),Fq hil,Io hN (by omega) wc _ hc _ hil,ec];simp only[Option.bind_some,W2,C2,e];unfold FD;simp only[List.getElem?_eq_getElem hil];cases HQ (F6 s) (i:Int)<;>by_cases ht:l[i].Typ=p.Typ<;>cases Y2 (Gx l (mrg (F6 b) (F6 s)) (i:Int)) p.Var l[i] p.cO<;>simp[ht]
 intro i hi;rw[if_neg (BJ (by omega))]
end
end Go.Ab
namespace Go.Ab
open Classical
noncomputable section
def testE (l:List A3)(p:A0)(b:List PR)(i:Nat):Bool:=match l[i]? with|some e=>decide (e.Typ=p.Typ)&&Y2 (Gx l b i) p.Var e p.cO|none=>false
theorem Uh {N:Nat} (hN:40000000≤N) {l:List A3} (hl:l.length≤10) {p:A0} (hc:p.cO.bulk≤16777216) {b:List BD} (gb:Gd l (F6 b)) (f:Bool) {i:Nat} (hi:i≤l.length):
 J2 N ⟨l,f⟩ p b (i:Int)=some (XE (testE l p (F6 b)) (fun j=>[(⟨p.Var,(j:Int)⟩:BD)]) (l.length - i) i):=by
 have lb:=gb.len
 rw[List.length_map]at lb
 unfold J2 Q8
 have h:=Qa (β:=List BD) (A:=Unit) (n:=l.length) (T:=testE l p (F6 b)) (g:=fun j=>[(⟨p.Var,(j:Int)⟩:BD)]) (u:=()) (step:=(fun(s1:Int)=>
  (
   if cmp .lss s1 (Ar.len (⟨l,f⟩:A8).cV)=true then
    (B9 (⟨l,f⟩:A8).cV s1).bind fun x7=>
    if cmp .eql x7.Typ p.Typ=true then
     (G0 N ⟨l,f⟩ p.cO b p.Var s1).bind fun r8=>
     if r8=true then
      M3 (some ([[(⟨p.Var,s1⟩:A1)]],())) fun _=>
      some ([],.inl (ar .add .i64 s1 1))
     else
      some ([],.inl (ar .add .i64 s1 1))
    else
     some ([],.inl (ar .add .i64 s1 1))
   else
    some ([],.inr ())
   :Option (List (List A1)×((Int) ⊕ (Unit)))))) ?_ ?_ (l.length - i) i N (by omega) (by omega)
 ·rw[h];simp[M3]
 ·intro j hj;have e:ar .add .i64 (j:Int) 1=j+1:=C0 (by omega) (by omega);rw[if_pos (DW (by rw[B3];show(j:Int)<(l.length:Int);omega))]
  show((B9 l (j:Int)).bind _)=_
  rw[Fq hj,Io hN (by omega) gb.wf _ hc _ hj,e];simp only[Option.bind_some,C2,M3];unfold testE;simp only[List.getElem?_eq_getElem hj]
  by_cases ht:l[j].Typ=p.Typ<;>cases Y2 (Gx l (F6 b) (j:Int)) p.Var l[j] p.cO<;>simp[ht]
 rw[if_neg X2]
def Ra (x:PR):List UInt8:=T9 x.Var.toNat++64::(T9 x.At.toNat++[32])
def HN (s:List PR):List UInt8:=s.flatMap Ra
def Fo (l:List UInt8):List Int:=l.map fun b=>(b.toNat:Int)
theorem Vx {n:Int}(h0:0≤n)(h1:n<1000):Ar.wr .i64 n=n:=Ct (by omega) (by omega)
theorem ZK {n:Int} (h0:0≤n) (h1:n<1000):Ar.wr .u64 n=n:=by
 have e:IntKind.wrap .u64 n=n % 18446744073709551616:=by
  unfold IntKind.wrap;simp[IntKind.bits,IntKind.signed]
 exact e.trans (by omega)
theorem IL {N:Nat} {d:List Int} (hd:d.length≤1000000) {i:Int} (h0:0≤i) (h1:i<100):E9 N d i 10=some (d++Fo (T9 i.toNat)):=by
 unfold E9 W5 T8 Ej;rw[if_neg (BJ (by omega)),ZK h0 (by omega),if_pos (show cmp .eql 10 10=true by rfl),if_pos (DW h1),Vx h0 (by omega)]
 have hs:KC i=some ⟨(T9 i.toNat).toArray⟩:=by
  unfold KC;rw[if_pos (by simp;omega)]
 rw[hs];simp only[Option.bind_some]
 have hl:(T9 i.toNat).length≤2:=by unfold T9;split<;>simp
 rw[W7 (by simp[Jm];omega)];rfl
theorem XM (x:PR):(Ra x).length≤6:=by
 have h:∀i,(T9 i).length≤2:=fun i=>by unfold T9;split<;>simp
 have:=h x.Var.toNat;have:=h x.At.toNat;simp[Ra];omega
theorem Tm :∀s:List PR,(HN s).length≤6*s.length
 |[]=>by simp[HN]
 |x::s=>by
  have:=Tm s;have:=XM x
  simp only[HN,List.flatMap_cons,List.length_append,List.length_cons]at *
  omega
theorem XQ {N:Nat} (hN:40000000≤N) {l:List A3} (hl:l.length≤10) {s:List BD} (hs:s.length≤1000) (hw:TC l (F6 s)):L5 N s=SG (Fo (HN (F6 s))):=by
 unfold L5;rw[I0 s (by omega) (mk:=fun(out:List Int) i=>(i,out)) (body:=fun out x=>(E9 N out x.cS 10).bind fun l6=>(P3 l6 [64]).bind fun l90=>(E9 N l90 x.at_ 10).bind fun l209=>(P3 l209 [32]).bind fun l290=>some (.inl l290)) (fin:=fun s=>s) (s:=[]) (by omega) ?_ ?_]
 ·obtain⟨s',h1,p,h2,h3⟩:=X1 (R:=List Int) (step:=fun out x=>(E9 N out x.cS 10).bind fun l6=>(P3 l6 [64]).bind fun l90=>(E9 N l90 x.at_ 10).bind fun l209=>(P3 l209 [32]).bind fun l290=>some (.inl l290))
   (fun r out=>∃p,p++r=s∧out=Fo (HN (F6 p))) (fun x r out ⟨p,e1,e2⟩=>by
    subst e2
    have hx:x∈s:=by rw[←e1];simp
    obtain⟨⟨v0,v1⟩,a0,a1⟩:=hw (pr x) (List.mem_map.2 ⟨x,hx,rfl⟩);have hv0:0≤x.cS:=v0;have hv1:x.cS<16:=v1;have ha0:0≤x.at_:=a0;have ha1:x.at_<l.length:=a1
    have hp:p.length≤1000:=by have:=congrArg List.length e1;simp at this;omega
    have hk:(Fo (HN (F6 p))).length≤6000:=by
     have:=Tm (F6 p)
     rw[List.length_map]at this
     simp[Fo];omega
    have hsm:∀i,(Fo (T9 i)).length≤2:=fun i=>by simp only[Fo,List.length_map];unfold T9;split<;>simp
    have:=hsm x.cS.toNat;have:=hsm x.at_.toNat;refine⟨Fo (HN (F6 p))++Fo (T9 x.cS.toNat)++[64]++Fo (T9 x.at_.toNat)++[32],?_,p++[x],by simpa using e1,?_⟩
    ·rw[IL (by omega) hv0 (by omega)];simp only[Option.bind_some];rw[W7 (by simp only[List.length_append,List.length_cons,List.length_nil];omega)];simp only[Option.bind_some];rw[IL (by simp only[List.length_append,List.length_cons,List.length_nil];omega) ha0 (by omega)];simp only[Option.bind_some];rw[W7 (by simp only[List.length_append,List.length_cons,List.length_nil];omega)];rfl
    simp[Fo,HN,Ra,F6,pr]) (l:=s) (s:=[]) ⟨[],rfl,rfl⟩
  rw[h1];simp only[Option.bind_some]
  rw[append_nil]at h2
  rw[h3,h2];cases SG (Fo (HN (F6 s)))<;>rfl
 ·intro out i x hx hi;have e:ar .add .i64 (i:Int) 1=i+1:=C0 (by omega) (by omega);simp only[B8,B3,hi,decide_true,if_true,D5,hx,Option.bind_some,e]
  cases E9 N out x.cS 10 with
  |none=>rfl
  | some a=>
   simp only[Option.bind_some]
   cases P3 a [64]with
   |none=>rfl
   | some b=>
    simp only[Option.bind_some]
    cases E9 N b x.at_ 10 with
    |none=>rfl
    |some c=>
     simp only[Option.bind_some];cases P3 c [32]<;>rfl
 intro s;simp[B8,B3]
theorem Lm {m:UInt8}:∀{a b r q:List UInt8},m∉a→m∉b→a++m::r=b++m::q→a=b∧r=q
 |[],[],r,q,_,_,h=>⟨rfl,by simpa using h⟩
 |[],y::b,r,q,_,hb,h=>by simp at h;exact absurd h.1 (by intro e;exact hb (by simp[e]))
 |x::a,[],r,q,ha,_,h=>by simp at h;exact absurd h.1 (by intro e;exact ha (by simp[←e]))
 |x::a,y::b,r,q,ha,hb,h=>by
  simp only[List.cons_append,List.cons.injEq]at h
  have:=Lm (fun e=>ha (by simp[e])) (fun e=>hb (by simp[e])) h.2;exact⟨by rw[h.1,this.1],this.2⟩
theorem DO {i:Nat}(h:i<100):(64:UInt8)∉T9 i∧(32:UInt8)∉T9 i:=by
 have:∀i<100,(64:UInt8)∉T9 i∧(32:UInt8)∉T9 i:=by decide
 exact this i h
theorem Mt {i j:Nat}(hi:i<16)(hj:j<16)(h:T9 i=T9 j):i=j:=by
 have:∀i<16,∀j<16,T9 i=T9 j→i=j:=by decide
 exact this i hi j hj h
theorem KK {l:List A3} (hl:l.length≤10):∀{a b:List PR},TC l a→TC l b→HN a=HN b→a=b
 |[],[],_,_,_=>rfl
 |[],y::b,_,_,h=>by simp[HN,Ra]at h
 |x::a,[],_,_,h=>by simp[HN,Ra]at h
 | x::a,y::b,ha,hb,h=>by
  obtain⟨⟨v0,v1⟩,a0,a1⟩:=ha x (by simp);obtain⟨⟨w0,w1⟩,b0,b1⟩:=hb y (by simp);obtain⟨m1,m2⟩:=DO (i:=x.Var.toNat) (by omega);obtain⟨m3,m4⟩:=DO (i:=x.At.toNat) (by omega);obtain⟨n1,n2⟩:=DO (i:=y.Var.toNat) (by omega);obtain⟨n3,n4⟩:=DO (i:=y.At.toNat) (by omega)
  simp only[HN,List.flatMap_cons,Ra,List.append_assoc,List.cons_append,List.nil_append]at h
  obtain⟨e1,e2⟩:=Lm m1 n1 h;obtain⟨e3,e4⟩:=Lm m4 n4 e2;have i1:=Mt (by omega) (by omega) e1;have i2:=Mt (by omega) (by omega) e3
  have hxy:x=y:=by
   cases x;cases y
   simp only[K7.mk.injEq]at *
   omega
  rw[hxy,KK hl (fun z hz=>ha z (by simp[hz])) (fun z hz=>hb z (by simp[hz])) e4]
end
end Go.Ab
namespace Go.Ab
open Classical
noncomputable section
structure WfN (y:A0):Prop where
 op:0≤y.Op∧y.Op≤7
 var:y.Op=0→0≤y.Var∧y.Var<16
 a0:y.Op=0→y.cN=[]
 a1:1≤y.Op→y.Op≤3→y.cN≠[]
 a2:4≤y.Op→∃q,y.cN=[q]
 cond:y.cO.bulk≤16777216
def Jq (p:A0):Prop:=∀y∈p.pre,WfN y
theorem TI {N:Nat} (hN:40000000≤N) {x:A0} (hb:x.bulk≤16777216) (h:Mg N x=0):Jq x∧x.pre.length≤64:=by
 unfold Mg at h
 by_cases hr:N1 N x=0
 ·rw [if_neg (by simpa using hr)]at h
  by_cases ha:x.pre.any (fun y=>cmp .geq y.Op 8)=true
  ·rw[if_pos ha]at h;cases h
  obtain⟨hp,hd,hg⟩:=GK hr;refine⟨fun y hy=>?_,hp⟩;have h1:=DV x y hy;have h2:=CF y
  have hyb:y.bulk≤16777216:=by omega
  have hyl:y.cN.length≤64:=by omega
  obtain⟨ho,s,ng,hs,hc⟩:=Ld hN hyb hyl (hg y hy)
  have h7:y.Op≤7:=by
   rw[Bool.not_eq_true,List.any_eq_false]at ha
   have:=ha y hy
   rw[O4]at this
   simp at this;omega
  have hz:=Zm hN N y.cO (⟨0,[],0,0,0,(⟨0,0,⟨#[]⟩⟩:A7)⟩:A5) (by omega) (by omega);have h1:=Fm hN (by omega) ho.1 ho.2 hs hz
  rw[(Dh hN hyb hyl).2,hg y hy]at h1
  have h1:=Option.some.inj h1
  by_cases har:s.cT≤y.cN.length∧(y.cN.length:Int)≤s.most
  ·rw[if_pos har]at h1
   unfold HE at h1
   by_cases e1:CE s.cQ y.Typ 15=true
   ·rw[if_pos e1]at h1;cases h1
   rw[if_neg e1]at h1
   by_cases e2:CE s.cQ y.Var 15=true
   ·rw[if_pos e2]at h1;cases h1
   have ht:=hs.tab
   have hop:y.Op=0∨y.Op=1∨y.Op=2∨y.Op=3∨y.Op=4∨y.Op=5∨y.Op=6∨y.Op=7:=by omega
   refine⟨⟨ho.1,h7⟩,?_,?_,?_,?_,by omega⟩
   ·intro h0
    rw[h0]at ht
    have hs:s.cQ=true:=by cases ht;rfl
    rw[hs]at e2
    unfold CE at e2
    simp at e2
    omega
   ·intro h0
    rw[h0]at ht
    have hm:s.most=0:=by cases ht;rfl
    exact List.eq_nil_of_length_eq_zero (by omega)
   ·intro h0 h3
    have hm:1≤s.cT:=by
     have:y.Op=1∨y.Op=2∨y.Op=3:=by omega
     rcases this with h|h|h<;>rw[h]at ht<;>cases ht<;>decide
    intro e
    rw[e]at har
    simp at har;omega
   intro h0
   have hm:s.cT=1∧s.most=1:=by
    have:y.Op=4∨y.Op=5∨y.Op=6∨y.Op=7:=by omega
    rcases this with h|h|h|h<;>rw[h]at ht<;>cases ht<;>decide
   have hl:y.cN.length=1:=by omega
   match he:y.cN,hl with
   |[q],_=>exact⟨q,rfl⟩
  rw[if_neg har]at h1;cases h1
 rw[if_pos (show N1 N x≠0 from hr)]at h;exact absurd h hr
theorem P6 {y : A0}:∀{l:List A0},y∈A0.pres l↔∃a∈l,y∈a.pre
 |[]=>by simp[A0.pres]
 | a :: l => by simp only[A0.pres,List.mem_append,P6 (l:=l),List.mem_cons];constructor
                ·rintro(h|⟨b,h1,h2⟩)
                 ·exact⟨a,.inl rfl,h⟩
                 exact⟨b,.inr h1,h2⟩
                rintro⟨b,rfl|h1,h2⟩
                ·exact .inl h2
                exact .inr ⟨b,h1,h2⟩
theorem Jq.self {p:A0}(h:Jq p):WfN p:=h p (BE p)
theorem Jq.arg {p q:A0}(h:Jq p)(hq:q∈p.cN):Jq q:=fun y hy=>h y (by rw[A0.pre_eq];exact List.mem_cons_of_mem _ (P6.2 ⟨q,hq,hy⟩))
theorem Jq.sub {p:A0}{r:List A0}(h:Jq p)(h1:1≤p.Op)(h3:p.Op≤3)(hr:∀q∈r,q∈p.cN)(hn:r≠[]):Jq {p with cN:=r}:=by
 intro y hy
 rw[A0.pre_eq]at hy
 rcases List.mem_cons.1 hy with rfl|hy
 ·exact⟨h.self.op,fun e=>by have:p.Op=0:=e;omega,fun e=>by have:p.Op=0:=e;omega,fun _ _=>hn,fun e=>by have:4≤p.Op:=e;omega,h.self.cond⟩
 obtain⟨q,hq,hy⟩:=P6.1 hy;exact h.arg (hr q hq) y hy
inductive Sm (l:List A3):A0→List PR→Int→List PR→Prop
 |ev {p:A0} {b:List PR} {f:Int} {j:Nat}:p.Op=0→f≤j→j<l.length→testE l p b j=true→Sm l p b f [⟨p.Var,j⟩]
 |seq1 {p q:A0} {b:List PR} {f:Int} {s:List PR}:p.Op=1→p.cN=[q]→Sm l q b f s→Sm l p b f s
 |seq {p q q':A0} {r:List A0} {b:List PR} {f:Int} {s t:List PR}:p.Op=1→p.cN=q::q'::r→Sm l q b f s→Sm l {p with cN:=q'::r} (mrg b s) (X6 s+1) t→Sm l p b f (mrg s t)
 |alt {p q:A0} {b:List PR} {f:Int} {s:List PR}:p.Op=2→q∈p.cN→Sm l q b f s→Sm l p b f s
 |all1 {p q:A0} {b:List PR} {f:Int} {s:List PR}:p.Op=3→p.cN=[q]→Sm l q b f s→Sm l p b f s
 |all {p q:A0} {r:List A0} {b:List PR} {f:Int} {s t:List PR}:p.Op=3→p.cN=r++[q]→r≠[]→Sm l {p with cN:=r} b f s→Sm l q b f t→BW s t→Sm l p b f (mrg s t)
 |plus1 {p q:A0} {b:List PR} {f:Int} {s:List PR}:p.Op=4→p.cN=[q]→Sm l q b f s→Sm l p b f s
 |plus {p q:A0} {b:List PR} {f:Int} {s t:List PR}:p.Op=4→p.cN=[q]→Sm l q b f s→Sm l p (mrg b s) (X6 s+1) t→Sm l p b f (mrg s t)
 |some {p q:A0} {b:List PR} {f:Int} {s:List PR}:5≤p.Op→p.Op≤7→p.cN=[q]→Sm l q b f s→keepsA l p b s=true→Sm l p b f s
theorem Sm.i0 {l:List A3} {p:A0} {b:List PR} {f:Int} {s:List PR} (h0:p.Op=0):Sm l p b f s↔∃j:Nat,f≤j∧j<l.length∧testE l p b j=true∧s=[⟨p.Var,j⟩]:=by
 constructor
 ·intro h
  cases h with
  |ev e0 e1 e2 e3=>exact⟨_,e1,e2,e3,rfl⟩
  |_=>omega
 rintro⟨j,e1,e2,e3,rfl⟩;exact .ev h0 e1 e2 e3
theorem Sm.i1 {l:List A3} {p q:A0} {b:List PR} {f:Int} {s:List PR} (h0:p.Op=1) (ha:p.cN=[q]):Sm l p b f s↔Sm l q b f s:=by
 constructor
 ·intro h
  cases h with
  |seq1 e0 ea hs=>rw[ha]at ea;cases ea;exact hs
  |seq e0 ea hs ht=>rw[ha]at ea;cases ea
  |_=>omega
 exact .seq1 h0 ha
theorem Sm.i1c {l:List A3} {p q q':A0} {r:List A0} {b:List PR} {f:Int} {s:List PR} (h0:p.Op=1) (ha:p.cN=q::q'::r):Sm l p b f s↔∃u t,Sm l q b f u∧Sm l {p with cN:=q'::r} (mrg b u) (X6 u+1) t∧s=mrg u t:=by
 constructor
 ·intro h
  cases h with
  |seq1 e0 ea hs=>rw[ha]at ea;cases ea
  |seq e0 ea hs ht=>rw[ha]at ea;cases ea;exact⟨_,_,hs,ht,rfl⟩
  |_=>omega
 rintro⟨u,t,hs,ht,rfl⟩;exact .seq h0 ha hs ht
theorem Sm.i2 {l:List A3} {p:A0} {b:List PR} {f:Int} {s:List PR} (h0:p.Op=2):Sm l p b f s↔∃q∈p.cN,Sm l q b f s:=by
 constructor
 ·intro h
  cases h with
  |alt e0 ea hs=>exact⟨_,ea,hs⟩
  |_=>omega
 rintro⟨q,ha,hs⟩;exact .alt h0 ha hs
theorem Sm.i3 {l:List A3} {p q:A0} {b:List PR} {f:Int} {s:List PR} (h0:p.Op=3) (ha:p.cN=[q]):Sm l p b f s↔Sm l q b f s:=by
 constructor
 ·intro h
  cases h with
  |all1 e0 ea hs=>rw[ha]at ea;cases ea;exact hs
  |all e0 ea en hs ht hd=>
   rw[ha]at ea
   exact absurd (List.append_inj_left' (s₁:=[]) ea rfl).symm en
  |_=>omega
 exact .all1 h0 ha
theorem Sm.i3c {l:List A3} {p q:A0} {r:List A0} {b:List PR} {f:Int} {s:List PR} (h0:p.Op=3) (ha:p.cN=r++[q]) (hr:r≠[]):Sm l p b f s↔∃u t,Sm l {p with cN:=r} b f u∧Sm l q b f t∧BW u t∧s=mrg u t:=by
 constructor
 ·intro h
  cases h with
  |all1 e0 ea hs=>
   rw[ha]at ea
   exact absurd (List.append_inj_left' (s₂:=[]) ea rfl) hr
  |all e0 ea en hs ht hd=>
   rw[ha]at ea
   have e1:=List.append_inj_left' ea rfl;have e2:=List.append_inj_right' ea rfl;cases e1;cases e2;exact⟨_,_,hs,ht,hd,rfl⟩
  |_=>omega
 rintro⟨u,t,hs,ht,hd,rfl⟩;exact .all h0 ha hr hs ht hd
theorem Sm.i4 {l:List A3} {p q:A0} {b:List PR} {f:Int} {s:List PR} (h0:p.Op=4) (ha:p.cN=[q]):Sm l p b f s↔Sm l q b f s∨∃u t,Sm l q b f u∧Sm l p (mrg b u) (X6 u+1) t∧s=mrg u t:=by
 constructor
 ·intro h
  cases h with
  |plus1 e0 ea hs=>rw[ha]at ea;cases ea;exact .inl hs
  |plus e0 ea hs ht=>rw[ha]at ea;cases ea;exact .inr ⟨_,_,hs,ht,rfl⟩
  |_=>omega
 rintro(hs|⟨u,t,hs,ht,rfl⟩)
 ·exact .plus1 h0 ha hs
 exact .plus h0 ha hs ht
theorem Sm.i5 {l:List A3} {p q:A0} {b:List PR} {f:Int} {s:List PR} (h0:5≤p.Op) (h1:p.Op≤7) (ha:p.cN=[q]):Sm l p b f s↔Sm l q b f s∧keepsA l p b s=true:=by
 constructor
 ·intro h
  cases h with
  |some e0 e1 ea hs hk=>rw[ha]at ea;cases ea;exact⟨hs,hk⟩
  |_=>omega
 rintro⟨hs,hk⟩;exact .some h0 h1 ha hs hk
structure No (l:List A3) (b:List PR) (f:Int):Prop where
 gd:Gd l b
 lt:∀x∈b,x.At<f
 f0:0≤f
 f1:f≤l.length
structure Ox (l:List A3) (f:Int) (s:List PR):Prop where
 gd:Gd l s
 ge:∀x∈s,f≤x.At
 ne:s≠[]
theorem No.apart {l:List A3}{b s:List PR}{f:Int}(h:No l b f)(r:Ox l f s):BW b s:=fun x hx y hy=>by have:=h.lt x hx;have:=r.ge y hy;omega
theorem No.next {l:List A3}{b s:List PR}{f:Int}(h:No l b f)(r:Ox l f s):No l (mrg b s) (X6 s+1):=by
 have hl:=r.gd.lst r.ne;refine⟨h.gd.mrg r.gd (h.apart r),fun x hx=>?_,by omega,by omega⟩
 rcases V6.1 hx with hx|hx
 ·obtain⟨y,_,hy,e⟩:=Di r.ne;have:=h.lt x hx;have:=r.ge y hy;omega
 have:=LS r.gd.asc x hx;omega
theorem Ox.seq {l:List A3} {s t:List PR} {f:Int} (r:Ox l f s) (q:Ox l (X6 s+1) t):Ox l f (mrg s t)∧BW s t:=by
 have ha:BW s t:=fun x hx y hy=>by have:=LS r.gd.asc x hx;have:=q.ge y hy;omega
 refine⟨⟨r.gd.mrg q.gd ha,fun x hx=>?_,fun e=>?_⟩,ha⟩
 ·rcases V6.1 hx with hx|hx
  ·exact r.ge x hx
  obtain⟨y,_,hy,e⟩:=Di r.ne;have:=r.ge y hy;have:=q.ge x hx;omega
 have h1:=congrArg List.length e
 rw[NP,List.length_nil]at h1
 have:=List.length_pos_iff.2 r.ne;omega
theorem Ox.all {l:List A3}{s t:List PR}{f:Int}(r:Ox l f s)(q:Ox l f t)(ha:BW s t):Ox l f (mrg s t):=by
 refine⟨r.gd.mrg q.gd ha,fun x hx=>(V6.1 hx).elim (r.ge x) (q.ge x),fun e=>?_⟩;have h1:=congrArg List.length e
 rw[NP,List.length_nil]at h1
 have:=List.length_pos_iff.2 r.ne;omega
theorem Sm.res {l:List A3} {p:A0} {b:List PR} {f:Int} {s:List PR} (h:Sm l p b f s):Jq p→No l b f→Ox l f s:=by
 induction h with
 |@ev p b f j h0 hf hj ht=>
  intro hw ho;refine⟨⟨fun x hx=>?_,List.pairwise_singleton _ _⟩,fun x hx=>?_,by simp⟩
  ·rw[List.mem_singleton.1 hx];exact⟨hw.self.var h0,by show 0≤(j:Int)∧(j:Int)<l.length;omega⟩
  rw[List.mem_singleton.1 hx];exact hf
 |seq1 h0 ha _ ih=>intro hw ho;exact ih (hw.arg (by rw[ha];simp)) ho
 |@seq p q q' r b f s t h0 ha _ _ ih1 ih2=>
  intro hw ho;have r1:=ih1 (hw.arg (by rw[ha];simp)) ho;have r2:=ih2 (hw.sub (by omega) (by omega) (fun x hx=>by rw[ha];exact List.mem_cons_of_mem _ hx) (by simp)) (ho.next r1);exact(r1.seq r2).1
 |alt h0 ha _ ih=>intro hw ho;exact ih (hw.arg ha) ho
 |all1 h0 ha _ ih=>intro hw ho;exact ih (hw.arg (by rw[ha];simp)) ho
 |@all p q r b f s t h0 ha hn _ _ hd ih1 ih2=>
  intro hw ho;exact(ih1 (hw.sub (by omega) (by omega) (fun x hx=>by rw[ha];simp[hx]) hn) ho).all (ih2 (hw.arg (by rw[ha];simp)) ho) hd
 |plus1 h0 ha _ ih=>intro hw ho;exact ih (hw.arg (by rw[ha];simp)) ho
 |@plus p q b f s t h0 ha _ _ ih1 ih2=>
  intro hw ho;have r1:=ih1 (hw.arg (by rw[ha];simp)) ho;exact(r1.seq (ih2 hw (ho.next r1))).1
 |some h0 h1 ha _ _ ih=>intro hw ho;exact ih (hw.arg (by rw[ha];simp)) ho
def Vs (p:A0)(v:Int):Prop:=∃y∈p.pre,y.Op=0∧y.Var=v
theorem Vs.arg {p q:A0}{v:Int}(hq:q∈p.cN)(h:Vs q v):Vs p v:=by
 obtain⟨y,hy,h⟩:=h;exact⟨y,by rw[A0.pre_eq];exact List.mem_cons_of_mem _ (P6.2 ⟨q,hq,hy⟩),h⟩
theorem Vs.sub {p:A0}{r:List A0}{v:Int}(h0:p.Op≠0)(hr:∀q∈r,q∈p.cN)(h:Vs {p with cN:=r} v):Vs p v:=by
 obtain⟨y,hy,h1,h2⟩:=h
 rw[A0.pre_eq]at hy
 rcases List.mem_cons.1 hy with rfl|hy
 ·exact absurd h1 h0
 obtain⟨q,hq,hy⟩:=P6.1 hy;exact Vs.arg (hr q hq) ⟨y,hy,h1,h2⟩
theorem Sm.vars {l:List A3} {p:A0} {b:List PR} {f:Int} {s:List PR} (h:Sm l p b f s):∀x∈s,Vs p x.Var:=by
 induction h with
 |@ev p b f j h0 hf hj ht=>intro x hx;rw[List.mem_singleton.1 hx];exact⟨p,BE p,h0,rfl⟩
 |seq1 h0 ha _ ih=>intro x hx;exact Vs.arg (by rw[ha];simp) (ih x hx)
 |@seq p q q' r b f s t h0 ha _ _ ih1 ih2=>
  intro x hx
  rcases V6.1 hx with hx|hx
  ·exact Vs.arg (by rw[ha];simp) (ih1 x hx)
  exact Vs.sub (by omega) (fun x hx=>by rw[ha];exact List.mem_cons_of_mem _ hx) (ih2 x hx)
 |alt h0 ha _ ih=>intro x hx;exact Vs.arg ha (ih x hx)
 |all1 h0 ha _ ih=>intro x hx;exact Vs.arg (by rw[ha];simp) (ih x hx)
 |@all p q r b f s t h0 ha hn _ _ hd ih1 ih2=>
  intro x hx
  rcases V6.1 hx with hx|hx
  ·exact Vs.sub (by omega) (fun x hx=>by rw[ha];simp[hx]) (ih1 x hx)
  exact Vs.arg (by rw[ha];simp) (ih2 x hx)
 |plus1 h0 ha _ ih=>intro x hx;exact Vs.arg (by rw[ha];simp) (ih x hx)
 |@plus p q b f s t h0 ha _ _ ih1 ih2=>
  intro x hx
  rcases V6.1 hx with hx|hx
  ·exact Vs.arg (by rw[ha];simp) (ih1 x hx)
  exact ih2 x hx
 |some h0 h1 ha _ _ ih=>intro x hx;exact Vs.arg (by rw[ha];simp) (ih x hx)
end
end Go.Ab
namespace Go.Ab
open Classical
noncomputable section
def evs (p:A0):Nat:=p.pre.countP fun y=>decide (y.Op=0)
def Ax (p:A0):Prop:=∀y∈p.pre,y.Op≠4
theorem Ff (p:A0):evs p=(if p.Op=0 then 1 else 0)+(A0.pres p.cN).countP fun y=>decide (y.Op=0):=by
 unfold evs;rw[A0.pre_eq,List.countP_cons]
 by_cases h:p.Op=0<;>simp[h]<;>omega
theorem Kn (p:A0)(r:List A0):evs {p with cN:=r}=(if p.Op=0 then 1 else 0)+(A0.pres r).countP fun y=>decide (y.Op=0):=Ff _
theorem JO {q:A0}:∀{l:List A0},q∈l→evs q≤(A0.pres l).countP fun y=>decide (y.Op=0)
 |a::l,h=>by
  simp only[A0.pres,List.countP_append]
  rcases List.mem_cons.1 h with rfl|h
  ·exact Nat.le_add_right _ _
  have:=JO h;unfold evs at *;omega
theorem GV {p q:A0}(h:q∈p.cN):evs q≤evs p:=by rw[Ff p];have:=JO h;omega
theorem Ax.arg {p q:A0}(h:Ax p)(hq:q∈p.cN):Ax q:=fun y hy=>h y (by rw[A0.pre_eq];exact List.mem_cons_of_mem _ (P6.2 ⟨q,hq,hy⟩))
theorem Ax.sub {p:A0}{r:List A0}(h:Ax p)(hr:∀q∈r,q∈p.cN):Ax {p with cN:=r}:=by
 intro y hy
 rw[A0.pre_eq]at hy
 rcases List.mem_cons.1 hy with rfl|hy
 ·exact h p (BE p)
 obtain⟨q,hq,hy⟩:=P6.1 hy;exact h.arg (hr q hq) y hy
def Mk (n:Nat)(p:A0):Prop:=(evs p+1) ^ n≤1500∨(Ax p∧2≤n∧n ^ evs p≤1500)
theorem Mk.mono {n:Nat}{p q:A0}(h:Mk n p)(h1:evs q≤evs p)(h2:Ax p→Ax q):Mk n q:=by
 rcases h with h|⟨a,b,c⟩
 ·exact .inl (Nat.le_trans (Nat.pow_le_pow_left (by omega) n) h)
 exact .inr ⟨h2 a,b,Nat.le_trans (Nat.pow_le_pow_right (by omega) h1) c⟩
theorem Mk.arg {n:Nat}{p q:A0}(h:Mk n p)(hq:q∈p.cN):Mk n q:=h.mono (GV hq) fun k=>k.arg hq
theorem Mk.tail {n:Nat}{p q:A0}{r:List A0}(h:Mk n p)(ha:p.cN=q::r):Mk n {p with cN:=r}:=by
 refine h.mono ?_ fun k=>k.sub fun x hx=>by rw[ha];exact List.mem_cons_of_mem _ hx
 rw[Kn,Ff,ha];simp only[A0.pres,List.countP_append];omega
theorem CB :∀(r m:List A0),A0.pres (r++m)=A0.pres r++A0.pres m
 |[],m=>by simp[A0.pres]
 |a::r,m=>by simp[A0.pres,CB r m]
def Gy (V:List Int):Nat→Int→List (List PR)
 |0,_=>[[]]
 |m+1,k=>Gy V m (k+1)++V.flatMap fun v=>(Gy V m (k+1)).map fun s=>⟨v,k⟩::s
theorem Jl (V:List Int):∀(m:Nat) (k:Int),(Gy V m k).length=(V.length+1) ^ m
 |0,_=>rfl
 | m+1,k=>by
  have ih:=Jl V m (k+1)
  have h:(V.flatMap fun v=>(Gy V m (k+1)).map fun s=>(⟨v,k⟩:PR)::s).length=V.length*(V.length+1) ^ m:=by
   clear ih;generalize hE:Gy V m (k+1)=E
   have hl:E.length=(V.length+1) ^ m:=by rw[←hE];exact Jl V m (k+1)
   rw[←hl];clear hl hE
   induction V with
   |nil=>simp
   |cons v V ih=>rw[List.flatMap_cons,List.length_append,ih,List.length_map,List.length_cons,Nat.succ_mul];omega
  rw[Gy,List.length_append,ih,h,Nat.pow_succ];rw[Nat.mul_comm _ (V.length+1),Nat.succ_mul];omega
theorem GW (V:List Int):∀(m:Nat) (k:Int) (s:List PR),Vi s→(∀x∈s,k≤x.At∧x.At<k+m)→(∀x∈s,x.Var∈V)→s∈Gy V m k
 |0,k,[],_,_,_=>by simp[Gy]
 |0,k,x::s,_,h,_=>by have:=h x (by simp);omega
 |m+1,k,[],ha,_,_=>by
  rw[Gy];exact List.mem_append_left _ (GW V m (k+1) [] ha (by simp) (by simp))
 | m+1,k,x::s,ha,h,hv=>by
  rw[Gy];have ha':=ha
  unfold Vi at ha
  rw[List.pairwise_cons]at ha
  have hx:=h x (by simp)
  by_cases e:x.At=k
  ·refine List.mem_append_right _ (List.mem_flatMap.2 ⟨x.Var,hv x (by simp),List.mem_map.2 ⟨s,GW V m (k+1) s ha.2 (fun y hy=>?_) (fun y hy=>hv y (by simp[hy])),?_⟩⟩)
   ·have:=ha.1 y hy;have:=h y (by simp[hy]);omega
   rw[←e]
  refine List.mem_append_left _ (GW V m (k+1) (x::s) ha' (fun y hy=>?_) hv);have:=h y hy
  rcases List.mem_cons.1 hy with rfl|hy
  ·omega
  have:=ha.1 y hy;omega
def SB (p:A0):List Int:=(p.pre.filter fun y=>decide (y.Op=0)).map (·.Var)
theorem TJ (p:A0):(SB p).length=evs p:=by unfold SB evs;rw[List.length_map,List.countP_eq_length_filter]
theorem Vs.mem {p:A0}{v:Int}(h:Vs p v):v∈SB p:=by
 obtain⟨y,hy,h0,h1⟩:=h;exact List.mem_map.2 ⟨y,List.mem_filter.2 ⟨hy,by simpa using h0⟩,h1⟩
theorem Ai6 {l:List A3} {p:A0} {L:List (List PR)} (hn:L.Nodup) (h:∀s∈L,Gd l s∧∀x∈s,Vs p x.Var):L.length≤(evs p+1) ^ l.length:=by
 have:=List.Nodup.length_le_of_subset hn (l₂:=Gy (SB p) l.length 0) fun s hs=>by
  obtain⟨g,hv⟩:=h s hs;exact GW _ _ _ s g.asc (fun x hx=>by have:=(g.wf x hx).2;omega) fun x hx=>(hv x hx).mem
 rwa[Jl,TJ]at this
theorem SO {α β:Type}(A B:List α)(f:α→α→β):(A.flatMap fun a=>B.map (f a)).length=A.length*B.length:=by
 induction A with
 |nil=>simp
 |cons a A ih=>rw[List.flatMap_cons,List.length_append,ih,List.length_map,List.length_cons,Nat.succ_mul];omega
theorem SP :∀(n:Nat) (p:A0),p.pre.length≤n→Jq p→1≤evs p
 |0,p,h,_=>by rw[A0.pre_eq]at h;simp at h
 | n+1,p,h,hw=>by
  by_cases h0:p.Op=0
  ·rw[Ff,if_pos h0];omega
  have hne:∃q,q∈p.cN:=by
   by_cases h3:p.Op≤3
   ·exact List.exists_mem_of_ne_nil _ (hw.self.a1 (by have:=hw.self.op;omega) h3)
   obtain⟨q,hq⟩:=hw.self.a2 (by omega);exact⟨q,by rw[hq];simp⟩
  obtain⟨q,hq⟩:=hne;have:=SP n q (by have:=O3 hq;omega) (hw.arg hq);have:=GV hq;omega
theorem QH {x y:Nat} (hx:2≤x) (hy:2≤y):x+y≤x*y:=by
 obtain⟨a,rfl⟩:∃a,x=a+2:=⟨x - 2,by omega⟩;obtain⟨b,rfl⟩:∃b,y=b+2:=⟨y - 2,by omega⟩
 have:(a+2)*(b+2)=a*b+2*a+2*b+4:=by
  rw[Nat.mul_add,add_mul,add_mul];omega
 omega
theorem Kg {p q:A0}{r:List A0}(ha:p.cN=q::r):({p with cN:=r}:A0).pre.length<p.pre.length:=by
 have h1:=A0.pre_eq ({p with cN:=r}:A0);have h2:=A0.pre_eq p;rw[h1,h2,ha];have:=A0.pre_eq q;simp only[A0.pres,List.length_cons,List.length_append,this];omega
theorem Wd {p q:A0}{r:List A0}(ha:p.cN=r++[q]):({p with cN:=r}:A0).pre.length<p.pre.length:=by
 have h1:=A0.pre_eq ({p with cN:=r}:A0);have h2:=A0.pre_eq p;rw[h1,h2,ha,CB];have:=A0.pre_eq q;simp only[A0.pres,List.length_cons,List.length_append,this];omega
theorem Hn {l:List A3} (hl:2≤l.length):∀(n:Nat) (p:A0),p.pre.length≤n→Jq p→Ax p→∃C:List (List PR),C.length≤l.length ^ evs p∧∀b f s,Sm l p b f s→s∈C
 |0,p,h,_,_=>by rw[A0.pre_eq]at h;simp at h
 | n +1,p,h,hw,hp=>by
  have hop:=hw.self.op;have hnp:=hp p (BE p)
  have hpow:∀q:A0,Jq q→2≤l.length ^ evs q:=fun q hq=>by
   have h1:=SP _ q (Nat.le_refl _) hq;have:=Nat.pow_le_pow_right (n:=l.length) (by omega) h1
   rw[Nat.pow_one]at this;omega
  by_cases h0:p.Op=0
  ·refine⟨(List.range l.length).map fun(j:Nat)=>[⟨p.Var,(j:Int)⟩],?_,fun b f s hs=>?_⟩
   ·rw[Ff,if_pos h0,hw.self.a0 h0,List.length_map,List.length_range];simp[A0.pres]
   obtain⟨j,_,hj,_,rfl⟩:=(Sm.i0 h0).1 hs;exact List.mem_map.2 ⟨j,List.mem_range.2 hj,rfl⟩
  by_cases h1:p.Op=1
  ·match ha:p.cN with
   |[]=>exact absurd ha (hw.self.a1 (by omega) (by omega))
   |[q]=>
    have hq:q∈p.cN:=by rw[ha];simp
    obtain⟨C,h2,h3⟩:=Hn hl n q (by have:=O3 hq;omega) (hw.arg hq) (hp.arg hq);refine⟨C,Nat.le_trans h2 (Nat.pow_le_pow_right (by omega) (GV hq)),fun b f s hs=>?_⟩;exact h3 _ _ _ ((Sm.i1 h1 ha).1 hs)
   | q::q'::r=>
    have hq:q∈p.cN:=by rw[ha];simp
    obtain⟨C,h2,h3⟩:=Hn hl n q (by have:=O3 hq;omega) (hw.arg hq) (hp.arg hq);obtain⟨D,h4,h5⟩:=Hn hl n {p with cN:=q'::r} (by have:=Kg ha;omega) (hw.sub (by omega) (by omega) (fun x hx=>by rw[ha];exact List.mem_cons_of_mem _ hx) (by simp)) (hp.sub fun x hx=>by rw[ha];exact List.mem_cons_of_mem _ hx);refine⟨C.flatMap fun s=>D.map (mrg s),?_,fun b f s hs=>?_⟩
    ·rw[SO,show evs p=evs q+evs {p with cN:=q'::r}from ?_,Nat.pow_add]
     ·exact Nat.mul_le_mul h2 h4
     rw[Kn,Ff p,ha,if_neg h0];rw[A0.pres,List.countP_append];unfold evs;omega
    obtain⟨u,t,hu,ht,rfl⟩:=(Sm.i1c h1 ha).1 hs;exact List.mem_flatMap.2 ⟨_,h3 _ _ _ hu,List.mem_map.2 ⟨_,h5 _ _ _ ht,rfl⟩⟩
  by_cases h2':p.Op=2
  ·match ha:p.cN with
   |[]=>exact absurd ha (hw.self.a1 (by omega) (by omega))
   |[q]=>
    have hq:q∈p.cN:=by rw[ha];simp
    obtain⟨C,h2,h3⟩:=Hn hl n q (by have:=O3 hq;omega) (hw.arg hq) (hp.arg hq);refine⟨C,Nat.le_trans h2 (Nat.pow_le_pow_right (by omega) (GV hq)),fun b f s hs=>?_⟩;obtain⟨q',ha',hs⟩:=(Sm.i2 h2').1 hs
    rw[ha]at ha'
    rw[List.mem_singleton.1 ha']at hs
    exact h3 _ _ _ hs
   | q::q'::r=>
    have hq:q∈p.cN:=by rw[ha];simp
    have hws:Jq {p with cN:=q'::r}:=hw.sub (by omega) (by omega) (fun x hx=>by rw[ha];exact List.mem_cons_of_mem _ hx) (by simp);obtain⟨C,h2,h3⟩:=Hn hl n q (by have:=O3 hq;omega) (hw.arg hq) (hp.arg hq);obtain⟨D,h4,h5⟩:=Hn hl n {p with cN:=q'::r} (by have:=Kg ha;omega) hws (hp.sub fun x hx=>by rw[ha];exact List.mem_cons_of_mem _ hx);refine⟨C++D,?_,fun b f s hs=>?_⟩
    ·rw[List.length_append,show evs p=evs q+evs {p with cN:=q'::r}from ?_,Nat.pow_add]
     ·have e1:=hpow q (hw.arg hq);have e2:=hpow _ hws;have:=QH e1 e2;omega
     rw[Kn,Ff p,ha,if_neg h0];rw[A0.pres,List.countP_append];unfold evs;omega
    obtain⟨x,ha',hs⟩:=(Sm.i2 h2').1 hs
    rw[ha]at ha'
    rcases List.mem_cons.1 ha' with e|hm
    ·rw[e]at hs;exact List.mem_append_left _ (h3 _ _ _ hs)
    exact List.mem_append_right _ (h5 _ _ _ (Sm.alt (p:={p with cN:=q'::r}) h2' hm hs))
  by_cases h3':p.Op=3
  ·rcases List.eq_nil_or_concat p.cN with ha|⟨r,q,ha⟩
   ·exact absurd ha (hw.self.a1 (by omega) (by omega))
   rw[List.concat_eq_append]at ha
   have hq:q∈p.cN:=by rw[ha];simp
   obtain⟨C,h2,h3⟩:=Hn hl n q (by have:=O3 hq;omega) (hw.arg hq) (hp.arg hq)
   by_cases hr:r=[]
   ·subst hr;refine⟨C,Nat.le_trans h2 (Nat.pow_le_pow_right (by omega) (GV hq)),fun b f s hs=>?_⟩;exact h3 _ _ _ ((Sm.i3 h3' ha).1 hs)
   have hws:Jq {p with cN:=r}:=hw.sub (by omega) (by omega) (fun x hx=>by rw[ha];simp[hx]) hr;obtain⟨D,h4,h5⟩:=Hn hl n {p with cN:=r} (by have:=Wd ha;omega) hws (hp.sub fun x hx=>by rw[ha];simp[hx]);refine⟨D.flatMap fun s=>C.map (mrg s),?_,fun b f s hs=>?_⟩
   ·rw[SO,show evs p=evs {p with cN:=r}+evs q from ?_,Nat.pow_add]
    ·exact Nat.mul_le_mul h4 h2
    rw[Kn,Ff p,ha,if_neg h0,CB,List.countP_append];simp only[A0.pres,append_nil];unfold evs;omega
   obtain⟨u,t,hu,ht,_,rfl⟩:=(Sm.i3c h3' ha hr).1 hs;exact List.mem_flatMap.2 ⟨_,h5 _ _ _ hu,List.mem_map.2 ⟨_,h3 _ _ _ ht,rfl⟩⟩
  obtain⟨q,ha⟩:=hw.self.a2 (by omega)
  have hq:q∈p.cN:=by rw[ha];simp
  obtain⟨C,h2,h3⟩:=Hn hl n q (by have:=O3 hq;omega) (hw.arg hq) (hp.arg hq);refine⟨C,Nat.le_trans h2 (Nat.pow_le_pow_right (by omega) (GV hq)),fun b f s hs=>?_⟩;exact h3 _ _ _ ((Sm.i5 (by omega) hop.2 ha).1 hs).1
theorem card {l:List A3} {p:A0} (hw:Jq p) (hs:Mk l.length p) {L:List (List PR)} (hn:L.Nodup) (h:∀s∈L,Gd l s∧∃b f,Sm l p b f s):L.length≤1500:=by
 rcases hs with hs|⟨h1,h2,h3⟩
 ·refine Nat.le_trans (Ai6 hn fun s m=>?_) hs;obtain⟨g,b,f,hm⟩:=h s m;exact⟨g,hm.vars⟩
 obtain⟨C,h4,h5⟩:=Hn h2 _ p (Nat.le_refl _) hw h1
 have:=List.Nodup.length_le_of_subset hn (l₂:=C) fun s m=>by
  obtain⟨g,b,f,hm⟩:=h s m;exact h5 b f s hm
 omega
end
end Go.Ab
namespace Go.Ab
open Classical
noncomputable section
theorem Ex {β σ τ:Type}{m:Option (List β×σ)}{f:σ→Option (List β×τ)}{w w':List β}{x:σ}{o:τ}(h1:m=some (w,x))(h2:f x=some (w',o)):M3 m f=some (w++w',o):=by
 unfold M3;rw[h1];simp only[Option.bind_some,h2]
theorem KU {α β R:Type} {body:Unit→α→Option (List β×(Unit ⊕ R))} {Q:α→β→Prop}:∀{L:List α},(∀x∈L,∃w,body () x=some (w,.inl ())∧∀s,s∈w↔Q x s)→∃W,AO body L ()=some (W,.inl ())∧∀s,s∈W↔∃x∈L,Q x s
 |[],_=>⟨[],rfl,by simp⟩
 |x::L,h=>by
  obtain⟨w,h1,h2⟩:=h x (by simp);obtain⟨W,h3,h4⟩:=KU (L:=L) fun y hy=>h y (by simp[hy]);refine⟨w++W,by simp only[AO,h1,h3],fun s=>?_⟩;rw[List.mem_append,h2,h4];simp
theorem ML {α β A:Type} {L:List α} {N:Nat} (hN:L.length<N) {step:Int→Option (List β×(Int ⊕ A))} {u:A} {Q:α→β→Prop}
 (hs:∀(i:Nat) x,L[i]? =some x→(i:Int)<L.length→x∈L→∃w,step (i:Int)=some (w,.inl ((i:Int)+1))∧∀s,s∈w↔Q x s) (he:step (L.length:Int)=some ([],.inr u)):∃W,U2 step N 0=some (W,u)∧∀s,s∈W↔∃x∈L,Q x s:=by
 have key:∀(k i N:Nat),i+k=L.length→k<N→∃W,U2 step N (i:Int)=some (W,u)∧∀s,s∈W↔∃x∈L.drop i,Q x s:=by
  intro k
  induction k with
  |zero=>
   intro i N hi hN;obtain⟨N,rfl⟩:∃m,N=m+1:=⟨N - 1,by omega⟩;rw[List.drop_eq_nil_of_le (by omega),show(i:Int)=L.length by omega];exact⟨[],by simp[U2,he],by simp⟩
  |succ k ih=>
   intro i N hi hN;obtain⟨N,rfl⟩:∃m,N=m+1:=⟨N - 1,by omega⟩
   have hlt:i<L.length:=by omega
   obtain⟨w,h1,h2⟩:=hs i L[i] (by simp[hlt]) (by omega) (List.getElem_mem hlt);obtain⟨W,h3,h4⟩:=ih (i+1) N (by omega) (by omega);rw[List.drop_eq_getElem_cons hlt];refine⟨w++W,?_,fun s=>?_⟩
   ·simp only[U2,h1];rw[show((i:Int)+1)=((i+1:Nat):Int) by omega,h3]
   rw[List.mem_append,h2,h4];simp only[List.mem_cons,or_and_right,exists_or,exists_eq_left]
 simpa using key L.length 0 N (by omega) hN
def Fz (s:List BD):ByteArray:=OX (Fo (HN (F6 s)))
theorem Xl {a b:List UInt8} (h:OX (Fo a)=OX (Fo b)):a=b:=by
 have e0:∀(a:List UInt8) (acc:ByteArray),((Fo a).foldl (fun r n=>r.push (UInt8.ofNat n.toNat)) acc).data.toList=acc.data.toList++a:=fun a=>by
  induction a with
  |nil=>intro acc;simp[Fo]
  |cons x a ih=>
   intro acc
   simp only[Fo,List.map_cons,List.foldl_cons]at ih ⊢
   rw[ih];simp
 have e:∀a:List UInt8,(OX (Fo a)).data.toList=a:=fun a=>by
  have:=e0 a ByteArray.empty
  simpa[OX]using this
 rw[←e a,←e b,h]
theorem UF {l:List A3}(hl:l.length≤10){a b:List BD}(ha:TC l (F6 a))(hb:TC l (F6 b))(h:Fz a=Fz b):a=b:=GL (KK hl ha hb (Xl h))
theorem TS {N:Nat}(hN:40000000≤N){l:List A3}(hl:l.length≤10){s:List BD}(g:Gd l (F6 s)):L5 N s=some (Fz s):=by
 have:=g.len
 rw[List.length_map]at this
 rw[XQ hN hl (by omega) g.wf];rfl
def HM (out:List (List BD)):List (ByteArray×Bool):=out.map fun s=>(Fz s,true)
theorem UL (out:List (List BD)) (k:ByteArray):∃b,HR (HM out) k false=some (decide (∃s∈out,Fz s=k),b):=by
 unfold HR HM
 induction out with
 |nil=>exact⟨false,by simp⟩
 |cons x out ih=>
  obtain⟨b,ih⟩:=ih;rw[List.map_cons,List.find?_cons]
  by_cases h:Fz x=k
  ·exact⟨true,by simp[h]⟩
  refine⟨b,?_⟩;simp only[h,decide_false];rw[ih];simp[h]
theorem Ui {out:List (List BD)}{s:List BD}(h:¬∃t∈out,Fz t=Fz s):Ha (HM out) (Fz s) true=some (HM (out++[s])):=by
 unfold Ha;rw[if_neg]
 ·simp[HM]
 intro e
 rw[List.any_eq_true]at e
 obtain⟨p,hp,he⟩:=e
 simp only[HM,List.mem_map]at hp
 obtain⟨t,ht,rfl⟩:=hp;exact h ⟨t,ht,by simpa using he⟩
theorem PD {N:Nat} (hN:40000000≤N) {l:List A3} (hl:l.length≤10) {R:List (List BD)} (hR:∀s∈R,Gd l (F6 s)) (hc:∀L:List (List BD),L.Nodup→(∀s∈L,s∈R)→L.length≤4096):
 ∃ m out,G6 (fun(s11:(List (ByteArray×Bool))×(List (List A1))) (y10:(List A1))=>
  (
   (L5 N y10).bind fun r17=>
   (HR s11.1 r17 (false:Bool)).bind fun r18=>
   if r18.1=true then
    some (.inl (s11.1,s11.2))
   else
    (Ha s11.1 r17 true).bind fun l20=>
    (P3 s11.2 ([y10])).bind fun l22=>
    ((
     if cmp .gtr (Ar.len l22) 4096=true then
      none
     else
      some ()
    ):Option (Unit)).bind fun s23=>
    if(⟨l,false⟩:A8).full=true then
     some (.inr (l20,l22))
    else
     some (.inl (l20,l22))
   :Option (((List (ByteArray×Bool))×(List (List A1))) ⊕ (((List (ByteArray×Bool))×(List (List A1))))))
  ) R (([]:List (ByteArray×Bool)),[])=some (.inl (m,out))∧out.Nodup∧∀s,s∈out↔s∈R:=by
 obtain⟨s',h1,p,out,h2,h3,h4,h5⟩:=X1 (R:=(List (ByteArray×Bool))×(List (List A1))) (step:=fun(s11:(List (ByteArray×Bool))×(List (List A1))) (y10:(List A1))=>
  (
   (L5 N y10).bind fun r17=>
   (HR s11.1 r17 (false:Bool)).bind fun r18=>
   if r18.1=true then
    some (.inl (s11.1,s11.2))
   else
    (Ha s11.1 r17 true).bind fun l20=>
    (P3 s11.2 ([y10])).bind fun l22=>
    ((
     if cmp .gtr (Ar.len l22) 4096=true then
      none
     else
      some ()
    ):Option (Unit)).bind fun s23=>
    if(⟨l,false⟩:A8).full=true then
     some (.inr (l20,l22))
    else
     some (.inl (l20,l22))
   :Option (((List (ByteArray×Bool))×(List (List A1))) ⊕ (((List (ByteArray×Bool))×(List (List A1)))))))
  (fun r s=>∃p out,p++r=R∧s=(HM out,out)∧out.Nodup∧∀x,x∈out↔x∈p) (fun y r s ⟨p,out,e1,e2,e3,e4⟩=>by
   subst e2
   have hy:y∈R:=by rw[←e1];simp
   have hout:∀x∈out,x∈R:=fun x hx=>by rw[←e1];simp[(e4 x).1 hx]
   rw[TS hN hl (hR y hy)];simp only[Option.bind_some];obtain⟨b,hb⟩:=UL out (Fz y);rw[hb];simp only[Option.bind_some];have hiff:(∃s∈out,Fz s=Fz y)↔y∈out:=⟨fun⟨s,hs,e⟩=>by rw[←UF hl (hR s (hout s hs)).wf (hR y hy).wf e];exact hs,fun h=>⟨y,h,rfl⟩⟩
   by_cases hm:y∈out
   ·rw[if_pos (decide_eq_true (hiff.2 hm))];refine⟨_,rfl,p++[y],out,by simpa using e1,rfl,e3,fun x=>?_⟩;rw[e4,List.mem_append,List.mem_singleton]
    constructor
    ·exact .inl
    rintro(h|rfl)
    ·exact h
    exact(e4 _).1 hm
   have hn:(out++[y]).Nodup:=by
    rw[List.nodup_append];exact⟨e3,by simp,fun a ha b hb'=>by rw[List.mem_singleton.1 hb'];intro e;exact hm (e▸ha)⟩
   have hlen:(out++[y]).length≤4096:=hc _ hn fun x hx=>by
    rcases List.mem_append.1 hx with h|h
    ·exact hout x h
    rw[List.mem_singleton.1 h];exact hy
   rw[if_neg (by simpa using fun x hx e=>hm (hiff.1 ⟨x,hx,e⟩)),Ui (fun e=>hm (hiff.1 e))];simp only[Option.bind_some];rw[W7 (by simp at hlen ⊢;omega)];simp only[Option.bind_some];rw[if_neg (U3 (by rw[B3];omega))];refine⟨_,rfl,p++[y],out++[y],by simpa using e1,rfl,hn,fun x=>?_⟩
   rw[List.mem_append,List.mem_append,e4]) (l:=R) (s:=([],[])) ⟨[],[],rfl,rfl,by simp,by simp⟩
 subst h3
 rw[append_nil]at h2
 subst h2;exact⟨_,_,h1,h4,h5⟩
def Dz (N n:Nat)(c:A8)(p:A0)(o:List BD)(f:Int):Option (List (List BD)):=
 if p.Op=0 then J2 N c p o f else if p.Op=1 then K4 N n c p o f else if p.Op=2 then K5 N n c p o f else if p.Op=3 then K6 N n c p o f else if p.Op=4 then J9 N n c p o f else E2 N n c p o f
def Xw (N n:Nat)(l:List A3)(p:A0)(o:List BD)(f:Int):Prop:=∃L,C3 N n ⟨l,false⟩ p o f=some L∧L.Nodup∧∀s,s∈L↔Sm l p (F6 o) f (F6 s)
theorem Et {l:List A3} {p:A0} (hw:Jq p) (hs:Mk l.length p) {b:List PR} {f:Int} (ho:No l b f) {L:List (List BD)} (hn:L.Nodup) (h:∀s∈L,Sm l p b f (F6 s)):L.length≤1500:=by
 have:=card hw hs (L:=L.map F6) (by
  rw[List.Nodup,List.pairwise_map]
  exact hn.imp fun hne e=>hne (GL e)) fun s hs=>by
   obtain⟨t,ht,rfl⟩:=List.mem_map.1 hs;exact⟨((h t ht).res hw ho).gd,b,f,h t ht⟩
 rwa[List.length_map]at this
theorem ZN {N:Nat} (hN:40000000≤N) {l:List A3} (hl:l.length≤10) {p:A0} (hw:Jq p) (hs:Mk l.length p) {o:List BD} {f:Int} (ho:No l (F6 o) f) {n:Nat} {R:List (List BD)} (h:Dz N n ⟨l,false⟩ p o f=some R) (hm:∀s,s∈R↔Sm l p (F6 o) f (F6 s)):Xw N (n+1) l p o f:=by
 obtain⟨m,out,h1,h2,h3⟩:=PD hN hl (R:=R) (fun s hs=>(((hm s).1 hs).res hw ho).gd) fun L hL hsub=>by have:=Et hw hs ho hL fun s hs=>(hm s).1 (hsub s hs);omega
 refine⟨out,?_,h2,fun s=>(h3 s).trans (hm s)⟩;have hop:=hw.self.op;unfold C3 Aa
 have key:∀{F:List (List BD)→Option (List (List BD))},((B9 ([fun y1 y2 y3 y4=>J2 N y1 y2 y3 y4,fun y1 y2 y3 y4=>K4 N n y1 y2 y3 y4,fun y1 y2 y3 y4=>K5 N n y1 y2 y3 y4,fun y1 y2 y3 y4=>K6 N n y1 y2 y3 y4,fun y1 y2 y3 y4=>J9 N n y1 y2 y3 y4,fun y1 y2 y3 y4=>E2 N n y1 y2 y3 y4,fun y1 y2 y3 y4=>E2 N n y1 y2 y3 y4,fun y1 y2 y3 y4=>E2 N n y1 y2 y3 y4]:List (A8→A0→(List A1)→Int→Option (List (List A1)))) p.Op).bind fun f7=>(f7 ⟨l,false⟩ p o f).bind F)=F R:=by
  intro F
  have hb:∀{g:A8→A0→(List A1)→Int→Option (List (List A1))} {L:List (A8→A0→(List A1)→Int→Option (List (List A1)))} {i:Int},B9 L i=some g→g ⟨l,false⟩ p o f=some R→((B9 L i).bind fun f7=>(f7 ⟨l,false⟩ p o f).bind F)=F R:=fun e1 e2=>by rw[e1];simp only[Option.bind_some,e2]
  have hc:p.Op=0∨p.Op=1∨p.Op=2∨p.Op=3∨p.Op=4∨p.Op=5∨p.Op=6∨p.Op=7:=by omega
  unfold Dz at h
  rcases hc with e|e|e|e|e|e|e|e<;>(rw[e]at h ⊢;exact hb rfl (by simpa using h))
 simp only[Option.bind_some];rw[key,h1];rfl
end
end Go.Ab
namespace Go.Ab
open Classical
noncomputable section
theorem Be {α β A B:Type}{L:List α}{N:Nat}{step:Int→Option (List β×(Int ⊕ A))}{u:A}{f:A→Option (List β×B)}{y:B}{Q:α→β→Prop}{G:β→Prop}(hN:L.length<N)
 (hs:∀(i:Nat) x,L[i]? =some x→(i:Int)<L.length→x∈L→∃w,step (i:Int)=some (w,.inl ((i:Int)+1))∧∀s,s∈w↔Q x s) (he:step (L.length:Int)=some ([],.inr u)) (hf:f u=some ([],y)) (hG:∀s,(∃x∈L,Q x s)↔G s):∃W,M3 (U2 step N 0) f=some (W,y)∧∀s,s∈W↔G s:=by
 obtain⟨W,h1,h2⟩:=ML hN hs he;exact⟨W++[],Ex h1 hf,fun s=>by rw[append_nil];exact(h2 s).trans (hG s)⟩
theorem IT {β:Type}{m:Option (List β×Unit)}{G:β→Prop}(h:∃W,m=some (W,())∧∀s,s∈W↔G s):∃R,(m.bind fun q=>some q.1)=some R∧∀s,s∈R↔G s:=by
 obtain⟨W,h1,h2⟩:=h;exact⟨W,by rw[h1];rfl,h2⟩
theorem EE {β A:Type}{x:β}{o:A}{P:β→Prop}(h:∀s,s=x↔P s):∃w,M3 (some ([x],())) (fun _=>some ([],o))=some (w,o)∧∀s,s∈w↔P s:=⟨[x],rfl,fun s=>by rw[List.mem_singleton];exact h s⟩
section
variable {N:Nat}(hN:40000000≤N){l:List A3}(hl:l.length≤10)
include hN hl
theorem WI {o u:List BD}{f:Int}(ho:No l (F6 o) f)(r:Ox l f (F6 u)):∃c,K0 N o u=some c∧F6 c=mrg (F6 o) (F6 u):=by
 have h1:=ho.gd.len;have h2:=r.gd.len
 rw[List.length_map]at h1 h2
 exact Kk (n:=l.length) (by omega) (by omega) (by omega) ho.gd.asc r.gd.asc (ho.apart r) ho.gd.wf.ins r.gd.wf.ins
theorem WH {u t:List BD}{f g:Int}(r:Ox l f (F6 u))(q:Ox l g (F6 t))(hd:BW (F6 u) (F6 t)):∃c,K0 N u t=some c∧F6 c=mrg (F6 u) (F6 t):=by
 have h1:=r.gd.len;have h2:=q.gd.len
 rw[List.length_map]at h1 h2
 exact Kk (n:=l.length) (by omega) (by omega) (by omega) r.gd.asc q.gd.asc hd r.gd.wf.ins q.gd.wf.ins
theorem WF {u:List BD}{f:Int}(r:Ox l f (F6 u)):J7 N u=some (X6 (F6 u)):=by
 have h1:=r.gd.len
 rw[List.length_map]at h1
 exact Pd (fun e=>r.ne (by rw[e];rfl)) (by omega)
theorem SF {q:A0} {o:List BD} {f:Int} {n:Nat} (wq:Jq q) (sq:Mk l.length q) (ho:No l (F6 o) f) (hq:Xw N n l q o f) {x5:List BD→Int→Option (List (List BD))} {Qr:List BD→List BD→Prop}
 (hr:∀u,Sm l q (F6 o) f (F6 u)→∀r9,F6 r9=mrg (F6 o) (F6 u)→∃T,x5 r9 (X6 (F6 u)+1)=some T∧T.length≤4096∧∀t,t∈T↔Qr u t) (hres:∀u t,Sm l q (F6 o) f (F6 u)→Qr u t→Ox l (X6 (F6 u)+1) (F6 t)):
 ∃R,J8 N (n+2) ⟨l,false⟩ q o f x5=some R∧∀s,s∈R↔∃u t,Sm l q (F6 o) f (F6 u)∧Qr u t∧F6 s=mrg (F6 u) (F6 t):=by
 obtain⟨L,h1,h2,h3⟩:=hq;have hc:=Et wq sq ho h2 fun s hs=>(h3 s).1 hs;unfold J8 M8;refine IT ?_;rw[h1];simp only[Option.bind_some];refine Be (L:=L) (u:=.inl ()) (Q:=fun u s=>∃t,Qr u t∧F6 s=mrg (F6 u) (F6 t)) (by omega) ?_ ?_ rfl ?_
 ·intro i u hu hi hm;have hsm:=(h3 u).1 hm;have r:=hsm.res wq ho;have hlst:=r.gd.lst r.ne;obtain⟨c,hc1,hc2⟩:=WI hN hl ho r;obtain⟨T,t1,t2,t3⟩:=hr u hsm c hc2;have e:ar .add .i64 (i:Int) 1=i+1:=C0 (by omega) (by omega);rw[if_pos (U8 hi),D5,hu];simp only[Option.bind_some];rw[hc1,WF hN hl r];simp only[Option.bind_some];rw[C0 (a:=X6 (F6 u)) (by omega) (by omega),t1];simp only[Option.bind_some,e];refine Be (L:=T) (u:=.inl ()) (Q:=fun t s=>F6 s=mrg (F6 u) (F6 t)) (by omega) ?_ ?_ rfl ?_
  ·intro j t ht hj hmt;have qr:=(t3 t).1 hmt;have rt:=hres u t hsm qr;obtain⟨d,d1,d2⟩:=WH hN hl r rt (r.seq rt).2;have e:ar .add .i64 (j:Int) 1=j+1:=C0 (by omega) (by omega);rw[if_pos (U8 hj),D5,ht];simp only[Option.bind_some,Bool.false_eq_true,if_false,d1,e];exact EE fun s=>⟨fun e=>by rw[e,d2],fun e=>GL (e.trans d2.symm)⟩
  ·rw[if_neg X2]
  intro s
  constructor
  ·rintro⟨t,ht,e⟩;exact⟨t,(t3 t).1 ht,e⟩
  rintro⟨t,ht,e⟩;exact⟨t,(t3 t).2 ht,e⟩
 ·rw[if_neg X2]
 intro s
 constructor
 ·rintro⟨u,hu,t,ht,e⟩;exact⟨u,t,(h3 u).1 hu,ht,e⟩
 rintro⟨u,t,hu,ht,e⟩;exact⟨u,(h3 u).2 hu,t,ht,e⟩
def mu (l:List A3)(p:A0)(f:Nat):Nat:=p.pre.length*(l.length+2)+(l.length - f)
omit hN hl in
theorem Fc {p q:A0}{f g:Nat}(h:q.pre.length<p.pre.length):mu l q g+1≤mu l p f:=by
 unfold mu;have:=Nat.mul_le_mul_right (l.length+2) (show q.pre.length+1≤p.pre.length from h)
 rw[add_mul]at this
 omega
omit hN hl in
theorem Yx {p:A0}{f g:Nat}(h:f<g)(hg:g≤l.length):mu l p g+1≤mu l p f:=by unfold mu;omega
def IHk (N:Nat)(l:List A3)(k:Nat):Prop:=∀(p:A0) (o:List BD) (f n:Nat),mu l p f≤k→8*k+8≤n→p.pre.length≤64→Jq p→Mk l.length p→No l (F6 o) f→Xw N n l p o f
omit hN hl in
theorem Tf {u:List PR}{f:Int}(r:Ox l f u)(h0:0≤f):∃g:Nat,X6 u+1=(g:Int)∧g≤l.length∧f<g:=by
 have:=r.gd.lst r.ne;obtain⟨x,_,hx,e⟩:=Di r.ne;have:=r.ge x hx;exact⟨(X6 u+1).toNat,by omega,by omega,by omega⟩
theorem Sa {p:A0}(hw:Jq p)(h0:p.Op=0){o:List BD}{f:Nat}(ho:No l (F6 o) f)(n:Nat):∃R,Dz N n ⟨l,false⟩ p o f=some R∧∀s,s∈R↔Sm l p (F6 o) f (F6 s):=by
 have:=ho.f1;refine⟨_,by unfold Dz;rw[if_pos h0];exact Uh hN hl hw.self.cond ho.gd false (by omega),fun s=>?_⟩;rw[Te,Sm.i0 h0]
 constructor
 ·rintro⟨j,h1,h2,h3,rfl⟩;exact⟨j,by omega,by omega,h3,rfl⟩
 rintro⟨j,h1,h2,h3,e⟩;exact⟨j,by omega,by omega,h3,GL (e.trans rfl)⟩
theorem TK {L:List (List BD)}(hL:L.length≤1000000):∃R,M6 N L=some R∧∀s,s∈R↔s∈L:=by
 unfold M6 E1;refine IT ?_;refine Be (L:=L) (u:=()) (Q:=fun x s=>s=x) (by omega) ?_ ?_ rfl ?_
 ·intro i u hu hi hm;have e:ar .add .i64 (i:Int) 1=i+1:=C0 (by omega) (by omega);rw[if_pos (U8 hi),D5,hu];simp only[Option.bind_some,e];exact EE fun s=>Iff.rfl
 ·rw[if_neg X2]
 intro s;simp
theorem WY {k:Nat} (ih:IHk N l k) {p:A0} (hw:Jq p) (hp:p.pre.length≤64) (hs:Mk l.length p) (h0:p.Op=1) {o:List BD} {f:Nat} (ho:No l (F6 o) f) {n:Nat} (hmu:mu l p f≤k+1) (hn:8*k+15≤n):∃R,Dz N n ⟨l,false⟩ p o f=some R∧∀s,s∈R↔Sm l p (F6 o) f (F6 s):=by
 unfold Dz;rw[if_neg (by omega),if_pos h0];obtain⟨n,rfl⟩:∃m,n=m+1:=⟨n - 1,by omega⟩;unfold K4
 match ha:p.cN with
 |[]=>exact absurd ha (hw.self.a1 (by omega) (by omega))
 |[q]=>
  have hq:q∈p.cN:=by rw[ha];simp
  have:=Fc (l:=l) (f:=f) (g:=f) (O3 hq);obtain⟨L,h1,h2,h3⟩:=ih q o f n (by omega) (by omega) (by have:=O3 hq;omega) (hw.arg hq) (hs.arg hq) ho;have hc:=Et (hw.arg hq) (hs.arg hq) ho h2 fun s hs=>(h3 s).1 hs;obtain⟨R,h4,h5⟩:=TK hN hl (L:=L) (by omega);rw[if_pos (show cmp .eql (Ar.len [q]) 1=true from rfl),Iy];simp only[Option.bind_some];rw[h1];simp only[Option.bind_some];rw[h4];exact⟨R,rfl,fun s=>(h5 s).trans ((h3 s).trans (Sm.i1 h0 ha).symm)⟩
 | q::q'::r=>
  have hq:q∈p.cN:=by rw[ha];simp
  have hwr:Jq {p with cN:=q'::r}:=hw.sub (by omega) (by omega) (fun x hx=>by rw[ha];exact List.mem_cons_of_mem _ hx) (by simp);have hsr:Mk l.length {p with cN:=q'::r}:=hs.tail ha;rw[if_neg (by rw[C2,B3];simp;omega),Kx,Iy];simp only[Option.bind_some];obtain⟨n,rfl⟩:∃m,n=m+2:=⟨n - 2,by omega⟩;have m1:=Fc (l:=l) (f:=f) (g:=f) (O3 hq)
  obtain⟨R,h1,h2⟩:=SF hN hl (hw.arg hq) (hs.arg hq) ho (ih q o f n (by omega) (by omega) (by have:=O3 hq;omega) (hw.arg hq) (hs.arg hq) ho) (x5:=fun y1 y2=>J1 N (n+2) y1 y2 ⟨l,false⟩ {p with cN:=q'::r})
   (Qr:=fun u t=>Sm l {p with cN:=q'::r} (mrg (F6 o) (F6 u)) (X6 (F6 u)+1) (F6 t)) (fun u hu r9 e9=>by
    have ru:=hu.res (hw.arg hq) ho;obtain⟨g,hg,hgl,hfg⟩:=Tf ru ho.f0
    have ho':No l (F6 r9) (g:Int):=by rw[e9,←hg];exact ho.next ru
    have m2:=Fc (l:=l) (f:=f) (g:=g) (Kg ha);obtain⟨T,t1,t2,t3⟩:=ih {p with cN:=q'::r} r9 g (n+1) (by omega) (by omega) (by have:=Kg ha;omega) hwr hsr ho';have hc:=Et hwr hsr ho' t2 fun s hs=>(t3 s).1 hs;refine⟨T,?_,by omega,fun t=>?_⟩
    ·unfold J1;rw[hg,t1];rfl
    rw[t3,e9,hg]) (fun u t hu ht=>ht.res hwr (ho.next (hu.res (hw.arg hq) ho)))
  rw[h1];refine⟨R,rfl,fun s=>(h2 s).trans ?_⟩;rw[Sm.i1c h0 ha]
  constructor
  ·rintro⟨u,t,a,b,c⟩;exact⟨F6 u,F6 t,a,b,c⟩
  rintro⟨u,t,a,b,c⟩;exact⟨u.map Ij,t.map Ij,by rw[N8];exact a,by simp only[N8];exact b,by rw[N8,N8];exact c⟩
end
end
end Go.Ab
