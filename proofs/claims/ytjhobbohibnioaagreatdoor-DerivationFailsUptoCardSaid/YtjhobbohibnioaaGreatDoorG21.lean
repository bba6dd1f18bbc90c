/- . -/
import Derived.Test.YtjhobbohibnioaaGreatDoorG20
set_option linter.all false
open List (Nodup)
open Go.Ab.Ar (ar)
namespace Go.Ab
open Classical
noncomputable section
def Aj4 {N:Nat} (hN:Bgn N) {l:List A8} (hl:l.length≤10) {n:Nat} {p q:A2} {b:List PR} {f:Int} {kids:List A4} {s:List PR} {L:List TD} {E:TD→List A7} (gb:Gd l b) (gs:Gd l s) (hap:p.Op≠3→O1 b s) (hkl:kids.length≤100000) (hargs:p.cQ≠[])
 (h4:p.Op=4) (hk0:0<kids.length) (hq:B9 p.cQ (ar .rem .i64 (kids.length:Int) (Ar.len p.cQ))=some q)
 (hL:E8 N n ⟨l,0⟩ q ((if p.Op≠3 then mrg b s else b).map O2) f=some (L.map Kg)) (hg:∀t∈L,Gd l t.1∧t.1≠[])
 (hE:∀t∈L,O1 s t.1→E5 N n ⟨l,0⟩ p (b.map O2) (if p.Op≠3 then T9 t.1+1 else f) (kids++[t.2]) ((mrg s t.1).map O2)=some (E t)):
 E5 N (n+1) ⟨l,0⟩ p (b.map O2) f kids (s.map O2)=some (⟨⟨⟨0,0,0⟩,0,kids⟩,s.map O2⟩::L.flatMap fun t=>if T7 s t.1=true then[]else E t):=by
 rw[E5,A1 (by
  rw[N8,K5,K5,J4 h4,W1 (show(0:Int)<Ar.len kids by rw[B0];omega)]
  simp),Ac1 (by omega)]
 simp only[W5,A3];rw[A0 (H7 h4)];simp only[A3]
 have e1 : ((if Ar.cmp .neq p.Op 3=true then
           (H9 N (b.map O2) (s.map O2)).bind fun r11=>
           some (([]:List A7),r11)
  else
   some ([],b.map O2)):Option (List A7×(((List A6)))))=some ([],(if p.Op≠3 then mrg b s else b).map O2):=by
  by_cases h3:p.Op=3
  ·rw[A0 (H7 h3),A0 (by omega)]
  rw[A1 (K0 h3),A1 h3,Nz hN (l:=l) (by omega) (by rw[I3];exact gb) (by rw[I3];exact gs) (by rw[I3,I3];exact hap h3),I3,I3];rfl
 rw[e1];simp only[A3]
 have hr:FL (Ar.cmp .neq (Ar.len p.cQ) 0)=some ():=by
  unfold FL;rw[A1 (K0 (by rw[B0];have:=List.length_pos_iff.2 hargs;omega))]
 rw[hr];simp only[A3];rw[B0 kids,hq];simp only[A3];rw[hL];simp only[A3]
 rw [Ih (f := fun y:A7=>if T7 s (N7 y.s)=true then[]else E (N7 y.s,y.d)) (fun y hy=>by
  obtain⟨t,ht,rfl⟩:=List.mem_map.1 hy;obtain⟨g1,g2⟩:=hg t ht;have hlt:=g1.len;have hls:=gs.len;have e2:(Kg t).s=t.1.map O2:=rfl;have e3:(Kg t).d=t.2:=rfl;have e4:N7 (t.1.map O2)=t.1:=I3 _;have hlst:=g1.lst g2
  have e5 : ((if Ar.cmp .neq p.Op 3=true then
              (S0 N (t.1.map O2)).bind fun r26=>
              some (([]:List A7),r26)
   else
    some ([],f)):Option (List A7×(Int)))=some ([],if p.Op≠3 then T9 t.1+1 else f):=by
   by_cases h3:p.Op=3
   ·rw[A0 (H7 h3),A0 (by omega)]
   rw[A1 (K0 h3),A1 h3,Ph (by grind) (by rw[D4];omega) (by rw[e4];omega),e4];rfl
  rw[e2,e3,e5,Uw hN (by rw[D4];omega) (by rw[D4];omega),I3,e4];simp only[A3]
  by_cases hm:T7 s t.1=true
  ·rw[A1 hm,hm];rfl
  rw[A0 hm]
  rw[As]at hm
  have hA:=U8.1 hm;rw[hm,A0 (by simp[P7])]
  have e6:O5 kids none (some (Ar.len kids)) (some (Ar.len kids))=some kids:=by
   unfold O5;rw[A1 (by simp[B0])];simp[B0]
  rw[←B0 kids,e6];simp only[A3];rw[S1 (by simp;omega),Nz hN (l:=l) (by omega) (by rw[I3];exact gs) (by rw[e4];exact g1) (by rw[I3,e4];exact hA),I3,e4]
  simp_all)]
 simp only[A3];rw[A1 (J4 rfl)];simp only[A3,G4,I5,Y8,LP]
 congr 3
 funext t
 have e4:N7 (Kg t).s=t.1:=I3 _;rw[e4];rfl
structure Sc (N:Nat) (l:List A8) (p:A2) (b:List PR) (f:Nat) (m:Nat) (L:List TD):Prop where
 tl:TL l p b f L
 k:∀t∈L,IsK t
 ref:∀n,m+1≤n→DI N n p l b f=some (L.map GS)
 prg:∀(kids:List A4) (b0 s0:List PR),kids.length+(l.length-f)≤1000→Gd l b0→Gd l s0→O1 b0 s0→b=mrg b0 s0→∀n,m+1≤n→E5 N n ⟨l,0⟩ p (b0.map O2) f kids (s0.map O2)=some ((if kids=[]then[]else[Kg (s0,⟨⟨0,0,0⟩,0,kids⟩)])++(L.map (sk kids s0)).map Kg)
def Ag9 {N:Nat} (hN:Bgn N) {l:List A8} (hl:l.length≤10) (hchk:Al l=0) {p q:A2} (h4:p.Op=4) (ha:p.cQ=[q]) (hw:FF p) (hpp:p.pre.length≤64) (hs:Hp l.length p) {b:List PR} {f:Nat} (ho:Lk l b f) {L:List TD} {m:Nat} (h:TL l q b f L) (hL:Qt N l q b f (m+1) L) {F:TD→List TD}
 (hF:∀t∈L,∀g:Nat,T9 t.1+1=(g:Int)→Sc N l p (mrg b t.1) g m (F t)):Sc N l p b f (m+1) (Ah2 L F):=by
 have hqm:q∈p.cQ:=by rw[ha];simp
 have hpq:=K7 hqm;have hfew:=h.few hl hchk (hw.arg hqm) (by omega) (hs.arg hqm) ho
 have hg:∀t∈L,∃g:Nat,T9 t.1+1=(g:Int)∧Sc N l p (mrg b t.1) g m (F t)∧Lk l (mrg b t.1) (g:Int)∧f<g∧g≤l.length:=by
  intro t ht;obtain⟨_,_,_,hr⟩:=h.tr t ht;obtain⟨g,hg,h1,h2⟩:=SD hr ho.f0;exact⟨g,hg,hF t ht g hg,by rw[←hg];exact ho.next hr,by omega,by omega⟩
 have hkne:∀t∈L,∀u∈F t,u.2.Kids≠[]:=by
  intro t ht u hu e;obtain⟨g,hg1,hg2,_⟩:=hg t ht;have:=(Du (hg2.tl.tr u hu).1).n
  rw[e]at this
  unfold FM at this
  rw[A0 (by omega),A0 (by omega),A1 h4]at this
  simp at this
 refine⟨⟨fun t ht=>?_,Bd6 h.nd fun t ht=>?_⟩,fun t ht=>?_,fun n hn=>?_,?_⟩
 ·obtain⟨t,htL,ht⟩:=List.mem_flatMap.1 ht;obtain⟨u,hu,rfl⟩:=List.mem_map.1 ht
  rcases List.mem_cons.1 hu with rfl|hu
  ·have:=AJ2 (.inr (.inl h4)) ha (h.tr t htL);unfold jn e0T
   dsimp only
   rw[X5];exact this
  obtain⟨g,hg1,hg2,_⟩:=hg t htL;have c:=hg2.tl.tr u hu
  rw[hg2.k u hu,←hg1]at c
  exact AV1 hl hchk hw hpp h4 ha ho (h.tr t htL) c
 ·obtain⟨g,hg1,hg2,_⟩:=hg t ht;refine⟨?_,fun u hu=>?_⟩
  ·rw[D9,List.nodup_cons];refine⟨fun hm=>?_,hg2.tl.nd⟩;obtain⟨u,hu,e⟩:=List.mem_map.1 hm;exact hkne t ht u hu (by rw[e];rfl)
  rcases List.mem_cons.1 hu with rfl|hu
  ·rfl
  exact hg2.k u hu
 ·obtain⟨t,htL,ht⟩:=List.mem_flatMap.1 ht;obtain⟨u,hu,rfl⟩:=List.mem_map.1 ht;rfl
 ·obtain⟨n,rfl⟩:∃k,n=k+1:=⟨n-1,by omega⟩;refine Ag8 hN hl ha ho.gd hfew (hL.ref n (by omega)) (fun t ht=>?_) (fun t ht=>?_)
  ·obtain⟨_,_,_,hr⟩:=h.tr t ht;exact⟨hr.gd,hr.ne,ho.apart hr⟩
  obtain⟨_,_,_,hr⟩:=h.tr t ht;obtain⟨g,hg1,hg2,hg3,_⟩:=hg t ht;refine⟨by rw[hg1];exact hg2.ref n (by omega),hg2.tl.few hl hchk hw hpp hs hg3,fun u hu=>?_⟩;obtain⟨_,_,hz,hr2⟩:=hg2.tl.tr u hu
  rw[←hg1]at hr2
  have hul:=hr2.gd.len;have:u.1.length*p.pre.length≤10*64:=S4 (by omega) (by omega);have:=Xr (L:=u.2.Kids);have:=Fd u.2;exact⟨hr2.gd,(hr.seq hr2).2,by omega⟩
 intro kids b0 s0 hk gb gs hap hb n hn;obtain⟨n,rfl⟩:∃k,n=k+1:=⟨n-1,by omega⟩
 have hA:∀t∈L,O1 s0 t.1∧O1 b0 t.1∧Gd l t.1:=by
  intro t ht;obtain⟨_,_,_,hr⟩:=h.tr t ht;exact⟨fun x hx y hy=>ho.apart hr x (by rw[hb];exact M5.2 (.inr hx)) y hy,fun x hx y hy=>ho.apart hr x (by rw[hb];exact M5.2 (.inl hx)) y hy,hr.gd⟩
 have hq0:B9 p.cQ (ar .rem .i64 (kids.length:Int) (Ar.len p.cQ))=some q:=by
  rw[ha,show Ar.len [q]=1 from rfl,Ao9];rfl
 have hargs:p.cQ≠[]:=by rw[ha];simp
 have hL':E8 N n ⟨l,0⟩ q ((if p.Op≠3 then mrg b0 s0 else b0).map O2) f=some (L.map Kg):=by rw[A1 (by omega),←hb];exact hL.prg _ (by omega)
 have hgl:∀t∈L,Gd l t.1∧t.1≠[]:=fun t ht=>by
  obtain⟨_,_,_,hr⟩:=h.tr t ht;exact⟨hr.gd,hr.ne⟩
 have hE:∀t∈L,O1 s0 t.1→E5 N n ⟨l,0⟩ p (b0.map O2) (if p.Op≠3 then T9 t.1+1 else f) (kids++[t.2]) ((mrg s0 t.1).map O2)=some (Kg (mrg s0 t.1,⟨⟨0,0,0⟩,0,kids++[t.2]⟩)::((F t).map (sk (kids++[t.2]) (mrg s0 t.1))).map Kg):=by
  intro t ht _;obtain⟨g,hg1,hg2,hg3,hg4,hg5⟩:=hg t ht;obtain⟨a1,a2,a3⟩:=hA t ht;rw[A1 (by omega),hg1];have:=hg2.prg (kids++[t.2]) b0 (mrg s0 t.1) (by rw[G8,BE];omega) gb (gs.mrg a3 a1) (fun x hx y hy=>(M5.1 hy).elim (fun h=>hap x hx y h) fun h=>a2 x hx y h) (by rw[hb,EX gb.asc gs.asc a3.asc hap a2 a1]) n (by omega)
  rw[A0 (by simp)]at this
  exact this
 have fin:(L.flatMap fun t=>if T7 s0 t.1=true then[]else(Kg (mrg s0 t.1,⟨⟨0,0,0⟩,0,kids++[t.2]⟩)::((F t).map (sk (kids++[t.2]) (mrg s0 t.1))).map Kg))=((Ah2 L F).map (sk kids s0)).map Kg:=by
  unfold Ah2;rw[Da,Da];refine Ip fun t ht=>?_;obtain⟨a1,a2,a3⟩:=hA t ht;rw[A0 (by rw[U8.2 a1];simp),D9,D9,D9]
  congr 1
  ·unfold sk jn e0T
   dsimp only
   rw[X5]
  rw[J0,J0,J0];refine X3 fun u hu=>?_;obtain⟨g,hg1,hg2,hg3,_⟩:=hg t ht;obtain⟨_,_,_,hr⟩:=h.tr t ht;obtain⟨_,_,_,hr2⟩:=hg2.tl.tr u hu;have a4:=hg3.apart hr2;simp only[Function.comp,sk,jn,Kg];rw[EX gs.asc a3.asc hr2.gd.asc a1 (fun x hx y hy=>a4 x (M5.2 (.inl (by rw[hb];exact M5.2 (.inr hx)))) y hy) (fun x hx y hy=>a4 x (M5.2 (.inr hx)) y hy)];simp
 by_cases hk0:kids=[]
 ·rw[Ny hN hl (q:=q) (L:=L) gb gs (fun _=>hap) (by omega) hargs (by rw[hk0];rintro(⟨h,_⟩|⟨_,h⟩)<;>simp at h<;>omega) hq0 hL' hgl hE,A1 hk0,fin];rfl
 rw[Aj4 hN hl (q:=q) (L:=L) gb gs (fun _=>hap) (by omega) hargs h4 (List.length_pos_iff.2 hk0) hq0 hL' hgl hE,A0 hk0,fin];rfl
def Sc.mono {N:Nat}{l:List A8}{p:A2}{b:List PR}{f:Nat}{m m':Nat}{L:List TD}(h:Sc N l p b f m L)(hm:m≤m'):Sc N l p b f m' L:=⟨h.tl,h.k,fun n hn=>h.ref n (by omega),fun kids b0 s0 h1 h2 h3 h4 h5 n hn=>h.prg kids b0 s0 h1 h2 h3 h4 h5 n (by omega)⟩
def Ah0 {N:Nat} (hN:Bgn N) {l:List A8} (hl:l.length≤10) (hchk:Al l=0) {k:Nat} (ih:IHT N l k) {p q:A2} (h4:p.Op=4) (ha:p.cQ=[q]) (hw:FF p) (hpp:p.pre.length≤64) (hs:Hp l.length p) {f0:Nat} (hk:∀g,f0≤g→mu l q g≤k):
 ∀(d:Nat) (b:List PR) (f:Nat),f0≤f→l.length-f≤d→Lk l b f→∃L,Sc N l p b f (8*k+8+d) L:=by
 intro d
 induction d using Nat.strongRecOn with
 | _ d rec=>
  intro b f hf hd ho
  have hqm:q∈p.cQ:=by rw[ha];simp
  have hpq:=K7 hqm;obtain⟨L,g1,g2⟩:=ih q b f (hk f hf) (by omega) (hw.arg hqm) (hs.arg hqm) ho
  have hex:∀t:TD,∃F,t∈L→∀g:Nat,T9 t.1+1=(g:Int)→Sc N l p (mrg b t.1) g (8*k+7+d) F:=by
   intro t
   by_cases ht:t∈L
   ·obtain⟨_,_,_,hr⟩:=g1.tr t ht;obtain⟨g,hg,hgl,hfg⟩:=SD hr ho.f0;obtain⟨F,hF⟩:=rec (d-1) (by omega) (mrg b t.1) g (by omega) (by omega) (by rw[←hg];exact ho.next hr)
    exact⟨F,fun _ g' hg'=>by
     grind⟩
   simp_all
  obtain⟨F,hF⟩:=Jf hex;have:=Ag9 hN hl hchk h4 ha hw hpp hs ho g1 (g2.mono (show 8*k+8≤8*k+7+d+1 by omega)) hF
  grind
def Hp.front {m:Nat} {p:A2} {r r':List A2} (h:Hp m p) (h4:p.Op≠4) (ha:p.cQ=r++r'):Hp m {p with cQ:=r}:=by
 have he:Y2 {p with cQ:=r}≤Y2 p:=by
  rw[NC,Fx,ha];simp only[Cm,Er];omega
 exact Vw h h4 (fun x hx=>by rw[ha];simp[hx]) he (h.1.mono he fun k=>k.sub fun x hx=>by rw[ha];simp[hx])
def Ay3 {p:A2}{r r':List A2}(ha:p.cQ=r++r'):({p with cQ:=r}:A2).pre.length≤p.pre.length:=by
 rw[A2.pre_eq p,A2.pre_eq {p with cQ:=r},ha,Cm]
 simp_all
def kT (c:CD):TD:=(c.1,⟨⟨0,0,0⟩,0,c.2⟩)
def mxP:List (List TD)→CD→List CD
 |[],c=>[c]
 |T::Ts,c=>T.flatMap fun t=>if T7 c.1 t.1=true then[]else mxP Ts (mrg c.1 t.1,c.2++[t.2])
def mxS (A:List CD)(T:List TD):List CD:=A.flatMap fun c=>T.flatMap fun t=>if T7 c.1 t.1=true then[]else[(mrg c.1 t.1,c.2++[t.2])]
def Aq8:∀(Ts:List (List TD)) (A:List CD),Ts.foldl mxS A=A.flatMap (mxP Ts)
 | [],A=>by
  rw[List.foldl_nil]
  have:∀A:List CD,A.flatMap (mxP [])=A:=by
   simp[mxP]
  simp_all
 |T::Ts,A=>by
  rw[LN,Aq8 Ts];unfold mxS;rw[List.flatMap_assoc];refine Ip fun c _=>?_;rw[mxP,List.flatMap_assoc]
  grind
def SA (T:Nat→List TD)(j:Nat):List CD:=((List.range j).map T).foldl mxS [([],[])]
def TQ (T:Nat→List TD)(j:Nat):SA T (j+1)=mxS (SA T j) (T j):=by
 unfold SA;rw[List.range_succ,N1,List.foldl_append];rfl
def Bg4 (T:Nat→List TD)(j:Nat):SA T j=mxP ((List.range' 0 j).map T) ([],[]):=by
 unfold SA;rw[Aq8,GP];simp
def Yk {l:List A8} {p p':A2} (h:p.Op=p'.Op) {c:Int} {b:List PR} {f:Int}:∀(ks:List A4) (i:Nat) (s:List PR),(∀j,i≤j→j<i+ks.length→K6 p c j=K6 p' c j)→Cs l ks p c i b f s=Cs l ks p' c i b f s
 |[],i,s,_=>by rw[Cs,Cs]
 | k::ks,i,s,ha=>by
  have eo:Ea p b s=Ea p' b s:=by unfold Ea Cz;rw[h]
  have ef:Bi p f s=Bi p' f s:=by unfold Bi Cz;rw[h]
  rw[Y0,Y0,Ve,Ve,ha i (B1 _) (by simp),eo,ef]
  cases(Lr l k (K6 p' c i) (Ea p' b s) (Bi p' f s)).bind fun x=>if T7 s x=true then none else some (mrg s x)with
  |none=>rfl
  |some t=>
   simp only[A3];exact Yk h ks (i+1) t fun j h1 h2=>ha j (by omega) (by rw[G7];omega)
def Yx {p p':A2} {c:Int}:∀(ks:List A4) (i:Nat),(∀j,i≤j→j<i+ks.length→K6 p c j=K6 p' c j)→BN ks p c i=BN ks p' c i
 |[],i,_=>by rw[BN,BN]
 |k::ks,i,ha=>by
  rw[BN,BN,ha i (B1 _) (by simp),Yx ks (i+1) fun j h1 h2=>ha j (by omega) (by rw[G7];omega)]
def AF3 (a b:List A4):FK (a++b)=FK a+FK b:=by simp[PB]
def Bg5 {l:List A8} {p q:A2} {r:List A2} (h3:p.Op=3) (ha:p.cQ=r++[q]) {b:List PR} {f:Int} {t:TD} {s:List PR} {ks:List A4} (hap:O1 s t.1)
 (ht:FV t.2 q=0∧Lr l t.2 q b f=some t.1∧Fa t.2≤t.1.length*q.pre.length∧Hj l f t.1)
 (hc:FV ⟨⟨0,0,0⟩,0,ks⟩ {p with cQ:=r}=0∧Lr l ⟨⟨0,0,0⟩,0,ks⟩ {p with cQ:=r} b f=some s∧Fa ⟨⟨0,0,0⟩,0,ks⟩≤s.length*({p with cQ:=r}:A2).pre.length∧Hj l f s):
 FV ⟨⟨0,0,0⟩,0,ks++[t.2]⟩ p=0∧Lr l ⟨⟨0,0,0⟩,0,ks++[t.2]⟩ p b f=some (mrg s t.1)∧Fa ⟨⟨0,0,0⟩,0,ks++[t.2]⟩≤(mrg s t.1).length*p.pre.length∧Hj l f (mrg s t.1):=by
 obtain⟨t1,t2,t3,t4⟩:=ht;obtain⟨c1,c2,c3,c4⟩:=hc;have op':({p with cQ:=r}:A2).Op=3:=h3;have hn:=(Du c1).n
 unfold FM at hn
 rw[A0 (by omega),A1 (.inr op')]at hn
 have hkr:ks.length=r.length:=by
  simp_all
 have hpre:p.pre.length=({p with cQ:=r}:A2).pre.length+q.pre.length:=by
  rw[A2.pre_eq p,A2.pre_eq {p with cQ:=r},ha,Cm]
  grind[A2.pres]
 have aq:K6 p 0 r.length=q:=by
  simp_all[K6]
 have ae:∀j,0≤j→j<0+ks.length→K6 p 0 j=K6 {p with cQ:=r} 0 j:=by
  grind[K6]
 have su2:BN ks {p with cQ:=r} 0 0=0:=by
  rw[Ia]at c1
  grind
 refine⟨?_,?_,?_,c4.all t4 hap⟩
 ·rw[Ia]
  dsimp only
  rw[A0 (by
   omega),A0 (by omega),A0 (by simp_all[FM]),Yy,Yx ks 0 ae,su2,A1 rfl,J7,hkr,BN,aq,A1 t1,BN]
 ·rw[HZ,A0 (by omega)]at c2 ⊢
  dsimp only at c2 ⊢
  obtain⟨u,hu1,hu2⟩:=Option.bind_eq_some_iff.1 c2
  rw[A0 (fun h=>by have:=h.1;omega)]at hu2
  cases Co hu2
  have e1:Ea p b s=b:=by unfold Ea Cz;rw[A0 (by omega)]
  have e2:Bi p f s=f:=by unfold Bi Cz;rw[A0 (by omega)]
  rw[Yl,Yk (p:=p) (p':={p with cQ:=r}) rfl ks 0 [] ae,hu1];simp only[A3];rw[J7,hkr,Y0,Ve,aq,e1,e2,t2];simp only[A3];rw[A0 (by rw[U8.2 hap];simp)]
  simp_all[Cs]
 simp only[Fa,FK,AF3]at *
 rw[KV,hpre,E2,Cg,Cg];omega
def Bm4 {A:List CD} (h:((A.map kT).map (·.2)).Nodup) {T:List TD} (hT:(T.map (·.2)).Nodup):(((mxS A T).map kT).map (·.2)).Nodup:=by
 unfold mxS Nodup at *
 rw[R5,R5]at h
 rw[R5]at hT
 rw[R5,R5,Jc]
 constructor
 ·intro c hc;rw[Jc]
  constructor
  ·intro t ht
   split
   ·simp_all
   simp_all
  refine hT.imp fun{a e} hne=>?_;intro x hx y hy e'
  split at hx
  ·cases hx
  split at hy
  ·cases hy
  rw[Cq]at hx hy
  subst hx;subst hy
  simp only[kT]at e'
  simp_all
 refine h.imp fun{a c} hne=>?_;intro x hx y hy e';obtain⟨t,_,hx⟩:=List.mem_flatMap.1 hx;obtain⟨u,_,hy⟩:=List.mem_flatMap.1 hy
 split at hx
 ·cases hx
 split at hy
 ·cases hy
 rw[Cq]at hx hy
 subst hx;subst hy
 simp only[kT]at e'
 injection e' with _ _ e3
 have:=(List.append_inj' e3 rfl).1;exact hne (by simp_all[kT])
def Bd2 {l:List A8} {p:A2} (h3:p.Op=3) {b:List PR} {f:Int} {T:Nat→List TD} (hT:∀i (hi:i<p.cQ.length),TL l p.cQ[i] b f (T i)):∀j,1≤j→j≤p.cQ.length→TL l {p with cQ:=p.cQ.take j} b f ((SA T j).map kT)
 |0,h,_=>absurd h (by omega)
 | 1,_,hj=>by
  have e:(SA T 1).map kT=(T 0).map (wr 0):=by
   rw[TQ];unfold mxS SA;rw[List.range_zero,H6,List.foldl_nil,W3,List.flatMap_nil,G4]
   have:∀L:List TD,(L.flatMap fun t=>if T7 ([]:List PR) t.1=true then[]else[((mrg [] t.1,[]++[t.2]):CD)]).map kT=L.map (wr 0):=by
    intro L
    induction L with
    |nil=>rfl
    |cons a L ih=>
     rw[W3,N1,ih,A0 (by simp[T7]),DN];rfl
   exact this _
  rw[e]
  have ha:({p with cQ:=p.cQ.take 1}:A2).cQ=[p.cQ[0]]:=by
   show p.cQ.take 1=_
   rw[Aw (by omega)];rfl
  exact AJ3 (p:={p with cQ:=p.cQ.take 1}) (.inr (.inr h3)) ha (hT 0 (by omega))
 | j+2,_,hj=>by
  have ih:=Bd2 h3 hT (j+1) (by omega) (by omega);have hq:=hT (j+1) (by omega);have ha:({p with cQ:=p.cQ.take (j+1+1)}:A2).cQ=p.cQ.take (j+1)++[p.cQ[j+1]]:=Aw (by omega);rw[TQ T (j+1)];refine⟨fun x hx=>?_,Bm4 ih.nd hq.nd⟩;obtain⟨c',hc',rfl⟩:=List.mem_map.1 hx
  unfold mxS at hc'
  obtain⟨c,hc,hx⟩:=List.mem_flatMap.1 hc';obtain⟨t,ht,hx⟩:=List.mem_flatMap.1 hx
  split at hx
  ·cases hx
  next hm=>
   rw[As]at hm
   rw[Cq]at hx
   subst hx;have hcm:=ih.tr (kT c) (List.mem_map_of_mem hc);exact Bg5 (p:={p with cQ:=p.cQ.take (j+1+1)}) h3 ha (U8.1 hm) (hq.tr t ht) hcm
def Az4 {N:Nat} (hN:Bgn N) {l:List A8} (hl:l.length≤10) {n:Nat} {args:List A2} (har:args.length≤64) {b:List PR} {f:Int} {T:Nat→List TD} (hTn:∀i,i<args.length→(T i).length≤4096) (hL:∀i (hi:i<args.length),P4 N n args[i] l b f=some ((T i).map GS)) (hg:∀i,i<args.length→∀t∈T i,Gd l t.1)
 (hM:∀j,j≤args.length→(SA T j).length≤4096∧∀c∈SA T j,Gd l c.1∧c.2.length≤4096):
 Jo N (n+1) args l b f=some ((SA T args.length).map TS):=by
 rw[Jo]
 refine DV (m:=args.length) (fun i acc=>(acc,(i:Int))) (fun i acc=>acc=(SA T i).map TS) (fun acc=>acc) (t0:=[⟨[],⟨⟨0,0,0⟩,0,[]⟩⟩]) rfl (by omega) (by simp[SA,TS]) (fun i hi acc ha=>?_) (fun acc _=>by
  dsimp only
  rw[A0 (K4 (by rw[B0];omega))]) (fun acc hacc=>by rw[hacc])
 obtain⟨hMl,hMc⟩:=hM i (by omega);have hTi:=hTn i hi
 have ea:ar .add .i64 (i:Int) 1=((i+1:Nat):Int):=by rw[D0 (by omega) (by omega)];omega
 refine⟨(SA T (i+1)).map TS,?_,rfl⟩
 dsimp only
 rw[A1 (T8 (by omega)),E1,C0 hi];simp only[A3];rw[hL i hi];simp only[A3];rw[TQ];subst ha
 refine DV (m:=(SA T i).length) (fun j acc'=>(acc',(j:Int))) (fun j acc'=>acc'=(mxS ((SA T i).take j) (T i)).map TS∧acc'.length≤j*4096) (fun acc'=>acc') (t0:=[]) rfl (by omega) ⟨by simp[mxS],by simp⟩ (fun j hj acc' ⟨hacc,hal⟩=>?_) (fun acc' _=>by
  dsimp only
  rw[A0 (K4 (by rw[B0,D4];omega))]) (fun acc' hacc=>by rw[hacc.1,X2,ea])
 have hcm:=E4 hj;obtain⟨c1,c2⟩:=hMc _ hcm;have hcl:=c1.len;have hj2:j*4096≤4096*4096:=G3 _ (by omega)
 have ej:ar .add .i64 (j:Int) 1=((j+1:Nat):Int):=by rw[D0 (by omega) (by omega)];omega
 have hct:((SA T i).map TS)[j]? =some (TS (SA T i)[j]):=by rw[S5,C0 hj];rfl
 generalize hcd:(SA T i)[j]=c at *
 have hone:∀t:TD,(if T7 c.1 t.1=true then[]else[((mrg c.1 t.1,c.2++[t.2]):CD)]).length≤1:=by grind
 have hfl:=MN hone (T i);refine⟨acc'++((T i).flatMap fun t=>if T7 c.1 t.1=true then[]else[((mrg c.1 t.1,c.2++[t.2]):CD)]).map TS,?_,by unfold mxS;rw[Kw hj,N1,hacc,hcd];rfl,by rw[G8,D4,E2,U0];omega⟩
 dsimp only
 rw[A1 (T8 (by rw[D4];omega))]
 refine DV (m:=(T i).length) (fun u a2=>(a2,(u:Int))) (fun u a2=>a2=acc'++(((T i).take u).flatMap fun t=>if T7 c.1 t.1=true then[]else[((mrg c.1 t.1,c.2++[t.2]):CD)]).map TS) (fun a2=>a2) (t0:=acc') rfl (by omega) (by simp) (fun u hu a2 ha2=>?_) (fun a2 _=>by
  dsimp only
  rw[A0 (K4 (by rw[B0,D4];omega))]) (fun a2 ha2=>by rw[ha2,X2,ej])
 have htm:=E4 hu;have gt:=hg i hi _ htm;have htl:=gt.len
 have hlen:a2.length≤100000000:=by
  have:=MN hone ((T i).take u)
  rw[U3]at this
  rw[ha2,G8,D4];omega
 have eu:ar .add .i64 (u:Int) 1=((u+1:Nat):Int):=by rw[D0 (by omega) (by omega)];omega
 have hut:((T i).map GS)[u]? =some (GS (T i)[u]):=by rw[S5,C0 hu];rfl
 refine⟨a2++(if T7 c.1 (T i)[u].1=true then[]else[((mrg c.1 (T i)[u].1,c.2++[(T i)[u].2]):CD)]).map TS,?_,by rw[Kw hu,N1,←E7,←ha2]⟩
 dsimp only
 have e1:(TS c).s=c.1:=rfl;have e2:(TS c).d.Kids=c.2:=rfl;have e3:(GS (T i)[u]).s=(T i)[u].1:=rfl;have e4:(GS (T i)[u]).d=(T i)[u].2:=rfl;rw[A1 (T8 (by rw[D4];omega)),E1,hct];simp only[A3];rw[E1,hut];simp only[A3];rw[e1,e2,e3,e4,Ks hN (by omega),MF _ (B1 _) c1.asc gt.asc,eu];simp only[A3]
 by_cases hm:O1 c.1 (T i)[u].1
 case neg=>
  have hm':T7 c.1 (T i)[u].1=true:=by
   rcases Bool.eq_false_or_eq_true (T7 c.1 (T i)[u].1)with h|h
   ·exact h
   exact absurd (U8.1 h) hm
  rw[A0 hm,A1 hm'];simp
 case pos=>
  have hm':¬T7 c.1 (T i)[u].1=true:=by rw[U8.2 hm];simp
  rw[A1 hm,A0 hm'];simp only[D2,A3];rw[S1 (by simp;omega)];simp only[A3,I5];rw[S1 (by simp;omega)];simp only[A3];rw[S1 (by simp;omega)];rfl
def Ar1 {N:Nat} (hN:Bgn N) {l:List A8} (hl:l.length≤10) {p:A2} (h3:p.Op=3) (har:p.cQ.length≤64) {b:List PR} {f:Int} (gb:Gd l b) {T:Nat→List TD} {m0:Nat} (hL:∀i (hi:i<p.cQ.length) n,m0≤n→E8 N n ⟨l,0⟩ p.cQ[i] (b.map O2) f=some ((T i).map Kg)) (hg:∀i,i<p.cQ.length→∀t∈T i,Gd l t.1∧t.1≠[]):
 ∀(m:Nat) (kids:List A4) (s:List PR),kids.length+m=p.cQ.length→Gd l s→∀n,m0+m+1≤n→E5 N n ⟨l,0⟩ p (b.map O2) f kids (s.map O2)=some ((mxP ((List.range' kids.length m).map T) (s,kids)).map fun c=>Kg (kT c))
 |0,kids,s,hk,gs,n,hn=>by
  obtain⟨n,rfl⟩:∃k,n=k+1:=⟨n-1,by omega⟩;rw[VW (by omega) (by omega) (by omega)];rfl
 | m+1,kids,s,hk,gs,n,hn=>by
  obtain⟨n,rfl⟩:∃k,n=k+1:=⟨n-1,by omega⟩
  have hi:kids.length<p.cQ.length:=by omega
  rw[Ny hN hl (q:=p.cQ[kids.length]) (L:=T kids.length) (E:=fun t=>(mxP ((List.range' (kids.length+1) m).map T) (mrg s t.1,kids++[t.2])).map fun c=>Kg (kT c)) gb gs (fun h=>absurd h3 h) (by omega) (by grind) (by rintro(⟨_,h⟩|⟨h,_⟩)<;>omega) (by
   rw[QF (by omega) (by rw[B0];omega),E1,C0 hi]) (by rw[A0 (by omega)];grind) (fun t ht=>hg _ hi t ht) (fun t ht hA=>by
   rw[A0 (by omega)];have:=Ar1 hN hl h3 har gb hL hg m (kids++[t.2]) (mrg s t.1) (by rw[G8,BE];omega) (gs.mrg (hg _ hi t ht).1 hA) n (by omega)
   rwa[G8,BE]at this)]
  rw[Dr,D9,mxP,Da]
  grind
def AL3 {N:Nat} (hN:Bgn N) {l:List A8} (hl:l.length≤10) (hchk:Al l=0) {k:Nat} (ih:IHT N l k) {p:A2} (h3:p.Op=3) (hw:FF p) (hpp:p.pre.length≤64) (hs:Hp l.length p) {b:List PR} {f:Nat} (ho:Lk l b f) (hk:∀q∈p.cQ,mu l q f≤k):
 ∃L,TL l p b f L∧(∀n,8*k+9≤n→Jo N n p.cQ l b f=some (L.map GS))∧(∀n,8*k+9+p.cQ.length≤n→E5 N n ⟨l,0⟩ p (b.map O2) f [] []=some (L.map Kg)):=by
 have hal:=V5 p;have hane:=hw.self.a1 (by omega) (by omega);have hap:=List.length_pos_iff.2 hane
 have hex:∀i:Nat,∃L,∀hi:i<p.cQ.length,TL l p.cQ[i] b f L∧Qt N l p.cQ[i] b f (8*k+8) L:=by
  intro i
  by_cases hi:i<p.cQ.length
  ·have hq:=E4 hi;have hpq:=K7 hq;obtain⟨L,h1,h2⟩:=ih p.cQ[i] b f (hk _ hq) (by omega) (hw.arg hq) (hs.arg hq) ho;exact⟨L,fun _=>⟨h1,h2⟩⟩
  exact⟨[],fun h=>absurd h hi⟩
 obtain⟨T,hT⟩:=Jf hex
 have few:∀i,i<p.cQ.length→(T i).length≤4096:=by
  intro i hi;have hq:=E4 hi;have hpq:=K7 hq;exact(hT i hi).1.few hl hchk (hw.arg hq) (by omega) (hs.arg hq) ho
 have hgd:∀i,i<p.cQ.length→∀t∈T i,Gd l t.1∧t.1≠[]:=by
  intro i hi t ht;obtain⟨_,_,_,hr⟩:=(hT i hi).1.tr t ht;exact⟨hr.gd,hr.ne⟩
 have tl:=Bd2 h3 fun i hi=>(hT i hi).1
 have hM:∀j,j≤p.cQ.length→(SA T j).length≤4096∧∀c∈SA T j,Gd l c.1∧c.2.length≤4096:=by
  intro j hj
  by_cases h0:j=0
  ·subst h0;refine⟨by simp[SA],fun c hc=>?_⟩
   have e:c=([],[]):=by simpa[SA]using hc
   rw[e];exact⟨Gd.nil l,by simp⟩
  have tj:=tl j (by omega) hj;have ha:=(BF j p.cQ).symm;have hpf:=Ay3 ha
  have hwj:FF {p with cQ:=p.cQ.take j}:=hw.sub (by omega) (by omega) (fun x hx=>List.mem_of_mem_take hx) (by
   grind)
  have:=tj.few hl hchk hwj (by omega) (hs.front (by omega) ha) ho;refine⟨by grind,fun c hc=>?_⟩;obtain⟨_,_,hz,hr⟩:=tj.tr (kT c) (List.mem_map_of_mem hc);have hul:=hr.gd.len;have h1:(kT c).1.length*({p with cQ:=p.cQ.take j}:A2).pre.length≤10*64:=S4 (by omega) (by omega);have h2:=Xr (L:=c.2);have h3:=Fd (kT c).2;have h4:(kT c).2.Kids=c.2:=rfl
  rw[h4]at h3
  exact⟨hr.gd,by omega⟩
 have tp:=tl p.cQ.length hap (B1 _)
 rw[X2]at tp
 have tq:TL l p b f ((SA T p.cQ.length).map kT):=by
  obtain⟨a1,a2,a3,a4,a5,a6,a7⟩:=p;exact tp
 refine⟨_,tq,fun n hn=>?_,fun n hn=>?_⟩
 ·obtain⟨n,rfl⟩:∃k,n=k+1:=⟨n-1,by omega⟩;rw[Az4 hN hl (by omega) few (fun i hi=>(hT i hi).2.ref n (by omega)) (fun i hi t ht=>(hgd i hi t ht).1) hM,J0];rfl
 have:=Ar1 hN hl h3 (by omega) ho.gd (m0:=8*k+8) (fun i hi n hn=>(hT i hi).2.prg n hn) hgd p.cQ.length [] [] (by simp) (Gd.nil l) n (by omega)
 rw[H6]at this
 rw[this,Bg4,J0];rfl
def Zk {q:A2}:∀{l:List A2},q∈l→q.pre.length+l.length≤(A2.pres l).length+1
 |a::l,h=>by
  have h0:=QZ l;simp only[A2.pres,G8,G7]
  rcases List.mem_cons.1 h with rfl|h
  ·omega
  have:=Zk h;have:=A2.pre_eq a
  have:1≤a.pre.length:=by rw[this];simp
  omega
def SB {l:List A8}{p q:A2}(hq:q∈p.cQ)(f g:Nat):mu l q g+2*p.cQ.length≤mu l p f:=by
 have h1:=Zk hq
 have h2:p.pre.length=(A2.pres p.cQ).length+1:=by rw[A2.pre_eq];simp
 have h3:=List.length_pos_iff.2 (List.ne_nil_of_mem hq);have h4:(q.pre.length+p.cQ.length)*(l.length+2)≤p.pre.length*(l.length+2):=G3 _ (by omega)
 rw[E2,Cg p.cQ.length]at h4
 have h5:1*l.length≤p.cQ.length*l.length:=G3 _ h3
 grind[mu]
def ZB {l:List A8}{p q:A2}(hq:q∈p.cQ){f g:Nat}(h:f≤g):mu l q g+(l.length+2)≤mu l p f:=by
 have h1:=K7 hq;have h4:(q.pre.length+1)*(l.length+2)≤p.pre.length*(l.length+2):=G3 _ h1
 rw[E2,U0]at h4
 grind[mu]
def AG1 {L:List TD} (h:∀t∈L,IsK t):L.map (sk [] [])=L:=by
 have:∀L:List TD,(∀t∈L,IsK t)→L.map (sk [] [])=L:=by
  intro L
  induction L with
  |nil=>intro _;rfl
  |cons a L ih=>
   intro h;rw[D9,ih fun t ht=>h t (by simp[ht])];have:=h a (by simp)
   unfold IsK at this
   congr 1
   obtain⟨a1,a2⟩:=a;unfold sk;rw[DN]
   grind
 grind
def UP {N n:Nat}{x:E6}{p:A2}(h:p.Op=1∨p.Op=3∨p.Op=4){o:List DP}{f:Int}{L:List A7}(hL:E5 N n x p o f [] []=some L):L7 N (n+1) x p o f=some L:=by
 rw[L7,A0 (MP (by omega)),A0 (MP (by omega))]
 rcases h with h|h|h
 ·rw[A1 (J4 h)];simp only[W5,A3];rw[A1 trivial,hL];simp
 ·rw[A0 (MP (by omega)),A1 (J4 h)];simp only[W5,A3];rw[A1 trivial,hL];simp
 rw[A0 (MP (by omega)),A0 (MP (by omega))];simp only[W5,A3];rw[A1 (J4 h),hL];simp
def AM5 {N:Nat} (hN:Bgn N) {l:List A8} (hl:l.length≤10) (hchk:Al l=0):∀K,IHT N l K:=by
 intro K
 induction K using Nat.strongRecOn with
 | _ K rec=>
  intro p b f hmu hpp hw hs ho
  have hp0:1≤p.pre.length:=by rw[A2.pre_eq];simp
  have hK:2≤K:=by
   have h4:1*(l.length+2)≤p.pre.length*(l.length+2):=G3 _ hp0
   unfold mu at hmu
   omega
  have hop:=hw.self.op
  by_cases h0:p.Op=0
  ·obtain⟨L,h1,h2⟩:=Aj5 hN hl hchk hw h0 ho;exact⟨L,h1,h2.mono (by omega)⟩
  by_cases h1:p.Op=1
  ·have hane:=hw.self.a1 (by omega) (by omega);have hap:=List.length_pos_iff.2 hane;obtain⟨q0,hq0⟩:∃q,q∈p.cQ:=BH _ hane;have hm0:=SB (l:=l) hq0 f f;obtain⟨L,hL⟩:=YP hN hl hchk (rec (K-2*p.cQ.length) (by omega)) p.cQ p b f h1 rfl hane hw hpp hs ho (fun q hq g=>by have:=SB (l:=l) hq f g;omega);have hal:=V5 p;refine⟨L,hL.tl,fun n hn=>?_,fun n hn=>?_⟩
   ·obtain⟨n,rfl⟩:∃k,n=k+1:=⟨n-1,by omega⟩;rw[P4,A0 (MP (by omega)),A1 (J4 h1),hL.ref n (by omega)];rfl
   obtain⟨n,rfl⟩:∃k,n=k+3:=⟨n-3,by omega⟩;refine NF hN rfl (UP (.inl h1) ?_) (by rw[D4];exact hL.tl.few hl hchk hw hpp hs ho);have:=hL.prg p [] [] b [] h1 rfl rfl (by omega) ho.gd (Gd.nil l) (fun _ _ y hy=>absurd hy BC) (X5 b).symm n (by omega)
   rw[H6,AG1 hL.k]at this
   exact this
  by_cases h3:p.Op=3
  ·have hane:=hw.self.a1 (by omega) (by omega);have hap:=List.length_pos_iff.2 hane;obtain⟨q0,hq0⟩:∃q,q∈p.cQ:=BH _ hane;have hm0:=SB (l:=l) hq0 f f;obtain⟨L,h5,h6,h7⟩:=AL3 hN hl hchk (rec (K-2*p.cQ.length) (by omega)) h3 hw hpp hs ho (fun q hq=>by have:=SB (l:=l) hq f f;omega);refine⟨L,h5,fun n hn=>?_,fun n hn=>?_⟩
   ·obtain⟨n,rfl⟩:∃k,n=k+1:=⟨n-1,by omega⟩;rw[P4,A0 (MP (by omega)),A0 (MP (by omega)),A0 (MP (by omega)),A1 (J4 h3),h6 n (by omega)];rfl
   obtain⟨n,rfl⟩:∃k,n=k+3:=⟨n-3,by omega⟩;exact NF hN rfl (UP (.inr (.inl h3)) (h7 n (by omega))) (by rw[D4];exact h5.few hl hchk hw hpp hs ho)
  by_cases h4:p.Op=4
  ·obtain⟨q,hq⟩:=hw.self.a2 (by omega)
   have hqm:q∈p.cQ:=by rw[hq];simp
   have hm0:=ZB (l:=l) hqm (B1 f);obtain⟨L,hL⟩:=Ah0 hN hl hchk (rec (K-(l.length+2)) (by omega)) h4 hq hw hpp hs (f0:=f) (fun g hg=>by have:=ZB (l:=l) hqm hg;omega) (l.length-f) b f (B1 _) (B1 _) ho;refine⟨L,hL.tl,fun n hn=>?_,fun n hn=>?_⟩
   ·obtain⟨n,rfl⟩:∃k,n=k+1:=⟨n-1,by omega⟩;rw[P4,A0 (MP (by omega)),A0 (MP (by omega)),A1 (J4 h4),hL.ref n (by omega)];rfl
   obtain⟨n,rfl⟩:∃k,n=k+3:=⟨n-3,by omega⟩;refine NF hN rfl (UP (.inr (.inr h4)) ?_) (by rw[D4];exact hL.tl.few hl hchk hw hpp hs ho);have:=hL.prg [] b [] (by simp;omega) ho.gd (Gd.nil l) (fun _ _ y hy=>absurd hy BC) (X5 b).symm n (by omega)
   rw[H6,AG1 hL.k,A1 rfl]at this
   exact this
  obtain⟨k,rfl⟩:∃k,K=k+1:=⟨K-1,by omega⟩;obtain⟨L,h5,h6⟩:=AM4 hN hl hchk (rec k (by omega)) hw hpp hs (by omega) ho (by omega)
  grind
abbrev BG:=C1
def WK {α:Type}{l:List α}{i:Nat}(h:i<l.length)(v:α):FJ l (i:Int) (fun _=>v)=some (l.set i v):=by
 unfold FJ;rw[E1,C0 h,R6];rfl
def JJ {α:Type}{l:List α}{i:Nat}(h:i<l.length):FL (Lu l (i:Int))=some ():=by
 simp_all[FL,Lu]
def Vv (l:List BG)(j i:Int):Option (List BG):=
 (FL (Lu l j)).bind fun _=>
 (B9 l j).bind fun x=>
 (FL (Lu l i)).bind fun _=>
 (B9 l i).bind fun y=>
 (FL (Lu l i)).bind fun _=>
 (FJ l i (fun _=>x)).bind fun l1=>
 (FL (Lu l1 j)).bind fun _=>
 (FJ l1 j (fun _=>y)).bind fun l2=>
 some l2
def Yv {l:List BG}{i j:Nat}(hi:i<l.length)(hj:j<l.length):Vv l (j:Int) (i:Int)=some ((l.set i l[j]).set j l[i]):=by
 unfold Vv;rw[JJ hj,JJ hi,E1,C0 hj,E1,C0 hi];simp only[A3];rw[WK hi];simp only[A3];rw[JJ (by grind),WK (by grind)];rfl
def Uj {α:Type}(P S:List α)(x:α){i:Nat}(h:i=P.length)(hi:i<(P++x::S).length):(P++x::S)[i]=x:=by
 grind
def Av6 {P M S:List BG} {x y:BG} {i j:Nat} (hi:i=P.length) (hj:j=P.length+1+M.length):
 Vv (P++x::(M++y::S)) (j:Int) (i:Int)=some (P++y::(M++x::S))∧Vv (P++x::(M++y::S)) (i:Int) (j:Int)=some (P++y::(M++x::S)):=by
 have h1:i<(P++x::(M++y::S)).length:=by simp;omega
 have h2:j<(P++x::(M++y::S)).length:=by simp;omega
 have g1:(P++x::(M++y::S))[i]=x:=Uj _ _ _ hi h1
 have e:∀z:BG,P++z::(M++y::S)=(P++z::M)++y::S:=fun z=>by simp
 have g2:(P++x::(M++y::S))[j]=y:=by
  have h2':j<((P++x::M)++y::S).length:=by rw[←e];exact h2
  have h3:=Uj (P++x::M) S y (i:=j) (by simp;omega) h2'
  have h4:(P++x::(M++y::S))[j]? =((P++x::M)++y::S)[j]? :=by rw[e x]
  rw[C0 h2,C0 h2',h3]at h4
  grind
 rw[Yv h1 h2,Yv h2 h1,g1,g2]
 grind
mutual
def At4:∀(a b:A4),dO a b=0→a=b
 | ⟨r,c,ks⟩,⟨r',c',ks'⟩,h=>by
  simp only[dO]at h
  by_cases h1:M9 (N9 r) (N9 r')=0
  ·rw[A0 (fun k=>k h1)]at h
   by_cases h2:Vt c c'=0
   ·rw[A0 (fun k=>k h2)]at h
    have e1:=JG h1
    have e2:c=c':=by
     grind[Vt]
    have e3:=Ab3 ks ks' h
    have e4:r=r':=by
     cases r;simp_all[N9]
    rw[e2,e3,e4]
   omega
  omega
def Ab3:∀(l m:List A4),Wo l m=0→l=m
 |[],[],_=>rfl
 |[],_::_,h=>by simp[Wo]at h
 |_::_,[],h=>by simp[Wo]at h
 | a::l,b::m,h=>by
  simp only[Wo]at h
  by_cases h1:dO a b=0
  ·rw[A0 (fun k=>k h1)]at h
   rw[At4 a b h1,Ab3 l m h]
  omega
end
def RQ {a b c:A4}(h1:dO a b<0)(h2:dO b c<0):dO a c<0:=(AO9 (by omega) (by omega)).2 h1
def XX (r:List A4):Prop:=r.Pairwise fun a b=>dO a b<0
def Bf2 {N:Nat} (hN:Bgn N) {L r:List A4} (hp:r.Perm L) (ha:XX r) (hb:∀x∈r,Fa x≤4096) (hl:L.length≤1000000):Mp (fun y1 y2=>P8 N N y1 y2) L=some r:=by
 have hd:∀x∈r,NG x≤N∧Fa x≤30000000:=fun x hx=>by have:=hb x hx;have:=Wl x;omega
 refine YB hp (ES.2 ⟨fun a h=>?_,?_⟩) (by omega)
 ·unfold geC
  dsimp only
  rw[SJ hN N a a (hd a h).1 (hd a h).2,Ba0];rfl
 refine Jg (fun{x y} hx hy hlt=>?_) ha
 constructor
 ·unfold VQ
  dsimp only
  rw[SJ hN N x y (hd x hx).1 (hd x hx).2]
  simp_all
 unfold geC
 dsimp only
 rw[SJ hN N y x (hd y hy).1 (hd y hy).2,AP0]
 grind
def Bm6 {N:Nat} (hN:Bgn N) {m:A4} (hm:Fa m≤4096) {out:List A4} (hl:out.length≤1000000) (ha:XX out) (hn:∀x∈out,dO m x≠0):
 ∃k,k≤out.length∧Fe N out m=some (out.take k++[m]++out.drop k)∧XX (out.take k++[m]++out.drop k):=by
 have hcmp:∀y,Z9 N N m y=some (dO m y):=fun y=>Za hN N m y (by have:=Wl m;omega) (by omega)
 have key:∀(k M:Nat),k≤out.length→k<M→(∀x∈out.drop k,dO m x<0)→∃k',k'≤out.length∧loopN
  (fun(s1:Int)=>
  (
   if Ar.cmp .gtr s1 0=true then
    (B9 out (ar .sub .i64 s1 1)).bind fun x3=>
    (Z9 N N m x3).bind fun r4=>
    if Ar.cmp .lss r4 0=true then
     some (.inl (ar .sub .i64 s1 1))
    else
     some (.inr s1)
   else
    some (.inr s1)
   :Option ((Int)⊕(Int))))
    M (k:Int)=some (k':Int)∧(∀x∈out.drop k',dO m x<0)∧(∀x∈out.take k',dO x m<0):=by
  intro k
  induction k with
  |zero=>
   intro M _ hM hd;obtain⟨M,rfl⟩:∃m,M=m+1:=⟨M-1,by omega⟩;refine⟨0,by omega,?_,hd,by simp⟩;unfold loopN;rw[A0 (Q4 (by omega))]
  | succ k ih=>
   intro M hk hM hd;obtain⟨M,rfl⟩:∃m,M=m+1:=⟨M-1,by omega⟩
   have hlt:k<out.length:=by omega
   have hmem:out[k]∈out:=E4 hlt
   have e1:ar .sub .i64 ((k+1:Nat):Int) 1=(k:Int):=by rw[Gs (by omega) (by omega)];omega
   by_cases hc:dO m out[k]<0
   ·obtain⟨k',h1,h2,h3⟩:=ih M (by omega) (by omega) (fun x hx=>by
     rw[O4 hlt]at hx
     grind)
    refine⟨k',h1,?_,h3⟩;unfold loopN;rw[A1 (W1 (by omega)),e1,E1,C0 hlt];simp only[A3];rw[hcmp];simp only[A3];rw[A1 (W8 hc)];exact h2
   have hgt:dO out[k] m<0:=by
    have:=hn _ hmem;rw[AP0 m];omega
   refine⟨k+1,hk,?_,hd,fun x hx=>?_⟩
   ·unfold loopN;rw[A1 (W1 (by omega)),e1,E1,C0 hlt];simp only[A3];rw[hcmp];simp only[A3];rw[A0 (K4 hc)]
   rw[Aw hlt]at hx
   rcases List.mem_append.1 hx with hx|hx
   ·obtain⟨j,hj,e⟩:=M4 hx
    rw[U3]at hj
    have hjk:j<k:=by omega
    rw[LS]at e
    have:=List.pairwise_iff_getElem.1 ha j k (by omega) hlt hjk
    rw[e]at this
    exact RQ this hgt
   simp_all
 obtain⟨k',h1,h2,h3,h4⟩:=key out.length N (B1 _) (by omega) (by simp);refine⟨k',h1,?_,?_⟩
 ·unfold Fe;rw[B0,h2];simp only[A3];rw[SY h1,Al2 h1]
  grind[P9]
 unfold XX at ha ⊢
 rw[GN,GN];refine⟨⟨ha.sublist (List.take_sublist _ _),by simp,fun a h b hb=>?_⟩,ha.sublist (List.drop_sublist _ _),fun a h b hb=>?_⟩
 ·rw[List.mem_singleton.1 hb];exact h4 a h
 rcases List.mem_append.1 h with h|h
 ·exact RQ (h4 a h) (h3 b hb)
 simp_all
def AC0 {N:Nat} (hN:Bgn N) {p:A2} {l:List A8} {L:List TD} (hL:L.length≤4096) (hn:(L.map (·.2)).Nodup) (hz:∀t∈L,Fa t.2≤4096) (h:P4 N N p l [] 0=some (L.map GS)):
 ∃r,Jq N p l=some r∧XX r∧r.Perm (L.map (·.2)):=by
 unfold Jq;rw[h];simp only[A3]
 have hstep:∀i,i<L.length→∀acc:List A4,(XX acc∧acc.Perm ((L.take i).map (·.2)))→∃acc',(fun(s2:(List A4)×Int)=>
  (
   if Ar.cmp .lss s2.2 (Ar.len (L.map GS))=true then
    (B9 (L.map GS) s2.2).bind fun x4=>
    (Fe N s2.1 x4.d).bind fun r5=>
    some (.inl (r5,ar .add .i64 s2.2 1))
   else
    some (.inr s2.1)
   :Option (((List A4)×Int)⊕(((List A4)))))) (acc,(i:Int))=some (.inl (acc',((i+1:Nat):Int)))∧(XX acc'∧acc'.Perm ((L.take (i+1)).map (·.2))):=by
  intro i hi acc ⟨ha,hp⟩
  have hx:((L.map GS)[i]?)=some (GS L[i]):=by rw[S5,C0 hi];rfl
  have hlen:acc.length≤4096:=by
   have:=hp.length_eq
   rw[D4,U3]at this
   omega
  obtain⟨k,k1,k2,k3⟩:=Bm6 hN (m:=L[i].2) (hz _ (E4 hi)) (out:=acc) (by omega) ha (fun x hx' e=>by
   have e2:=At4 _ _ e;obtain⟨t,ht,e3⟩:=List.mem_map.1 (hp.mem_iff.1 hx');obtain⟨j,hj,e4⟩:=List.mem_iff_getElem.1 ht
   rw[U3]at hj
   rw[LS]at e4
   unfold Nodup at hn
   have:=List.pairwise_iff_getElem.1 hn j i (by rw[D4];omega) (by rw[D4];omega) (by omega)
   rw[Dq,Dq,e4]at this
   simp_all)
  refine⟨_,?_,k3,?_⟩
  ·dsimp only
   rw[A1 (T8 (by rw[D4];omega)),E1,hx];simp only[A3];have e1:(GS L[i]).d=L[i].2:=rfl;rw[e1,k2];simp only[A3];rw[D0 (by omega) (by omega)];rfl
  rw[Aw hi,N1];refine List.Perm.trans ?_ (hp.append_right _);rw[E7];refine(List.perm_append_comm.append_left _).trans ?_;rw[←E7,BF]
  grind
 obtain⟨acc,⟨ha,hp⟩,e⟩:=SF (N:=N) (m:=L.length) (rep:=fun i (acc:List A4)=>(acc,(i:Int))) (I:=fun i acc=>XX acc∧acc.Perm ((L.take i).map (·.2))) (res:=fun acc=>acc) (t0:=[]) (step:=(fun(s2:(List A4)×Int)=>
  (
   if Ar.cmp .lss s2.2 (Ar.len (L.map GS))=true then
    (B9 (L.map GS) s2.2).bind fun x4=>
    (Fe N s2.1 x4.d).bind fun r5=>
    some (.inl (r5,ar .add .i64 s2.2 1))
   else
    some (.inr s2.1)
   :Option (((List A4)×Int)⊕(((List A4))))))) hstep (fun acc _=>by
  dsimp only
  rw[A0 (K4 (by rw[B0,D4];omega))]) (by omega) ⟨List.Pairwise.nil,by simp⟩
 rw[X2]at hp
 simp_all
def Wt {R:Type} {step:List A4→A7→Option (List A4⊕R)} (hs:∀s y,s.length≤100000→step s y=some (.inl (s++[y.d]))):∀(L:List TD) (s:List A4),s.length+L.length≤100000→L6 step (L.map Kg) s=some (.inl (s++L.map (·.2)))
 |[],s,_=>by simp[L6]
 |t::L,s,h=>by
  rw[G7]at h
  rw[D9,L6,hs s _ (by omega)]
  dsimp only
  rw[Wt hs L (s++[(Kg t).d]) (by rw[G8,BE];omega)];rw[D9,E7];rfl
def cB (x y:BG):Int:=M9 (N9 x.Ref) (N9 y.Ref)
def WA (x y:BG):Prop:=cB x y≤0
def Ya (l:List BG):Prop:=l.Pairwise WA
def AP6 (x y:BG):cB y x= - cB x y:=TY _ _
def WA.of_lt {x y:BG}(h:cB x y<0):WA x y:=by unfold WA;omega
def WA.of_not {x y:BG}(h:¬cB x y<0):WA y x:=by unfold WA;rw[AP6];omega
def WA.trans {x y z:BG}(h1:WA x y)(h2:WA y z):WA x z:=by
 unfold WA cB at *
 by_cases e1:M9 (N9 x.Ref) (N9 y.Ref)=0
 ·rw[JG e1];exact h2
 by_cases e2:M9 (N9 y.Ref) (N9 z.Ref)=0
 ·rw[←JG e2];exact h1
 have:=Gb (a:=N9 x.Ref) (b:=N9 y.Ref) (c:=N9 z.Ref) (by omega) (by omega);omega
theorem WA.refl (x:BG):WA x x:=by unfold WA cB;rw[DQ];exact Int.le_refl _
variable {N:Nat}{cmp:BG→BG→Option Int}
def insB (hN:Bgn N) (hc:∀x y,cmp x y=some (cB x y)) (P S:List BG) (x:BG) {a:Int} (ha:a=P.length):∀(n K:Nat) (Q1 Q2:List BG),Q1.length≤n→n<K→Ya (Q1++Q2)→(∀y∈Q2,cB x y<0)→(P++Q1++x::(Q2++S)).length≤1000000→
 ∃ Z,Z.Perm (Q1++x::Q2)∧Ya Z∧loopN (fun(s4:Int×(List C1))=>
  (
   if Ar.cmp .gtr s4.1 a=true then
    (FL (Lu s4.2 s4.1)).bind fun _=>
    (B9 s4.2 s4.1).bind fun x7=>
    (FL (Lu s4.2 (ar .sub .i64 s4.1 1))).bind fun _=>
    (B9 s4.2 (ar .sub .i64 s4.1 1)).bind fun x8=>
    (cmp x7 x8).bind fun r9=>
    if Ar.cmp .lss r9 0=true then
     (Vv s4.2 (ar .sub .i64 s4.1 1) s4.1).bind fun s10=>
     some (.inl (ar .sub .i64 s4.1 1,s10))
    else
     some (.inr s4.2)
   else
    some (.inr s4.2)
   :Option ((Int×(List C1))⊕(((List C1)))))) K (((P.length+Q1.length:Nat):Int),P++Q1++x::(Q2++S))=some (P++Z++S):=by
 intro n
 induction n with
 |zero=>
  intro K Q1 Q2 h1 hK hs hx hl;obtain rfl:Q1=[]:=List.length_eq_zero_iff.1 (by omega);obtain⟨K,rfl⟩:∃q,K=q+1:=⟨K-1,by omega⟩;refine⟨x::Q2,IN _,List.pairwise_cons.2 ⟨fun y hy=>.of_lt (hx y hy),by simpa[Ya]using hs⟩,?_⟩;unfold loopN
  dsimp only
  rw[A0 (Q4 (by rw[ha];simp))];simp
 | succ n ih=>
  intro K Q1 Q2 h1 hK hs hx hl;obtain⟨K,rfl⟩:∃q,K=q+1:=⟨K-1,by omega⟩
  rcases Eu Q1 with rfl|⟨Q,y,rfl⟩
  ·exact ih (K+1) [] Q2 (by simp) (by omega) hs hx hl
  rw[Et]at *
  simp only[G8,G7,X1]at h1 hl
  have hli:(P++(Q++[y])++x::(Q2++S)).length=P.length+Q.length+1+1+Q2.length+S.length:=by simp;omega
  have i1:P.length+(Q++[y]).length<(P++(Q++[y])++x::(Q2++S)).length:=by rw[hli];simp;omega
  have i2:P.length+Q.length<(P++(Q++[y])++x::(Q2++S)).length:=by rw[hli];omega
  have g1:(P++(Q++[y])++x::(Q2++S))[P.length+(Q++[y]).length]=x:=Uj _ _ _ (by simp) i1
  have g2:(P++(Q++[y])++x::(Q2++S))[P.length+Q.length]? =some y:=by
   rw[show P++(Q++[y])++x::(Q2++S)=(P++Q)++y::(x::(Q2++S)) by simp,FU (by simp)];simp
  have e1:ar .sub .i64 ((P.length+(Q++[y]).length:Nat):Int) 1=((P.length+Q.length:Nat):Int):=by
   rw[Gs (by simp;omega) (by simp;omega)];simp;omega
  unfold loopN
  dsimp only
  rw[A1 (W1 (by rw[ha];simp;omega)),JJ i1,E1,C0 i1,g1,e1,JJ i2,E1,g2];simp only[A3];rw[hc];simp only[A3]
  by_cases hlt:cB x y<0
  ·rw[A1 (W8 hlt)];have hsw:=(Av6 (P:=P++Q) (M:=[]) (S:=Q2++S) (x:=y) (y:=x) (i:=P.length+Q.length) (j:=P.length+(Q++[y]).length) (by simp) (by simp;omega)).2;rw[show P++(Q++[y])++x::(Q2++S)=(P++Q)++y::([]++x::(Q2++S)) by simp,hsw];simp only[A3]
   have hs':Ya (Q++(y::Q2)):=by unfold Ya at *;simpa using hs
   have hx':∀z∈y::Q2,cB x z<0:=fun z hz=>by
    rcases List.mem_cons.1 hz with rfl|h
    ·exact hlt
    exact hx z h
   obtain⟨Z,z1,z2,z3⟩:=ih K Q (y::Q2) (by omega) (by omega) hs' hx' (by simp;omega);refine⟨Z,z1.trans ?_,z2,?_⟩
   ·rw[E7];exact Rd Q (List.Perm.swap y x Q2)
   rw[show P++Q++x::([]++y::(Q2++S))=P++Q++x::((y::Q2)++S) by simp];exact z3
  rw[A0 (K4 hlt)];refine⟨(Q++[y])++x::Q2,IN _,?_,by simp⟩
  unfold Ya at *
  rw[GN]at hs ⊢
  refine⟨hs.1,List.pairwise_cons.2 ⟨fun z hz=>.of_lt (hx z hz),hs.2.1⟩,fun z hz w hw=>?_⟩
  have hzy:WA z y:=by
   rcases List.mem_append.1 hz with h|h
   ·have:=hs.1
    rw[GN]at this
    exact this.2.2 z h y (by simp)
   rw[List.mem_singleton.1 h];exact .refl _
  rcases List.mem_cons.1 hw with rfl|h
  ·exact hzy.trans (.of_not hlt)
  exact hs.2.2 z hz w h
def Ak3 (hN:Bgn N) (hc:∀x y,cmp x y=some (cB x y)) (P X S:List BG) {a b:Int} (ha:a=P.length) (hb:b=((P.length+X.length:Nat):Int)) (hl:(P++X++S).length≤1000000):
 ∃Z,Z.Perm X∧Ya Z∧M7 N (P++X++S) a b cmp=some (P++Z++S):=by
 have hl':=hl
 simp only[G8]at hl'
 have ha1:ar .add .i64 a 1=((P.length+1:Nat):Int):=by rw[ha,D0 (by omega) (by omega)];omega
 rcases LV X.length with h0|h0
 ·obtain rfl:X=[]:=List.length_eq_zero_iff.1 h0;refine⟨[],IN _,List.Pairwise.nil,?_⟩;unfold M7;obtain⟨K,rfl⟩:∃q,N=q+1:=⟨N-1,by omega⟩;unfold loopN
  dsimp only
  rw[ha1,A0 (K4 (by rw[hb];simp;omega))];rfl
 unfold M7
 obtain ⟨t,⟨t1,t2⟩,h⟩:=SF (N:=N) (m:=X.length-1) (T:=List BG) (R:=List BG) (step:=fun(s1:Int×(List C1))=>
  (
   if Ar.cmp .lss s1.1 b=true then
    (loopN
     (fun(s4:Int×(List C1))=>
      (
       if Ar.cmp .gtr s4.1 a=true then
        (FL (Lu s4.2 s4.1)).bind fun _=>
        (B9 s4.2 s4.1).bind fun x7=>
        (FL (Lu s4.2 (ar .sub .i64 s4.1 1))).bind fun _=>
        (B9 s4.2 (ar .sub .i64 s4.1 1)).bind fun x8=>
        (cmp x7 x8).bind fun r9=>
        if Ar.cmp .lss r9 0=true then
         (Vv s4.2 (ar .sub .i64 s4.1 1) s4.1).bind fun s10=>
         some (.inl (ar .sub .i64 s4.1 1,s10))
        else
         some (.inr s4.2)
       else
        some (.inr s4.2)
       :Option ((Int×(List C1))⊕(((List C1))))))
     N (s1.1,s1.2)).bind fun s6=>
    some (.inl (ar .add .i64 s1.1 1,s6))
   else
    some (.inr s1.2)
   :Option ((Int×(List C1))⊕(((List C1))))))
  (rep:=fun k t=>(((P.length+1+k:Nat):Int),P++t++(X.drop (k+1)++S))) (I:=fun k t=>t.Perm (X.take (k+1))∧Ya t) (res:=fun t=>P++t++S) (fun k hk t ⟨t1,t2⟩=>by
   have hk1:k+1<X.length:=by omega
   have tl:t.length=k+1:=by rw[t1.length_eq,U3];omega
   have ed:P++t++(X.drop (k+1)++S)=P++t++X[k+1]::([]++(X.drop (k+1+1)++S)):=by
    rw[O4 hk1];simp only[I5,Y8]
   obtain⟨Z,z1,z2,z3⟩:=insB hN hc P (X.drop (k+1+1)++S) X[k+1] ha t.length N t [] (B1 _) (by omega) (by simpa using t2) (fun y hy=>absurd hy BC) (by simp;omega);refine⟨Z,?_,z1.trans ?_,z2⟩
   ·dsimp only
    rw[A1 (W8 (by rw[hb];omega)),ed]
    rw[show P.length+t.length=P.length+1+k by omega]at z3
    rw[z3];simp only[A3];rw[D0 (by omega) (by omega)];rfl
   ·rw[Aw hk1]
    exact List.Perm.append_right _ t1) (fun t _=>by
   dsimp only
   rw[A0 (K4 (by rw[hb];omega)),Dg (by omega),I5]) (by omega) (t0:=X.take 1) ⟨IN _,by
    unfold Ya
    match X with
    |[]=>exact List.Pairwise.nil
    |[x]=>exact HV _ _
    |x::_::_=>exact HV _ _⟩
 refine⟨t,?_,t2,?_⟩
 ·rw[show X.length-1+1=X.length by omega,X2]at t1;exact t1
 rw[show P++X.take 1++(X.drop (0+1)++S)=P++X++S by rw[J7,←E7,E7 P,BF],show((P.length+1+0:Nat):Int)=ar .add .i64 a 1 by rw[ha1]]at h
 exact I4 (fun x=>x.bind fun s3=>some s3) h
end
end Go.Ab
namespace Go.Ab
open Classical
noncomputable section
variable {N:Nat}{cmp:BG→BG→Option Int}
def AF8 {l:List BG}(h:Ya l){i j:Nat}(hij:i≤j)(hj:j<l.length):WA (l[i]'(by omega)) l[j]:=by
 rcases Bn i j with h1|h1
 ·exact List.pairwise_iff_getElem.1 h i j (by omega) hj h1
 obtain rfl:i=j:=by omega
 exact .refl _
def Ya.take {l:List BG}(h:Ya l)(n:Nat):Ya (l.take n):=List.Pairwise.sublist (List.take_sublist _ _) h
def Ya.drop {l:List BG}(h:Ya l)(n:Nat):Ya (l.drop n):=List.Pairwise.sublist (List.drop_sublist _ _) h
end
end Go.Ab
