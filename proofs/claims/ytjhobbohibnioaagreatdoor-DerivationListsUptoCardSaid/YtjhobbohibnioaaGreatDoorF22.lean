/- . -/
import Derived.Test.YtjhobbohibnioaaGreatDoorF21
set_option linter.all false
open List (Nodup)
open Go.Ab.Ar (ar cmp nt)
namespace Go.Ab
open Classical
noncomputable section
theorem Xk (l:List A8) (p:A1) (c:Int) (b:List PR) (f:Int):∀(ks ks':List A3) (i:Nat) (s:List PR),Dz l (ks++ks') p c i b f s=(Dz l ks p c i b f s).bind fun t=>Dz l ks' p c (i+ks.length) b f t
 |[],ks',i,s=>by rw[K2,Dz];rfl
 | k::ks,ks',i,s=>by
  rw[X2,W2,W2]
  cases Uu l p c b f k i s with
  |none=>rfl
  |some t=>
   simp only[A4];rw[Xk l p c b f ks ks' (i+1) t,H7,show i+1+ks.length=i+(ks.length+1) by omega]
theorem Xx (p:A1) (c:Int):∀(ks ks':List A3) (i:Nat),Ci (ks++ks') p c i=if Ci ks p c i=0 then Ci ks' p c (i+ks.length)else Ci ks p c i
 |[],ks',i=>by rw[K2,Ci,A2 rfl];rfl
 |k::ks,ks',i=>by
  rw[X2,Ci,Ci]
  by_cases h:IU k (M4 p c i)=0
  ·rw[A2 h,A2 h,Xx p c ks ks' (i+1),H7,show i+1+ks.length=i+(ks.length+1) by omega]
  omega
theorem AJ0 {a b:List PR}(ha:Ui a)(hb:Ui b)(p:a.Perm b):a=b:=by
 refine QS (le:=fun x y:PR=>x.At<y.At) (fun x y _ _ h1 h2=>by omega) ha hb p
theorem EE {a b c:List PR}(ha:Ui a)(hb:Ui b)(hc:Ui c)(h1:O1 a b)(h2:O1 a c)(h3:O1 b c):mrg (mrg a b) c=mrg a (mrg b c):=by
 have hab:=Jh _ (B3 _) ha hb h1;have hbc:=Jh _ (B3 _) hb hc h3;have k1:O1 (mrg a b) c:=fun x hx y hy=>(M2.1 hx).elim (fun h=>h2 x h y hy) fun h=>h3 x h y hy;have k2:O1 a (mrg b c):=fun x hx y hy=>(M2.1 hy).elim (fun h=>h1 x hx y h) fun h=>h2 x hx y h;refine AJ0 (Jh _ (B3 _) hab hc k1) (Jh _ (B3 _) ha hbc k2) ?_;refine(EO _ _ _ (B3 _)).trans (((EO _ a b (B3 _)).append_right c).trans ?_);rw[E6];exact(((EO _ b c (B3 _)).append_left a).symm).trans (EO _ _ _ (B3 _)).symm
structure CK (l:List A8) (p:A1) (b:List PR) (f:Int) (j:Nat) (s s':List PR) (ks:List A3):Prop where
 su:Ci ks p 0 j=0
 vl:Dz l ks p 0 j b f s=some (mrg s s')
 sz:Fi ks≤s'.length*(p.pre.length-1)
 res:GR l (AP p f s) s'
 ap:O1 s s'
abbrev CD:=List PR×List A3
def Ti (c:CD):A9:=⟨c.1,⟨⟨0,0,0⟩,0,c.2⟩⟩
def Wc (last:Bool)(D:TD→List CD)(t:TD):List CD:=if last=true then[(t.1,[t.2])]else(D t).map fun c=>(mrg t.1 c.1,t.2::c.2)
theorem TS {N:Nat} (hN:40000000≤N) {l:List A8} (hl:l.length≤10) {n:Nat} {q:A1} {rest:List A1} (hrl:rest.length≤64) {b:List PR} {f:Int} (gb:Gd l b) {L:List TD} {D:TD→List CD} (hLn:L.length≤4096) (hL:M3 N n q l b f=some (L.map Gu)) (hg:∀t∈L,Gd l t.1∧t.1≠[]∧O1 b t.1)
 (hD:rest≠[]→∀t∈L,Ao N n rest l (mrg b t.1) (S4 t.1+1)=some ((D t).map Ti)∧(D t).length≤4096∧∀c∈D t,Gd l c.1∧O1 t.1 c.1∧c.2.length≤4096):
 Ao N (n+1) (q::rest) l b f=some ((L.flatMap (Wc (decide (rest=[])) D)).map Ti):=by
 have hbl:=gb.len;rw[Ao];have h0:C3 (q::rest) 0=some q:=rfl;rw[h0];simp only[A4];rw[hL];simp only[A4]
 refine Fx (m:=L.length) (fun i acc=>(acc,(i:Int))) (fun i acc=>acc=((L.take i).flatMap (Wc (decide (rest=[])) D)).map Ti∧acc.length≤i*4096) (fun acc=>acc) (t0:=[]) rfl (by omega) ⟨by simp,by simp⟩ (fun i hi acc ⟨ha,hal⟩=>?_) (fun acc _=>by
  dsimp only
  rw[A0 (N4 (by rw[B4,D6];omega))]) (fun acc hacc=>by rw[hacc.1,X0])
 have hgt:(L.map Gu)[i]? =some (Gu L[i]):=by rw[R6,E0 hi];rfl
 have hmem:=G3 hi;obtain⟨g1,g2,g3⟩:=hg _ hmem;have hlen:=g1.len;have hi2:i*4096≤4096*4096:=G5 _ (by omega)
 have ea:ar .add .i64 (i:Int) 1=((i+1:Nat):Int):=by rw[D3 (by omega) (by omega)];omega
 have hsl:(Wc (decide (rest=[])) D L[i]).length≤4096:=by
  unfold Wc
  grind
 refine⟨acc++(Wc (decide (rest=[])) D L[i]).map Ti,?_,by rw[JU hi,O3,←ha],by rw[J2,D6,E3,S5];omega⟩
 dsimp only
 rw[A2 (X7 (by rw[D6];omega)),F6,hgt];simp only[A4]
 by_cases hr:rest=[]
 ·rw[A2 (L6 (by rw[B4,hr];rfl)),S3 (by simp;omega),ea];simp only[A4];unfold Wc;rw[A2 (J1 hr)];rfl
 obtain⟨k1,k2,k3⟩:=hD hr _ hmem;have hrp:=List.length_pos_iff.2 hr;rw[A0 (PW (by rw[B4,H7];omega))];have e1:(Gu L[i]).s=L[i].1:=rfl;have e2:(Gu L[i]).d=L[i].2:=rfl
 have hsl1:Q0 (q::rest) (some 1) none none=some rest:=by
  unfold Q0;rw[A2 (by simp;omega)];simp
 obtain⟨x1,hx1,_,ex1⟩:=FE g2;have hlst:=g1.lst g2;rw[e1,JQ hN (by omega),Mn _ (B3 _) gb.asc g1.asc,A2 g3,hsl1,PA g2 (by omega),hx1];simp only[A4];rw[←ex1,D3 (by omega) (by omega),k1];simp only[A4]
 refine Fx (m:=(D L[i]).length) (fun j acc'=>(acc',(j:Int))) (fun j acc'=>acc'=acc++(((D L[i]).take j).map fun c=>Ti (mrg L[i].1 c.1,L[i].2::c.2))) (fun acc'=>acc') (t0:=acc) rfl (by omega) (by simp) (fun j hj acc' hacc=>?_) (fun acc' _=>by
  dsimp only
  rw[A0 (N4 (by rw[B4,D6];omega))]) (fun acc' hacc=>by
  rw[hacc,X0,ea];unfold Wc
  rw[A0 (by grind),J0];rfl)
 have hcm:=G3 hj;obtain⟨c1,c2,c3⟩:=k3 _ hcm;have hcl:=c1.len
 have hct:((D L[i]).map Ti)[j]? =some (Ti (D L[i])[j]):=by rw[R6,E0 hj];rfl
 have hal':acc'.length≤100000000:=by rw[hacc];simp;omega
 refine⟨acc'++[Ti (mrg L[i].1 (D L[i])[j].1,L[i].2::(D L[i])[j].2)],?_,by rw[Bk hj,O3,←E6,←hacc];rfl⟩
 dsimp only
 rw[A2 (X7 (by rw[D6];omega)),F6,hct];simp only[A4];have e3:(Ti (D L[i])[j]).s=(D L[i])[j].1:=rfl;have e4:(Ti (D L[i])[j]).d.Kids=(D L[i])[j].2:=rfl;rw[e3,e4,e2,JQ hN (by omega),Mn _ (B3 _) g1.asc c1.asc,A2 c2];simp only[A4];rw[S3 (by simp;omega)];simp only[A4];rw[S3 (by simp;omega)];simp only[A4];rw[D3 (by omega) (by omega)];rfl
theorem Zv {N:Nat}{L:List A3}(h:L.length≤1000000):P3 N L=some L:=by
 unfold P3;rw[S3 (by simp;omega)];rfl
theorem Vf {N:Nat}{n:Nat}{x:E8}{p:A1}{o:List DP}{f:Int}{kids:List A3}{s:List DP}(h4:p.Op≠4)(hk:kids.length=p.cL.length)(hl:kids.length≤1000000):E7 N (n+1) x p o f kids s=some [⟨⟨⟨0,0,0⟩,0,kids⟩,s⟩]:=by
 rw[E7,A2 (by rw[P5,L3,K9 h4,L6 (by rw[B4,B4,hk])];rfl),Zv hl];simp only[V0,A4];rw[A2 (K9 h4)];simp
theorem Nh {N :Nat} (hN:40000000≤N) {l:List A8} (hl:l.length≤10) {n:Nat} {p q:A1} {b:List PR} {f:Int} {kids:List A3} {s:List PR} {L:List TD} {E:TD→List A7} (gb:Gd l b) (gs:Gd l s) (hap:p.Op≠3→O1 b s) (hkl:kids.length≤100000) (hargs:p.cL≠[])
 (hno:¬((p.Op≠4∧kids.length=p.cL.length)∨(p.Op=4∧0<kids.length))) (hq:C3 p.cL (ar .rem .i64 (kids.length:Int) (Ar.len p.cL))=some q)
 (hL:E9 N n ⟨l,0⟩ q ((if p.Op≠3 then mrg b s else b).map O2) f=some (L.map JG)) (hg:∀t∈L,Gd l t.1∧t.1≠[])
 (hE:∀t∈L,O1 s t.1→E7 N n ⟨l,0⟩ p (b.map O2) (if p.Op≠3 then S4 t.1+1 else f) (kids++[t.2]) ((mrg s t.1).map O2)=some (E t)):
 E7 N (n+1) ⟨l,0⟩ p (b.map O2) f kids (s.map O2)=some (L.flatMap fun t=>if S8 s t.1=true then[]else E t):=by
 rw[E7,A0 (by
  rw[P5,L3,L3,AE,L9,L9,N0,D8,D8,Br,B4,B4]
  grind)]
 simp only[V0,A4]
 have e1 : ((if cmp .neq p.Op 3=true then
           (I0 N (b.map O2) (s.map O2)).bind fun r11=>
           some (([]:List A7),r11)
  else
   some ([],b.map O2)):Option (List A7×(((List A6)))))=some ([],(if p.Op≠3 then mrg b s else b).map O2):=by
  by_cases h3:p.Op=3
  ·rw[A0 (K8 h3),A0 (by omega)]
  rw[A2 (K9 h3),A2 h3,Ni hN (l:=l) (by omega) (by rw[I3];exact gb) (by rw[I3];exact gs) (by rw[I3,I3];exact hap h3),I3,I3];rfl
 rw[e1];simp only[A4]
 have hr:KX (cmp .neq (Ar.len p.cL) 0)=some ():=by
  unfold KX;rw[A2 (K9 (by rw[B4];have:=List.length_pos_iff.2 hargs;omega))]
 rw[hr];simp only[A4];rw[B4 kids,hq];simp only[A4];rw[hL];simp only[A4]
 rw [HL (f := fun y:A7=>if S8 s (N7 y.s)=true then[]else E (N7 y.s,y.d)) (fun y hy=>by
  obtain⟨t,ht,rfl⟩:=List.mem_map.1 hy;obtain⟨g1,g2⟩:=hg t ht;have hlt:=g1.len;have hls:=gs.len;have e2:(JG t).s=t.1.map O2:=rfl;have e3:(JG t).d=t.2:=rfl;have e4:N7 (t.1.map O2)=t.1:=I3 _;have hlst:=g1.lst g2
  have e5 : ((if cmp .neq p.Op 3=true then
              (Q9 N (t.1.map O2)).bind fun r26=>
              some (([]:List A7),r26)
   else
    some ([],f)):Option (List A7×(Int)))=some ([],if p.Op≠3 then S4 t.1+1 else f):=by
   by_cases h3:p.Op=3
   ·rw[A0 (K8 h3),A0 (by omega)]
   rw[A2 (K9 h3),A2 h3,OK (by grind) (by rw[D6];omega) (by rw[e4];omega),e4];rfl
  rw[e2,e3,e5,TM hN (by rw[D6];omega) (by rw[D6];omega),I3,e4];simp only[A4]
  by_cases hm:S8 s t.1=true
  ·rw[A2 hm,hm];rfl
  rw[A0 hm]
  rw[Be]at hm
  have hA:=T7.1 hm;rw[hm,A0 (by simp[R8])]
  have e6:Q0 kids none (some (Ar.len kids)) (some (Ar.len kids))=some kids:=by
   unfold Q0;rw[A2 (by simp[B4])];simp[B4]
  rw[←B4 kids,e6];simp only[A4];rw[S3 (by simp;omega),Ni hN (l:=l) (by omega) (by rw[I3];exact gs) (by rw[e4];exact g1) (by rw[I3,e4];exact hA),I3,e4]
  simp_all)]
 simp only[A4];rw[A2 (L6 rfl)];simp only[A4,H6,K2,Lr]
 congr 2
 funext t
 have e4:N7 (JG t).s=t.1:=I3 _;rw[e4];rfl
theorem Nt {p q:A1}{rest:List A1}(h1:p.Op=1)(ha:p.cL=q::rest){i:Nat}(hi:i<rest.length):M4 p 0 (i+1)=M4 {p with cL:=rest} 0 i:=by
 simp_all[M4]
theorem Sd {a b:List PR}(h:a≠[]):mrg a b≠[]:=fun e=>by
 have h1:=J6 List.length e
 rw[Kx,W9]at h1
 have:=List.length_pos_iff.2 h;omega
theorem Sp {l:List A8} (hl:l.length≤4096) (hchk:Cy l=0) {p q:A1} {rest:List A1} (h1:p.Op=1) (ha:p.cL=q::rest) {b t:List PR} {f:Int} (ho:KW l b f) (ht:GR l f t):
 ∀(ks:List A3) (i:Nat) (u:List PR),i+ks.length≤rest.length→(∀k∈ks,GK k≤4096)→(∀j (h:j<ks.length),IU ks[j] (M4 p 0 (i+1+j))=0∧Ga (M4 p 0 (i+1+j))∧(M4 p 0 (i+1+j)).pre.length≤64)→(u=[]∨GR l (S4 t+1) u)→
  Dz l ks p 0 (i+1) b f (mrg t u)=(Dz l ks {p with cL:=rest} 0 i (mrg b t) (S4 t+1) u).map (mrg t ·)
 |[],i,u,_,_,_,_=>by rw[Dz,Dz];rfl
 | k::ks,i,u,hi,hz,hk,hu=>by
  have hbt:=ho.apart ht;have ho2:KW l (mrg b t) (S4 t+1):=ho.next ht;have au:Ui u:=hu.elim (fun h=>h▸List.Pairwise.nil) fun h=>h.gd.asc;have btu:O1 (mrg b t) u:=hu.elim (fun h=>h▸fun _ _ y hy=>absurd hy CF) fun h=>ho2.apart h;have bu:O1 b u:=fun x hx y hy=>btu x (M2.2 (.inl hx)) y hy;have tu:O1 t u:=fun x hx y hy=>btu x (M2.2 (.inr hx)) y hy;have c1:BV p:=.inl h1;have c2:BV {p with cL:=rest}:=.inl h1
  have rtu:GR l f (mrg t u):=by
   rcases hu with rfl|hu
   ·rw[V8];exact ht
   exact(ht.seq hu).1
  have hlst:S4 (mrg t u)=if u≠[]then S4 u else S4 t:=by
   by_cases hu0:u=[]
   ·rw[A0 (fun h=>h hu0),hu0,V8]
   rw[A2 hu0];exact Tn (.inr ht) (f:=f) (by rw[A2 ht.ne];simp_all)
  have eo:Eb p b (mrg t u)=Eb {p with cL:=rest} (mrg b t) u:=by
   unfold Eb;rw[A2 c1,A2 c2,EE ho.gd.asc ht.gd.asc au hbt bu tu]
  have ef:AP p f (mrg t u)=AP {p with cL:=rest} (S4 t+1) u:=by
   unfold AP;rw[A2 ⟨c1,Sd ht.ne⟩,hlst]
   grind
  rw[H7]at hi
  have hk0:=hk 0 (by simp)
  simp only[QM,AC]at hk0
  rw[W2,W2,Uu,Uu,←Nt h1 ha (by omega),←eo,←ef]
  cases hv:OX l k (M4 p 0 (i+1)) (Eb p b (mrg t u)) (AP p f (mrg t u))with
  |none=>rfl
  | some x=>
   simp only[A4];have hx:=VP hl hchk (hz k (by simp)) hk0.2.1 hk0.2.2 hk0.1 (Pn ho (.inr rtu)) hv
   have hge:∀y∈mrg t u,∀z∈x,y.At<z.At:=by
    intro y hy z hz';have:=Ie rtu.gd.asc y hy;have h9:=hx.ge z hz'
    unfold AP at h9
    rw[A2 ⟨c1,Sd ht.ne⟩]at h9
    omega
   have a1:O1 (mrg t u) x:=fun y hy z hz'=>by have:=hge y hy z hz';omega
   have a2:O1 u x:=fun y hy z hz'=>a1 y (M2.2 (.inr hy)) z hz';have a3:O1 t x:=fun y hy z hz'=>a1 y (M2.2 (.inl hy)) z hz';rw[A0 (by rw[T7.2 a1];simp),A0 (by rw[T7.2 a2];simp)];simp only[A4];rw[EE ht.gd.asc au hx.gd.asc tu a3 a2];refine Sp hl hchk h1 ha ho ht ks (i+1) (mrg u x) (by omega) (fun k' hk'=>hz k' (by simp[hk'])) (fun j hj=>?_) (.inr ?_)
   ·have:=hk (j+1) (by grind)
    grind
   have hx2:GR l (AP {p with cL:=rest} (S4 t+1) u) x:=by rw[←ef];exact hx
   exact Ph hu hx2 (T7.2 a2)
theorem Sw {p q:A1} {rest:List A1} (h1:p.Op=1) (ha:p.cL=q::rest):∀(ks:List A3) (i:Nat),i+ks.length≤rest.length→Ci ks p 0 (i+1)=Ci ks {p with cL:=rest} 0 i
 |[],i,_=>by rw[Ci,Ci]
 |k::ks,i,h=>by
  rw[H7]at h
  rw[Ci,Ci,Nt h1 ha (by omega),Sw h1 ha ks (i+1) (by omega)]
theorem AY0 {l:List A8} (hl:l.length≤10) (hchk:Cy l=0) {p q:A1} {rest:List A1} (hw:Ga p) (hpp:p.pre.length≤64) (h1:p.Op=1) (ha:p.cL=q::rest) {b:List PR} {f:Int} (ho:KW l b f) {t:TD} {s:List PR} {ks:List A3}
 (ht:IU t.2 q=0∧OX l t.2 q b f=some t.1∧GK t.2≤t.1.length*q.pre.length∧GR l f t.1)
 (hc:IU ⟨⟨0,0,0⟩,0,ks⟩ {p with cL:=rest}=0∧OX l ⟨⟨0,0,0⟩,0,ks⟩ {p with cL:=rest} (mrg b t.1) (S4 t.1+1)=some s∧GK ⟨⟨0,0,0⟩,0,ks⟩≤s.length*({p with cL:=rest}:A1).pre.length∧GR l (S4 t.1+1) s):
 IU ⟨⟨0,0,0⟩,0,t.2::ks⟩ p=0∧OX l ⟨⟨0,0,0⟩,0,t.2::ks⟩ p b f=some (mrg t.1 s)∧GK ⟨⟨0,0,0⟩,0,t.2::ks⟩≤(mrg t.1 s).length*p.pre.length∧GR l f (mrg t.1 s):=by
 obtain⟨t1,t2,t3,t4⟩:=ht;obtain⟨c1,c2,c3,c4⟩:=hc;have hS:=DE c1;have op':({p with cL:=rest}:A1).Op=1:=h1;have hn:=hS.n
 unfold KL at hn
 rw[A0 (by omega),A2 (.inl op')]at hn
 have hkr:ks.length=rest.length:=by
  simp_all
 have hqm:q∈p.cL:=by rw[ha];simp
 have hpq:=L4 hqm
 have hpre:p.pre.length=q.pre.length+({p with cL:=rest}:A1).pre.length:=by
  rw[A1.pre_eq p,A1.pre_eq {p with cL:=rest},ha]
  grind[A1.pres]
 have aq:M4 p 0 0=q:=by simp_all[M4]
 have hr:=t4.seq c4;have hlt:=t4.gd.len;have hls:=c4.gd.len;have hsz1:t.1.length*q.pre.length≤10*64:=R5 (by omega) (by omega);have hsz2:s.length*({p with cL:=rest}:A1).pre.length≤10*64:=R5 (by omega) (by omega)
 have hkz:∀k∈ks,GK k≤4096:=fun k hk=>by have:=Gw hk;grind[GK]
 have form:=Hg c1
 have su2:Ci ks p 0 (0+1)=0:=by
  rw[Sw h1 ha ks 0 (by omega)]
  rw[Jv]at c1
  grind
 refine⟨?_,?_,?_,hr.1⟩
 ·rw[Jv]
  simp_all[KL,Ci]
 ·rw[HC,A0 (by omega)]
  dsimp only
  rw[W2,Uu,aq]
  have e1:Eb p b []=b:=by unfold Eb;rw[A2 (.inl h1),V8]
  have e2:AP p f []=f:=by simp[AP]
  rw[e1,e2,t2];simp only[A4];rw[A0 (by simp[S8]),Ds];simp only[A4]
  have hsh:=Sp (by omega) hchk h1 ha ho t4 ks 0 [] (by omega) hkz (fun j hj=>by
   have hm:=K4 (hw.sub (r:=rest) (by omega) (by omega) (fun x hx=>by rw[ha];simp[hx]) (by grind)).self hS.n hj hS.c;have hm1:=hm.1
   rw[←Nt h1 ha (by omega)]at hm1
   have hmp:M4 p 0 (j+1)∈p.cL:=by rw[ha];simp_all
   have:=L4 hmp;rw[show 0+1+j=j+1 by omega]
   exact⟨by rw[Nt h1 ha (by omega)];exact hS.k j hj,hw.arg hmp,by omega⟩) (.inl rfl)
  rw[V8]at hsh
  rw[hsh]
  rw[HC,A0 (by omega)]at c2
  simp_all
 simp only[GK,Fi]at *
 rw[Kx,hpre,E3,BF,BF];omega
theorem UJ {m:Nat} {p:A1} {r:List A1} (h:GQ m p) (h4:p.Op≠4) (hr:∀q∈r,q∈p.cL) (he:W5 {p with cL:=r}≤W5 p) (hs:Sml m {p with cL:=r}):GQ m {p with cL:=r}:=by
 have hp:∀y∈({p with cL:=r}:A1).pre,y.Op=4→y∈p.pre:=by
  intro y hy h4'
  rw[A1.pre_eq]at hy ⊢
  rcases List.mem_cons.1 hy with rfl|hy
  ·simp_all
  obtain⟨a,ha,hy⟩:=U4.1 hy;exact CI _ (U4.2 ⟨a,hr a ha,hy⟩)
 refine⟨hs,?_⟩
 rcases h.2 with h|⟨h1,h2⟩
 ·grind[L1]
 exact .inr ⟨fun y hy h4'=>h1 y (hp y hy h4') h4',N5 (IH (by omega) m) h2⟩
theorem GQ.tail {m:Nat}{p q:A1}{r:List A1}(h:GQ m p)(h4:p.Op≠4)(ha:p.cL=q::r):GQ m {p with cL:=r}:=by
 refine UJ h h4 (fun x hx=>by rw[ha];simp_all) ?_ (h.1.tail ha);rw[Nl,Fa,ha];simp[A1.pres]
def IsK (t:TD):Prop:=t.2=⟨⟨0,0,0⟩,0,t.2.Kids⟩
def sk (kids:List A3)(s:List PR)(t:TD):TD:=(mrg s t.1,⟨⟨0,0,0⟩,0,kids++t.2.Kids⟩)
def jn (t u:TD):TD:=(mrg t.1 u.1,⟨⟨0,0,0⟩,0,t.2::u.2.Kids⟩)
theorem AC6 {l:List A8} {p q:A1} (h1:p.Op=1∨p.Op=4∨p.Op=3) (ha:p.cL=[q]) {b:List PR} {f:Int} {t:TD} (h:IU t.2 q=0∧OX l t.2 q b f=some t.1∧GK t.2≤t.1.length*q.pre.length∧GR l f t.1):
 IU (wr 0 t).2 p=0∧OX l (wr 0 t).2 p b f=some (wr 0 t).1∧GK (wr 0 t).2≤(wr 0 t).1.length*p.pre.length∧GR l f (wr 0 t).1:=by
 obtain⟨t1,t2,t3,t4⟩:=h;have hpq:=L4 (show q∈p.cL by rw[ha];simp)
 have aq:M4 p 0 0=q:=by
  simp_all[M4]
 refine⟨?_,?_,?_,t4⟩
 ·show IU ⟨⟨0,0,0⟩,0,[t.2]⟩ p=0
  rw[Jv]
  dsimp only
  rw[A0 (by
   omega),A0 (by omega),A0 (by
   unfold KL;rw[A0 (by omega),ha]
   simp_all),Ci,aq,A2 t1,Ci]
 ·show OX l ⟨⟨0,0,0⟩,0,[t.2]⟩ p b f=some t.1
  rw[HC,A0 (by omega)]
  dsimp only
  have e1:Eb p b []=b:=by unfold Eb;rw[V8];split<;>rfl
  have e2:AP p f []=f:=by simp[AP]
  rw[W2,Uu,aq,e1,e2,t2];simp only[A4];rw[A0 (by simp[S8]),Ds];simp only[A4,Dz];rw[A0 (fun h=>by have:=h.1;omega)]
 have hs:=List.length_pos_iff.2 t4.ne;have:t.1.length*(q.pre.length+1)≤t.1.length*p.pre.length:=LA _ hpq
 rw[BF,Io]at this
 simp only[wr,GK,Fi];omega
theorem AC7 {l:List A8}{p q:A1}(h1:p.Op=1∨p.Op=4∨p.Op=3)(ha:p.cL=[q]){b:List PR}{f:Int}{L:List TD}(h:TL l q b f L):TL l p b f (L.map (wr 0)):=by
 constructor
 ·intro t ht;obtain⟨u,hu,rfl⟩:=List.mem_map.1 ht;exact AC6 h1 ha (h.tr u hu)
 have h1:=h.nd;rw[J0]
 unfold Nodup at *
 rw[S6]at h1 ⊢
 simp_all[wr]
theorem AW3 {L:List TD} {F:TD→List TD} (h:(L.map (·.2)).Nodup) (hF:∀t∈L,((F t).map (·.2)).Nodup∧∀u∈F t,IsK u):((L.flatMap fun t=>(F t).map (jn t)).map (·.2)).Nodup:=by
 unfold Nodup at *
 rw[S6]at h
 rw[S6,IK]
 constructor
 ·intro t ht;obtain⟨h1,h2⟩:=hF t ht
  rw[S6]at h1 ⊢
  refine h1.imp_of_mem fun{a c} ha hc hne e=>hne ?_
  simp only[jn]at e
  injection e with _ _ e3
  rw[h2 a ha,h2 c hc,(Lh e3).2]
 refine h.imp fun{a c} hne=>?_;intro x hx y hy e;obtain⟨u,_,rfl⟩:=List.mem_map.1 hx;obtain⟨v,_,rfl⟩:=List.mem_map.1 hy
 simp_all[jn]
theorem HT {α β:Type}{g h:α→List β}:∀{L:List α},(∀a∈L,g a=h a)→L.flatMap g=L.flatMap h
 |[],_=>rfl
 |a::L,k=>by rw[U8,U8,k a (by simp),HT fun x hx=>k x (by simp[hx])]
theorem Wu {L:List A3}:L.length≤Fi L:=by
 induction L with
 |nil=>simp_all
 |cons a L ih=>have:=HF a;grind[Fi]
structure VC (N:Nat) (l:List A8) (p:A1) (b:List PR) (f:Nat) (m:Nat) (L:List TD):Prop where
 tl:TL l p b f L
 k:∀t∈L,IsK t
 ref:∀n,m≤n→Ao N n p.cL l b f=some (L.map Gu)
 prg:∀(p0:A1) (pre:List A1) (kids:List A3) (b0 s0:List PR),p0.Op=1→p0.cL=pre++p.cL→kids.length=pre.length→p0.cL.length≤100→Gd l b0→Gd l s0→O1 b0 s0→b=mrg b0 s0→∀n,m+1≤n→E7 N n ⟨l,0⟩ p0 (b0.map O2) f kids (s0.map O2)=some ((L.map (sk kids s0)).map JG)
theorem Aj3 {pre args:List A1}{q:A1}{r:List A1}(ha:args=q::r)(h:(pre++args).length≤100):C3 (pre++args) (ar .rem .i64 (pre.length:Int) (Ar.len (pre++args)))=some q:=by
 have hl:pre.length<(pre++args).length:=by rw[J2,ha,H7];omega
 have e:ar .rem .i64 (pre.length:Int) (Ar.len (pre++args))=((pre.length:Nat):Int):=Qj (by omega) (by rw[B4];omega);rw[e,F6,Hy (B3 _),Nat.sub_self,ha];rfl
theorem AM5 {N:Nat} (hN:40000000≤N) {l:List A8} (hl:l.length≤10) (hchk:Cy l=0) {p q:A1} (h1:p.Op=1) (ha:p.cL=[q]) (hw:Ga p) (hpp:p.pre.length≤64) (hs:GQ l.length p) {b:List PR} {f:Nat} (ho:KW l b f) {L:List TD} {m:Nat} (h:TL l q b f L) (hL:PT N l q b f m L):VC N l p b f (m+1) (L.map (wr 0)):=by
 have hqm:q∈p.cL:=by rw[ha];simp
 have hpq:=L4 hqm;have hfew:=h.few hl hchk (hw.arg hqm) (by omega) (hs.arg hqm) ho;refine⟨AC7 (.inl h1) ha h,fun t ht=>?_,fun n hn=>?_,?_⟩
 ·obtain⟨u,_,rfl⟩:=List.mem_map.1 ht;rfl
 ·obtain⟨n,rfl⟩:∃k,n=k+1:=⟨n-1,by omega⟩
  rw[ha,TS hN hl (rest:=[]) (by simp) ho.gd (L:=L) (D:=fun _=>[]) hfew (hL.ref n (by omega)) (fun t ht=>by
   obtain⟨_,_,_,hr⟩:=h.tr t ht
   exact⟨hr.gd,hr.ne,ho.apart hr⟩) (fun hh=>absurd rfl hh)]
  congr 1
  have:∀L:List TD,L.flatMap (Wc (decide (([]:List A1)=[])) fun _=>[])=L.map fun t=>(t.1,[t.2]):=by
   intro L
   induction L with
   |nil=>rfl
   |cons a L ih=>rw[U8,ih];rfl
  rw[this,J0,J0];rfl
 intro p0 pre kids b0 s0 h1' ha' hk hal gb gs hap hb n hn;obtain⟨n,rfl⟩:∃k,n=k+2:=⟨n-2,by omega⟩
 have hl0:p0.cL.length=pre.length+1:=by rw[ha',ha];simp
 rw[Nh hN hl (q:=q) (L:=L) (E:=fun t=>[JG (sk kids s0 (wr 0 t))]) gb gs (fun _=>hap) (by omega) (by simp_all) (by rintro(⟨_,h⟩|⟨h,_⟩)<;>omega) (by rw[hk,ha',ha];exact Aj3 rfl (by rw[←ha,←ha'];exact hal)) (by rw[A2 (by omega),←hb];exact hL.prg _ (by omega)) (fun t ht=>by
  obtain⟨_,_,_,hr⟩:=h.tr t ht
  exact⟨hr.gd,hr.ne⟩) (fun t ht _=>by
  rw[Vf (by omega) (by rw[J2,CM];omega) (by rw[J2,CM];omega)]
  rfl)]
 congr 1
 rw[J0,J0]
 have:∀L':List TD,(∀t∈L',t∈L)→L'.flatMap (fun t=>if S8 s0 t.1=true then[]else[JG (sk kids s0 (wr 0 t))])=L'.map (JG∘sk kids s0∘wr 0):=by
  intro L'
  induction L' with
  |nil=>intro _;rfl
  |cons a L' ih=>
   intro hm;obtain⟨_,_,_,hr⟩:=h.tr a (hm a (by simp));have hA:O1 s0 a.1:=fun x hx y hy=>ho.apart hr x (by rw[hb];exact M2.2 (.inr hx)) y hy;rw[U8,ih fun t ht=>hm t (by simp[ht]),A0 (by rw[T7.2 hA];simp)];rfl
 simp_all
theorem AA6 {N:Nat} (hN:40000000≤N) {l:List A8} (hl:l.length≤10) (hchk:Cy l=0) {p q:A1} {rest:List A1} (h1:p.Op=1) (hne:rest≠[]) (ha:p.cL=q::rest) (hw:Ga p) (hpp:p.pre.length≤64) (hs:GQ l.length p) {b:List PR} {f:Nat} (ho:KW l b f) {L:List TD} {m:Nat} (h:TL l q b f L) (hL:PT N l q b f m L) {F:TD→List TD}
 (hF:∀t∈L,∀g:Nat,S4 t.1+1=(g:Int)→VC N l {p with cL:=rest} (mrg b t.1) g m (F t)):VC N l p b f (m+1) (L.flatMap fun t=>(F t).map (jn t)):=by
 have hqm:q∈p.cL:=by rw[ha];simp
 have hpq:=L4 hqm;have hps:=RX ha;have hal:=V2 p;have hfew:=h.few hl hchk (hw.arg hqm) (by omega) (hs.arg hqm) ho;have hwr:Ga {p with cL:=rest}:=hw.sub (by omega) (by omega) (fun x hx=>by rw[ha];simp[hx]) hne;have hsr:GQ l.length {p with cL:=rest}:=hs.tail (by omega) ha
 have hg:∀t∈L,∃g:Nat,S4 t.1+1=(g:Int)∧VC N l {p with cL:=rest} (mrg b t.1) g m (F t)∧KW l (mrg b t.1) (g:Int):=by
  intro t ht;obtain⟨_,_,_,hr⟩:=h.tr t ht;obtain⟨g,hg,_,_⟩:=Se hr ho.f0;exact⟨g,hg,hF t ht g hg,by rw[←hg];exact ho.next hr⟩
 refine⟨⟨fun t ht=>?_,AW3 h.nd fun t ht=>?_⟩,fun t ht=>?_,fun n hn=>?_,?_⟩
 ·obtain⟨t,htL,ht⟩:=List.mem_flatMap.1 ht;obtain⟨u,hu,rfl⟩:=List.mem_map.1 ht;obtain⟨g,hg1,hg2,_⟩:=hg t htL;have c:=hg2.tl.tr u hu
  rw[hg2.k u hu,←hg1]at c
  exact AY0 hl hchk hw hpp h1 ha ho (h.tr t htL) c
 ·obtain⟨g,hg1,hg2,_⟩:=hg t ht;exact⟨hg2.tl.nd,hg2.k⟩
 ·obtain⟨t,htL,ht⟩:=List.mem_flatMap.1 ht;obtain⟨u,hu,rfl⟩:=List.mem_map.1 ht;rfl
 ·obtain⟨n,rfl⟩:∃k,n=k+1:=⟨n-1,by omega⟩
  rw[ha,TS hN hl (rest:=rest) (by rw[ha,H7]at hal;omega) ho.gd (L:=L) (D:=fun t=>(F t).map fun u=>(u.1,u.2.Kids)) hfew (hL.ref n (by omega)) (fun t ht=>by
   obtain⟨_,_,_,hr⟩:=h.tr t ht
   exact⟨hr.gd,hr.ne,ho.apart hr⟩) (fun _ t ht=>by
   obtain⟨_,_,_,hr⟩:=h.tr t ht;obtain⟨g,hg1,hg2,hg3⟩:=hg t ht;have hfewF:=hg2.tl.few hl hchk hwr (by omega) hsr hg3;refine⟨?_,by rw[D6];exact hfewF,fun c hc=>?_⟩
   ·rw[hg1,hg2.ref n (by omega),J0]
    congr 1
    refine V6 fun u hu=>?_;simp only[Function.comp,Ti,Gu];rw[←hg2.k u hu]
   obtain⟨u,hu,rfl⟩:=List.mem_map.1 hc;obtain⟨_,_,hz,hr2⟩:=hg2.tl.tr u hu
   rw[←hg1]at hr2
   have hul:=hr2.gd.len;have:u.1.length*({p with cL:=rest}:A1).pre.length≤10*64:=R5 (by omega) (by omega);have:=Wu (L:=u.2.Kids);have:=HF u.2
   exact⟨hr2.gd,(hr.seq hr2).2,by grind⟩)]
  congr 1
  rw[CE,CE];refine HT fun t ht=>?_;unfold Wc;rw[A0 (by grind),J0,J0,J0];rfl
 intro p0 pre kids b0 s0 h1' ha' hk hal0 gb gs hap hb n hn;obtain⟨n,rfl⟩:∃k,n=k+1:=⟨n-1,by omega⟩;have hrl:=List.length_pos_iff.2 hne
 have hl0:p0.cL.length=pre.length+rest.length+1:=by rw[ha',ha];simp;omega
 have hA:∀t∈L,O1 s0 t.1∧O1 b0 t.1∧Gd l t.1:=by
  intro t ht;obtain⟨_,_,_,hr⟩:=h.tr t ht;exact⟨fun x hx y hy=>ho.apart hr x (by rw[hb];exact M2.2 (.inr hx)) y hy,fun x hx y hy=>ho.apart hr x (by rw[hb];exact M2.2 (.inl hx)) y hy,hr.gd⟩
 rw[Nh hN hl (q:=q) (L:=L) (E:=fun t=>((F t).map (sk (kids++[t.2]) (mrg s0 t.1))).map JG) gb gs (fun _=>hap) (by omega) (by simp_all) (by rintro(⟨_,h⟩|⟨h,_⟩)<;>omega) (by rw[hk,ha',ha];exact Aj3 rfl (by rw[←ha,←ha'];exact hal0)) (by rw[A2 (by omega),←hb];exact hL.prg _ (by omega)) (fun t ht=>by
  obtain⟨_,_,_,hr⟩:=h.tr t ht
  exact⟨hr.gd,hr.ne⟩) (fun t ht hA0=>by
  obtain⟨g,hg1,hg2,hg3⟩:=hg t ht;obtain⟨a1,a2,a3⟩:=hA t ht;rw[A2 (by omega),hg1]
  exact hg2.prg p0 (pre++[q]) (kids++[t.2]) b0 (mrg s0 t.1) h1' (by rw[ha',ha];simp) (by simp[hk]) hal0 gb (gs.mrg a3 a1) (fun x hx y hy=>(M2.1 hy).elim (fun h=>hap x hx y h) fun h=>a2 x hx y h) (by rw[hb,EE gb.asc gs.asc a3.asc hap a2 a1]) n (by omega))]
 congr 1
 rw[CE,CE];refine HT fun t ht=>?_;obtain⟨a1,a2,a3⟩:=hA t ht;rw[A0 (by rw[T7.2 a1];simp),J0,J0,J0];refine V6 fun u hu=>?_;obtain⟨g,hg1,hg2,hg3⟩:=hg t ht;obtain⟨_,_,_,hr⟩:=h.tr t ht;obtain⟨_,_,_,hr2⟩:=hg2.tl.tr u hu;have a4:=hg3.apart hr2;simp only[Function.comp,sk,jn,JG];rw[EE gs.asc a3.asc hr2.gd.asc a1 (fun x hx y hy=>a4 x (M2.2 (.inl (by rw[hb];exact M2.2 (.inr hx)))) y hy) (fun x hx y hy=>a4 x (M2.2 (.inr hx)) y hy)];simp
theorem XN {N:Nat} (hN:40000000≤N) {l:List A8} (hl:l.length≤10) (hchk:Cy l=0) {k:Nat} (ih:IHT N l k):∀(args:List A1) (p:A1) (b:List PR) (f:Nat),p.Op=1→p.cL=args→args≠[]→Ga p→p.pre.length≤64→GQ l.length p→KW l b f→(∀q∈args,∀g,mu l q g≤k)→∃L,VC N l p b f (8*k+8+args.length) L
 |[],p,b,f,_,_,h,_,_,_,_,_=>absurd rfl h
 |[q],p,b,f,h1,ha,_,hw,hpp,hs,ho,hk=>by
  have hqm:q∈p.cL:=by rw[ha];simp
  have hpq:=L4 hqm;obtain⟨L,g1,g2⟩:=ih q b f (hk q (by simp) f) (by omega) (hw.arg hqm) (hs.arg hqm) ho;exact⟨_,AM5 hN hl hchk h1 ha hw hpp hs ho g1 g2⟩
 | q ::q'::r,p,b,f,h1,ha,_,hw,hpp,hs,ho,hk=>by
  have hqm:q∈p.cL:=by rw[ha];simp
  have hpq:=L4 hqm;have hps:=RX ha;obtain⟨L,g1,g2⟩:=ih q b f (hk q (by simp) f) (by omega) (hw.arg hqm) (hs.arg hqm) ho
  have hex:∀t:TD,∃F,t∈L→∀g:Nat,S4 t.1+1=(g:Int)→VC N l {p with cL:=q'::r} (mrg b t.1) g (8*k+8+(q'::r).length) F:=by
   intro t
   by_cases ht:t∈L
   ·obtain⟨_,_,_,hr⟩:=g1.tr t ht;obtain⟨g,hg,_,_⟩:=Se hr ho.f0;obtain⟨F,hF⟩:=XN hN hl hchk ih (q'::r) {p with cL:=q'::r} (mrg b t.1) g h1 rfl (by simp) (hw.sub (by omega) (by omega) (fun x hx=>by rw[ha];simp_all) (by simp)) (by omega) (hs.tail (by omega) ha) (by rw[←hg];exact ho.next hr) (fun x hx g=>hk x (CI _ hx) g)
    exact⟨F,fun _ g' hg'=>by
     grind⟩
   simp_all
  obtain⟨F,hF⟩:=IN hex;exact⟨_,AA6 (m:=8*k+8+(q'::r).length) hN hl hchk h1 (by simp) ha hw hpp hs ho g1 (g2.mono (by omega)) hF⟩
theorem QZ {l:List A8} (hl:l.length≤4096) (hchk:Cy l=0) {p q:A1} (h4:p.Op=4) (hq:∀i,M4 p 0 i=q) (hwq:Ga q) (hpq:q.pre.length≤64) {b t:List PR} {f:Int} (ho:KW l b f) (ht:GR l f t):
 ∀(ks:List A3) (i:Nat) (u:List PR),(∀k∈ks,GK k≤4096)→(∀k∈ks,IU k q=0)→(u=[]∨GR l (S4 t+1) u)→
  Dz l ks p 0 (i+1) b f (mrg t u)=(Dz l ks p 0 i (mrg b t) (S4 t+1) u).map (mrg t ·)
 |[],i,u,_,_,_=>by rw[Dz,Dz];rfl
 | k::ks,i,u,hz,hk,hu=>by
  have hbt:=ho.apart ht;have ho2:KW l (mrg b t) (S4 t+1):=ho.next ht;have au:Ui u:=hu.elim (fun h=>h▸List.Pairwise.nil) fun h=>h.gd.asc;have btu:O1 (mrg b t) u:=hu.elim (fun h=>h▸fun _ _ y hy=>absurd hy CF) fun h=>ho2.apart h;have bu:O1 b u:=fun x hx y hy=>btu x (M2.2 (.inl hx)) y hy;have tu:O1 t u:=fun x hx y hy=>btu x (M2.2 (.inr hx)) y hy;have c1:BV p:=.inr h4
  have rtu:GR l f (mrg t u):=by
   rcases hu with rfl|hu
   ·rw[V8];exact ht
   exact(ht.seq hu).1
  have hlst:S4 (mrg t u)=if u≠[]then S4 u else S4 t:=by
   by_cases hu0:u=[]
   ·rw[A0 (fun h=>h hu0),hu0,V8]
   rw[A2 hu0];exact Tn (.inr ht) (f:=f) (by rw[A2 ht.ne];simp_all)
  have eo:Eb p b (mrg t u)=Eb p (mrg b t) u:=by
   unfold Eb;rw[A2 c1,A2 c1,EE ho.gd.asc ht.gd.asc au hbt bu tu]
  have ef:AP p f (mrg t u)=AP p (S4 t+1) u:=by
   unfold AP;rw[A2 ⟨c1,Sd ht.ne⟩,hlst]
   grind
  have hk0:=hk k (by simp);rw[W2,W2,Uu,Uu,hq,hq,←eo,←ef]
  cases hv:OX l k q (Eb p b (mrg t u)) (AP p f (mrg t u))with
  |none=>rfl
  | some x=>
   simp only[A4];have hx:=VP hl hchk (hz k (by simp)) hwq hpq hk0 (Pn ho (.inr rtu)) hv
   have hge:∀y∈mrg t u,∀z∈x,y.At<z.At:=by
    intro y hy z hz';have:=Ie rtu.gd.asc y hy;have h9:=hx.ge z hz'
    unfold AP at h9
    rw[A2 ⟨c1,Sd ht.ne⟩]at h9
    omega
   have a1:O1 (mrg t u) x:=fun y hy z hz'=>by have:=hge y hy z hz';omega
   have a2:O1 u x:=fun y hy z hz'=>a1 y (M2.2 (.inr hy)) z hz';have a3:O1 t x:=fun y hy z hz'=>a1 y (M2.2 (.inl hy)) z hz';rw[A0 (by rw[T7.2 a1];simp),A0 (by rw[T7.2 a2];simp)];simp only[A4];rw[EE ht.gd.asc au hx.gd.asc tu a3 a2];refine QZ hl hchk h4 hq hwq hpq ho ht ks (i+1) (mrg u x) (fun k' hk'=>hz k' (by simp[hk'])) (fun k' hk'=>hk k' (by simp[hk'])) (.inr ?_)
   have hx2:GR l (AP p (S4 t+1) u) x:=by rw[←ef];exact hx
   exact Ph hu hx2 (T7.2 a2)
theorem Xy {p q:A1} (hq:∀i,M4 p 0 i=q):∀(ks:List A3) (i:Nat),Ci ks p 0 i=0↔∀k∈ks,IU k q=0
 |[],i=>by rw[Ci];simp
 |k::ks,i=>by
  rw[Ci,hq]
  by_cases h:IU k q=0
  ·rw[A2 h,Xy hq ks (i+1)];simp[h]
  simp_all
theorem AN9 {l:List A8} (hl:l.length≤10) (hchk:Cy l=0) {p q:A1} (hw:Ga p) (hpp:p.pre.length≤64) (h4:p.Op=4) (ha:p.cL=[q]) {b:List PR} {f:Int} (ho:KW l b f) {t:TD} {s:List PR} {ks:List A3}
 (ht:IU t.2 q=0∧OX l t.2 q b f=some t.1∧GK t.2≤t.1.length*q.pre.length∧GR l f t.1)
 (hc:IU ⟨⟨0,0,0⟩,0,ks⟩ p=0∧OX l ⟨⟨0,0,0⟩,0,ks⟩ p (mrg b t.1) (S4 t.1+1)=some s∧GK ⟨⟨0,0,0⟩,0,ks⟩≤s.length*p.pre.length∧GR l (S4 t.1+1) s):
 IU ⟨⟨0,0,0⟩,0,t.2::ks⟩ p=0∧OX l ⟨⟨0,0,0⟩,0,t.2::ks⟩ p b f=some (mrg t.1 s)∧GK ⟨⟨0,0,0⟩,0,t.2::ks⟩≤(mrg t.1 s).length*p.pre.length∧GR l f (mrg t.1 s):=by
 obtain⟨t1,t2,t3,t4⟩:=ht;obtain⟨c1,c2,c3,c4⟩:=hc
 have hqm:q∈p.cL:=by rw[ha];simp
 have hpq:=L4 hqm
 have aq:∀i,M4 p 0 i=q:=fun i=>by simp_all[M4]
 have hr:=t4.seq c4;have hlt:=t4.gd.len;have hls:=c4.gd.len;have hsz1:t.1.length*q.pre.length≤t.1.length*p.pre.length:=LA _ (by omega);have hsz2:s.length*p.pre.length≤10*64:=R5 (by omega) (by omega)
 have hkz:∀k∈ks,GK k≤4096:=fun k hk=>by have:=Gw hk;grind[GK]
 have hsu:∀k∈ks,IU k q=0:=by
  intro k hk;obtain⟨i,hi,rfl⟩:=List.mem_iff_getElem.1 hk;have:=(DE c1).k i hi
  rwa[aq]at this
 refine⟨?_,?_,?_,hr.1⟩
 ·rw[Jv]
  dsimp only
  rw[A0 (by
   omega),A0 (by omega),A0 (by simp_all[KL])]
  rw[Xy aq]
  simp_all
 ·rw[HC,A0 (by omega)]
  dsimp only
  rw[W2,Uu,aq]
  have e1:Eb p b []=b:=by unfold Eb;rw[A2 (.inr h4),V8]
  have e2:AP p f []=f:=by simp[AP]
  rw[e1,e2,t2];simp only[A4];rw[A0 (by simp[S8]),Ds];simp only[A4];have hsh:=QZ (by omega) hchk h4 aq (hw.arg hqm) (by omega) ho t4 ks 0 [] hkz hsu (.inl rfl)
  rw[V8]at hsh
  rw[hsh]
  rw[HC,A0 (by omega)]at c2
  simp_all
 simp only[GK,Fi]at *
 rw[Kx,E3];omega
def e0T:TD:=([],⟨⟨0,0,0⟩,0,[]⟩)
def Ac2 (L:List TD)(F:TD→List TD):List TD:=L.flatMap fun t=>(e0T::F t).map (jn t)
theorem Ab8 {N:Nat} (hN:40000000≤N) {l:List A8} (hl:l.length≤10) {n:Nat} {p q:A1} (ha:p.cL=[q]) {b:List PR} {f:Int} (gb:Gd l b) {L:List TD} {F:TD→List TD} (hLn:L.length≤4096) (hL:M3 N n q l b f=some (L.map Gu)) (hg:∀t∈L,Gd l t.1∧t.1≠[]∧O1 b t.1)
 (hD:∀t∈L,An N n p l (mrg b t.1) (S4 t.1+1)=some ((F t).map Gu)∧(F t).length≤4096∧∀c∈F t,Gd l c.1∧O1 t.1 c.1∧c.2.Kids.length≤4096):
 An N (n+1) p l b f=some ((Ac2 L F).map Gu):=by
 have hbl:=gb.len;rw[An,ha];have h0:C3 [q] 0=some q:=rfl;rw[h0];simp only[A4];rw[hL];simp only[A4]
 refine Fx (m:=L.length) (fun i acc=>(acc,(i:Int))) (fun i acc=>acc=(Ac2 (L.take i) F).map Gu∧acc.length≤i*4097) (fun acc=>acc) (t0:=[]) rfl (by omega) ⟨by simp[Ac2],by simp⟩ (fun i hi acc ⟨ha,hal⟩=>?_) (fun acc _=>by
  dsimp only
  rw[A0 (N4 (by rw[B4,D6];omega))]) (fun acc hacc=>by rw[hacc.1,X0])
 have hgt:(L.map Gu)[i]? =some (Gu L[i]):=by rw[R6,E0 hi];rfl
 have hmem:=G3 hi;obtain⟨g1,g2,g3⟩:=hg _ hmem;have hlen:=g1.len;have hi2:i*4097≤4096*4097:=G5 _ (by omega)
 have ea:ar .add .i64 (i:Int) 1=((i+1:Nat):Int):=by rw[D3 (by omega) (by omega)];omega
 obtain⟨k1,k2,k3⟩:=hD _ hmem;refine⟨acc++((e0T::F L[i]).map (jn L[i])).map Gu,?_,by unfold Ac2;rw[JU hi,O3,ha];rfl,by rw[J2,D6,D6,H7,E3,S5];omega⟩
 dsimp only
 rw[A2 (X7 (by rw[D6];omega)),F6,hgt];simp only[A4];have e1:(Gu L[i]).s=L[i].1:=rfl;have e2:(Gu L[i]).d=L[i].2:=rfl;obtain⟨x1,hx1,_,ex1⟩:=FE g2;have hlst:=g1.lst g2;rw[S3 (by simp;omega)];simp only[A4];rw[e1,e2,JQ hN (by omega),Mn _ (B3 _) gb.asc g1.asc,A2 g3,PA g2 (by omega),hx1];simp only[A4];rw[←ex1,D3 (by omega) (by omega),k1];simp only[A4]
 have e0:(⟨L[i].1,⟨⟨0,0,0⟩,0,[L[i].2]⟩⟩:A9)=Gu (jn L[i] e0T):=by
  unfold Gu jn e0T
  dsimp only
  rw[V8]
 rw[e0]
 refine Fx (m:=(F L[i]).length) (fun j acc'=>(acc',(j:Int))) (fun j acc'=>acc'=acc++[Gu (jn L[i] e0T)]++(((F L[i]).take j).map fun c=>Gu (jn L[i] c))) (fun acc'=>acc') (t0:=acc++[Gu (jn L[i] e0T)]) rfl (by omega) (by simp) (fun j hj acc' hacc=>?_) (fun acc' _=>by
  dsimp only
  rw[A0 (N4 (by rw[B4,D6];omega))]) (fun acc' hacc=>by
  rw[hacc,X0,ea,D5,D5,J0]
  simp_all)
 have hcm:=G3 hj;obtain⟨c1,c2,c3⟩:=k3 _ hcm;have hcl:=c1.len
 have hct:((F L[i]).map Gu)[j]? =some (Gu (F L[i])[j]):=by rw[R6,E0 hj];rfl
 have hal':acc'.length≤100000000:=by rw[hacc];simp;omega
 refine⟨acc'++[Gu (jn L[i] (F L[i])[j])],?_,by rw[Bk hj,O3,←E6,←hacc];rfl⟩
 dsimp only
 rw[A2 (X7 (by rw[D6];omega)),F6,hct];simp only[A4];have e3:(Gu (F L[i])[j]).s=(F L[i])[j].1:=rfl;have e4:(Gu (F L[i])[j]).d.Kids=(F L[i])[j].2.Kids:=rfl;rw[e3,e4,JQ hN (by omega),Mn _ (B3 _) g1.asc c1.asc,A2 c2];simp only[A4];rw[S3 (by simp;omega)];simp only[A4];rw[S3 (by simp;omega)];simp only[A4];rw[D3 (by omega) (by omega)];rfl
theorem Ae0 {N:Nat} (hN:40000000≤N) {l:List A8} (hl:l.length≤10) {n:Nat} {p q:A1} {b:List PR} {f:Int} {kids:List A3} {s:List PR} {L:List TD} {E:TD→List A7} (gb:Gd l b) (gs:Gd l s) (hap:p.Op≠3→O1 b s) (hkl:kids.length≤100000) (hargs:p.cL≠[])
 (h4:p.Op=4) (hk0:0<kids.length) (hq:C3 p.cL (ar .rem .i64 (kids.length:Int) (Ar.len p.cL))=some q)
 (hL:E9 N n ⟨l,0⟩ q ((if p.Op≠3 then mrg b s else b).map O2) f=some (L.map JG)) (hg:∀t∈L,Gd l t.1∧t.1≠[])
 (hE:∀t∈L,O1 s t.1→E7 N n ⟨l,0⟩ p (b.map O2) (if p.Op≠3 then S4 t.1+1 else f) (kids++[t.2]) ((mrg s t.1).map O2)=some (E t)):
 E7 N (n+1) ⟨l,0⟩ p (b.map O2) f kids (s.map O2)=some (⟨⟨⟨0,0,0⟩,0,kids⟩,s.map O2⟩::L.flatMap fun t=>if S8 s t.1=true then[]else E t):=by
 rw[E7,A2 (by
  rw[P5,L3,L3,L6 h4,Y4 (show(0:Int)<Ar.len kids by rw[B4];omega)]
  simp),Zv (by omega)]
 simp only[V0,A4];rw[A0 (K8 h4)];simp only[A4]
 have e1 : ((if cmp .neq p.Op 3=true then
           (I0 N (b.map O2) (s.map O2)).bind fun r11=>
           some (([]:List A7),r11)
  else
   some ([],b.map O2)):Option (List A7×(((List A6)))))=some ([],(if p.Op≠3 then mrg b s else b).map O2):=by
  by_cases h3:p.Op=3
  ·rw[A0 (K8 h3),A0 (by omega)]
  rw[A2 (K9 h3),A2 h3,Ni hN (l:=l) (by omega) (by rw[I3];exact gb) (by rw[I3];exact gs) (by rw[I3,I3];exact hap h3),I3,I3];rfl
 rw[e1];simp only[A4]
 have hr:KX (cmp .neq (Ar.len p.cL) 0)=some ():=by
  unfold KX;rw[A2 (K9 (by rw[B4];have:=List.length_pos_iff.2 hargs;omega))]
 rw[hr];simp only[A4];rw[B4 kids,hq];simp only[A4];rw[hL];simp only[A4]
 rw [HL (f := fun y:A7=>if S8 s (N7 y.s)=true then[]else E (N7 y.s,y.d)) (fun y hy=>by
  obtain⟨t,ht,rfl⟩:=List.mem_map.1 hy;obtain⟨g1,g2⟩:=hg t ht;have hlt:=g1.len;have hls:=gs.len;have e2:(JG t).s=t.1.map O2:=rfl;have e3:(JG t).d=t.2:=rfl;have e4:N7 (t.1.map O2)=t.1:=I3 _;have hlst:=g1.lst g2
  have e5 : ((if cmp .neq p.Op 3=true then
              (Q9 N (t.1.map O2)).bind fun r26=>
              some (([]:List A7),r26)
   else
    some ([],f)):Option (List A7×(Int)))=some ([],if p.Op≠3 then S4 t.1+1 else f):=by
   by_cases h3:p.Op=3
   ·rw[A0 (K8 h3),A0 (by omega)]
   rw[A2 (K9 h3),A2 h3,OK (by grind) (by rw[D6];omega) (by rw[e4];omega),e4];rfl
  rw[e2,e3,e5,TM hN (by rw[D6];omega) (by rw[D6];omega),I3,e4];simp only[A4]
  by_cases hm:S8 s t.1=true
  ·rw[A2 hm,hm];rfl
  rw[A0 hm]
  rw[Be]at hm
  have hA:=T7.1 hm;rw[hm,A0 (by simp[R8])]
  have e6:Q0 kids none (some (Ar.len kids)) (some (Ar.len kids))=some kids:=by
   unfold Q0;rw[A2 (by simp[B4])];simp[B4]
  rw[←B4 kids,e6];simp only[A4];rw[S3 (by simp;omega),Ni hN (l:=l) (by omega) (by rw[I3];exact gs) (by rw[e4];exact g1) (by rw[I3,e4];exact hA),I3,e4]
  simp_all)]
 simp only[A4];rw[A2 (L6 rfl)];simp only[A4,H6,K2,X2,Lr]
 congr 3
 funext t
 have e4:N7 (JG t).s=t.1:=I3 _;rw[e4];rfl
structure RB (N:Nat) (l:List A8) (p:A1) (b:List PR) (f:Nat) (m:Nat) (L:List TD):Prop where
 tl:TL l p b f L
 k:∀t∈L,IsK t
 ref:∀n,m+1≤n→An N n p l b f=some (L.map Gu)
 prg:∀(kids:List A3) (b0 s0:List PR),kids.length+(l.length-f)≤1000→Gd l b0→Gd l s0→O1 b0 s0→b=mrg b0 s0→∀n,m+1≤n→E7 N n ⟨l,0⟩ p (b0.map O2) f kids (s0.map O2)=some ((if kids=[]then[]else[JG (s0,⟨⟨0,0,0⟩,0,kids⟩)])++(L.map (sk kids s0)).map JG)
theorem Ab9 {N:Nat} (hN:40000000≤N) {l:List A8} (hl:l.length≤10) (hchk:Cy l=0) {p q:A1} (h4:p.Op=4) (ha:p.cL=[q]) (hw:Ga p) (hpp:p.pre.length≤64) (hs:GQ l.length p) {b:List PR} {f:Nat} (ho:KW l b f) {L:List TD} {m:Nat} (h:TL l q b f L) (hL:PT N l q b f (m+1) L) {F:TD→List TD}
 (hF:∀t∈L,∀g:Nat,S4 t.1+1=(g:Int)→RB N l p (mrg b t.1) g m (F t)):RB N l p b f (m+1) (Ac2 L F):=by
 have hqm:q∈p.cL:=by rw[ha];simp
 have hpq:=L4 hqm;have hfew:=h.few hl hchk (hw.arg hqm) (by omega) (hs.arg hqm) ho
 have hg:∀t∈L,∃g:Nat,S4 t.1+1=(g:Int)∧RB N l p (mrg b t.1) g m (F t)∧KW l (mrg b t.1) (g:Int)∧f<g∧g≤l.length:=by
  intro t ht;obtain⟨_,_,_,hr⟩:=h.tr t ht;obtain⟨g,hg,h1,h2⟩:=Se hr ho.f0;exact⟨g,hg,hF t ht g hg,by rw[←hg];exact ho.next hr,by omega,by omega⟩
 have hkne:∀t∈L,∀u∈F t,u.2.Kids≠[]:=by
  intro t ht u hu e;obtain⟨g,hg1,hg2,_⟩:=hg t ht;have:=(DE (hg2.tl.tr u hu).1).n
  rw[e]at this
  unfold KL at this
  rw[A0 (by omega),A0 (by omega),A2 h4]at this
  simp at this
 refine⟨⟨fun t ht=>?_,AW3 h.nd fun t ht=>?_⟩,fun t ht=>?_,fun n hn=>?_,?_⟩
 ·obtain⟨t,htL,ht⟩:=List.mem_flatMap.1 ht;obtain⟨u,hu,rfl⟩:=List.mem_map.1 ht
  rcases List.mem_cons.1 hu with rfl|hu
  ·have:=AC6 (.inr (.inl h4)) ha (h.tr t htL);unfold jn e0T
   dsimp only
   rw[V8];exact this
  obtain⟨g,hg1,hg2,_⟩:=hg t htL;have c:=hg2.tl.tr u hu
  rw[hg2.k u hu,←hg1]at c
  exact AN9 hl hchk hw hpp h4 ha ho (h.tr t htL) c
 ·obtain⟨g,hg1,hg2,_⟩:=hg t ht;refine⟨?_,fun u hu=>?_⟩
  ·rw[D5,List.nodup_cons];refine⟨fun hm=>?_,hg2.tl.nd⟩;obtain⟨u,hu,e⟩:=List.mem_map.1 hm;exact hkne t ht u hu (by rw[e];rfl)
  rcases List.mem_cons.1 hu with rfl|hu
  ·rfl
  exact hg2.k u hu
 ·obtain⟨t,htL,ht⟩:=List.mem_flatMap.1 ht;obtain⟨u,hu,rfl⟩:=List.mem_map.1 ht;rfl
 ·obtain⟨n,rfl⟩:∃k,n=k+1:=⟨n-1,by omega⟩;refine Ab8 hN hl ha ho.gd hfew (hL.ref n (by omega)) (fun t ht=>?_) (fun t ht=>?_)
  ·obtain⟨_,_,_,hr⟩:=h.tr t ht;exact⟨hr.gd,hr.ne,ho.apart hr⟩
  obtain⟨_,_,_,hr⟩:=h.tr t ht;obtain⟨g,hg1,hg2,hg3,_⟩:=hg t ht;refine⟨by rw[hg1];exact hg2.ref n (by omega),hg2.tl.few hl hchk hw hpp hs hg3,fun u hu=>?_⟩;obtain⟨_,_,hz,hr2⟩:=hg2.tl.tr u hu
  rw[←hg1]at hr2
  have hul:=hr2.gd.len;have:u.1.length*p.pre.length≤10*64:=R5 (by omega) (by omega);have:=Wu (L:=u.2.Kids);have:=HF u.2;exact⟨hr2.gd,(hr.seq hr2).2,by omega⟩
 intro kids b0 s0 hk gb gs hap hb n hn;obtain⟨n,rfl⟩:∃k,n=k+1:=⟨n-1,by omega⟩
 have hA:∀t∈L,O1 s0 t.1∧O1 b0 t.1∧Gd l t.1:=by
  intro t ht;obtain⟨_,_,_,hr⟩:=h.tr t ht;exact⟨fun x hx y hy=>ho.apart hr x (by rw[hb];exact M2.2 (.inr hx)) y hy,fun x hx y hy=>ho.apart hr x (by rw[hb];exact M2.2 (.inl hx)) y hy,hr.gd⟩
 have hq0:C3 p.cL (ar .rem .i64 (kids.length:Int) (Ar.len p.cL))=some q:=by
  rw[ha,show Ar.len [q]=1 from rfl,Aj2];rfl
 have hargs:p.cL≠[]:=by rw[ha];simp
 have hL':E9 N n ⟨l,0⟩ q ((if p.Op≠3 then mrg b0 s0 else b0).map O2) f=some (L.map JG):=by rw[A2 (by omega),←hb];exact hL.prg _ (by omega)
 have hgl:∀t∈L,Gd l t.1∧t.1≠[]:=fun t ht=>by
  obtain⟨_,_,_,hr⟩:=h.tr t ht;exact⟨hr.gd,hr.ne⟩
 have hE:∀t∈L,O1 s0 t.1→E7 N n ⟨l,0⟩ p (b0.map O2) (if p.Op≠3 then S4 t.1+1 else f) (kids++[t.2]) ((mrg s0 t.1).map O2)=some (JG (mrg s0 t.1,⟨⟨0,0,0⟩,0,kids++[t.2]⟩)::((F t).map (sk (kids++[t.2]) (mrg s0 t.1))).map JG):=by
  intro t ht _;obtain⟨g,hg1,hg2,hg3,hg4,hg5⟩:=hg t ht;obtain⟨a1,a2,a3⟩:=hA t ht;rw[A2 (by omega),hg1];have:=hg2.prg (kids++[t.2]) b0 (mrg s0 t.1) (by rw[J2,CM];omega) gb (gs.mrg a3 a1) (fun x hx y hy=>(M2.1 hy).elim (fun h=>hap x hx y h) fun h=>a2 x hx y h) (by rw[hb,EE gb.asc gs.asc a3.asc hap a2 a1]) n (by omega)
  rw[A0 (by simp)]at this
  exact this
 have fin:(L.flatMap fun t=>if S8 s0 t.1=true then[]else(JG (mrg s0 t.1,⟨⟨0,0,0⟩,0,kids++[t.2]⟩)::((F t).map (sk (kids++[t.2]) (mrg s0 t.1))).map JG))=((Ac2 L F).map (sk kids s0)).map JG:=by
  unfold Ac2;rw[CE,CE];refine HT fun t ht=>?_;obtain⟨a1,a2,a3⟩:=hA t ht;rw[A0 (by rw[T7.2 a1];simp),D5,D5,D5]
  congr 1
  ·unfold sk jn e0T
   dsimp only
   rw[V8]
  rw[J0,J0,J0];refine V6 fun u hu=>?_;obtain⟨g,hg1,hg2,hg3,_⟩:=hg t ht;obtain⟨_,_,_,hr⟩:=h.tr t ht;obtain⟨_,_,_,hr2⟩:=hg2.tl.tr u hu;have a4:=hg3.apart hr2;simp only[Function.comp,sk,jn,JG];rw[EE gs.asc a3.asc hr2.gd.asc a1 (fun x hx y hy=>a4 x (M2.2 (.inl (by rw[hb];exact M2.2 (.inr hx)))) y hy) (fun x hx y hy=>a4 x (M2.2 (.inr hx)) y hy)];simp
 by_cases hk0:kids=[]
 ·rw[Nh hN hl (q:=q) (L:=L) gb gs (fun _=>hap) (by omega) hargs (by rw[hk0];rintro(⟨h,_⟩|⟨_,h⟩)<;>simp at h<;>omega) hq0 hL' hgl hE,A2 hk0,fin];rfl
 rw[Ae0 hN hl (q:=q) (L:=L) gb gs (fun _=>hap) (by omega) hargs h4 (List.length_pos_iff.2 hk0) hq0 hL' hgl hE,A0 hk0,fin];rfl
theorem RB.mono {N:Nat}{l:List A8}{p:A1}{b:List PR}{f:Nat}{m m':Nat}{L:List TD}(h:RB N l p b f m L)(hm:m≤m'):RB N l p b f m' L:=⟨h.tl,h.k,fun n hn=>h.ref n (by omega),fun kids b0 s0 h1 h2 h3 h4 h5 n hn=>h.prg kids b0 s0 h1 h2 h3 h4 h5 n (by omega)⟩
theorem Ac0 {N:Nat} (hN:40000000≤N) {l:List A8} (hl:l.length≤10) (hchk:Cy l=0) {k:Nat} (ih:IHT N l k) {p q:A1} (h4:p.Op=4) (ha:p.cL=[q]) (hw:Ga p) (hpp:p.pre.length≤64) (hs:GQ l.length p) {f0:Nat} (hk:∀g,f0≤g→mu l q g≤k):
 ∀(d:Nat) (b:List PR) (f:Nat),f0≤f→l.length-f≤d→KW l b f→∃L,RB N l p b f (8*k+8+d) L:=by
 intro d
 induction d using Nat.strongRecOn with
 | _ d rec=>
  intro b f hf hd ho
  have hqm:q∈p.cL:=by rw[ha];simp
  have hpq:=L4 hqm;obtain⟨L,g1,g2⟩:=ih q b f (hk f hf) (by omega) (hw.arg hqm) (hs.arg hqm) ho
  have hex:∀t:TD,∃F,t∈L→∀g:Nat,S4 t.1+1=(g:Int)→RB N l p (mrg b t.1) g (8*k+7+d) F:=by
   intro t
   by_cases ht:t∈L
   ·obtain⟨_,_,_,hr⟩:=g1.tr t ht;obtain⟨g,hg,hgl,hfg⟩:=Se hr ho.f0;obtain⟨F,hF⟩:=rec (d-1) (by omega) (mrg b t.1) g (by omega) (by omega) (by rw[←hg];exact ho.next hr)
    exact⟨F,fun _ g' hg'=>by
     grind⟩
   simp_all
  obtain⟨F,hF⟩:=IN hex;have:=Ab9 hN hl hchk h4 ha hw hpp hs ho g1 (g2.mono (show 8*k+8≤8*k+7+d+1 by omega)) hF
  grind
theorem GQ.front {m:Nat} {p:A1} {r r':List A1} (h:GQ m p) (h4:p.Op≠4) (ha:p.cL=r++r'):GQ m {p with cL:=r}:=by
 have he:W5 {p with cL:=r}≤W5 p:=by
  rw[Nl,Fa,ha];simp only[BJ,DT];omega
 exact UJ h h4 (fun x hx=>by rw[ha];simp[hx]) he (h.1.mono he fun k=>k.sub fun x hx=>by rw[ha];simp[hx])
theorem As2 {p:A1}{r r':List A1}(ha:p.cL=r++r'):({p with cL:=r}:A1).pre.length≤p.pre.length:=by
 rw[A1.pre_eq p,A1.pre_eq {p with cL:=r},ha,BJ]
 simp_all
def kT (c:CD):TD:=(c.1,⟨⟨0,0,0⟩,0,c.2⟩)
def mxP:List (List TD)→CD→List CD
 |[],c=>[c]
 |T::Ts,c=>T.flatMap fun t=>if S8 c.1 t.1=true then[]else mxP Ts (mrg c.1 t.1,c.2++[t.2])
def mxS (A:List CD)(T:List TD):List CD:=A.flatMap fun c=>T.flatMap fun t=>if S8 c.1 t.1=true then[]else[(mrg c.1 t.1,c.2++[t.2])]
theorem Ak7:∀(Ts:List (List TD)) (A:List CD),Ts.foldl mxS A=A.flatMap (mxP Ts)
 | [],A=>by
  rw[List.foldl_nil]
  have:∀A:List CD,A.flatMap (mxP [])=A:=by
   simp[mxP]
  simp_all
 |T::Ts,A=>by
  rw[Lp,Ak7 Ts];unfold mxS;rw[List.flatMap_assoc];refine HT fun c _=>?_;rw[mxP,List.flatMap_assoc]
  grind
def Sb (T:Nat→List TD)(j:Nat):List CD:=((List.range j).map T).foldl mxS [([],[])]
theorem Tg (T:Nat→List TD)(j:Nat):Sb T (j+1)=mxS (Sb T j) (T j):=by
 unfold Sb;rw[List.range_succ,O3,List.foldl_append];rfl
theorem AZ1 (T:Nat→List TD)(j:Nat):Sb T j=mxP ((List.range' 0 j).map T) ([],[]):=by
 unfold Sb;rw[Ak7,Gr];simp
theorem Xj {l:List A8} {p p':A1} (h:p.Op=p'.Op) {c:Int} {b:List PR} {f:Int}:∀(ks:List A3) (i:Nat) (s:List PR),(∀j,i≤j→j<i+ks.length→M4 p c j=M4 p' c j)→Dz l ks p c i b f s=Dz l ks p' c i b f s
 |[],i,s,_=>by rw[Dz,Dz]
 | k::ks,i,s,ha=>by
  have eo:Eb p b s=Eb p' b s:=by unfold Eb BV;rw[h]
  have ef:AP p f s=AP p' f s:=by unfold AP BV;rw[h]
  rw[W2,W2,Uu,Uu,ha i (B3 _) (by simp),eo,ef]
  cases(OX l k (M4 p' c i) (Eb p' b s) (AP p' f s)).bind fun x=>if S8 s x=true then none else some (mrg s x)with
  |none=>rfl
  |some t=>
   simp only[A4];exact Xj h ks (i+1) t fun j h1 h2=>ha j (by omega) (by rw[H7];omega)
theorem Xw {p p':A1} {c:Int}:∀(ks:List A3) (i:Nat),(∀j,i≤j→j<i+ks.length→M4 p c j=M4 p' c j)→Ci ks p c i=Ci ks p' c i
 |[],i,_=>by rw[Ci,Ci]
 |k::ks,i,ha=>by
  rw[Ci,Ci,ha i (B3 _) (by simp),Xw ks (i+1) fun j h1 h2=>ha j (by omega) (by rw[H7];omega)]
theorem Az1 (a b:List A3):Fi (a++b)=Fi a+Fi b:=by simp[Pb]
theorem AZ2 {l:List A8} {p q:A1} {r:List A1} (h3:p.Op=3) (ha:p.cL=r++[q]) {b:List PR} {f:Int} {t:TD} {s:List PR} {ks:List A3} (hap:O1 s t.1)
 (ht:IU t.2 q=0∧OX l t.2 q b f=some t.1∧GK t.2≤t.1.length*q.pre.length∧GR l f t.1)
 (hc:IU ⟨⟨0,0,0⟩,0,ks⟩ {p with cL:=r}=0∧OX l ⟨⟨0,0,0⟩,0,ks⟩ {p with cL:=r} b f=some s∧GK ⟨⟨0,0,0⟩,0,ks⟩≤s.length*({p with cL:=r}:A1).pre.length∧GR l f s):
 IU ⟨⟨0,0,0⟩,0,ks++[t.2]⟩ p=0∧OX l ⟨⟨0,0,0⟩,0,ks++[t.2]⟩ p b f=some (mrg s t.1)∧GK ⟨⟨0,0,0⟩,0,ks++[t.2]⟩≤(mrg s t.1).length*p.pre.length∧GR l f (mrg s t.1):=by
 obtain⟨t1,t2,t3,t4⟩:=ht;obtain⟨c1,c2,c3,c4⟩:=hc;have op':({p with cL:=r}:A1).Op=3:=h3;have hn:=(DE c1).n
 unfold KL at hn
 rw[A0 (by omega),A2 (.inr op')]at hn
 have hkr:ks.length=r.length:=by
  simp_all
 have hpre:p.pre.length=({p with cL:=r}:A1).pre.length+q.pre.length:=by
  rw[A1.pre_eq p,A1.pre_eq {p with cL:=r},ha,BJ]
  grind[A1.pres]
 have aq:M4 p 0 r.length=q:=by
  simp_all[M4]
 have ae:∀j,0≤j→j<0+ks.length→M4 p 0 j=M4 {p with cL:=r} 0 j:=by
  grind[M4]
 have su2:Ci ks {p with cL:=r} 0 0=0:=by
  rw[Jv]at c1
  grind
 refine⟨?_,?_,?_,c4.all t4 hap⟩
 ·rw[Jv]
  dsimp only
  rw[A0 (by
   omega),A0 (by omega),A0 (by simp_all[KL]),Xx,Xw ks 0 ae,su2,A2 rfl,K1,hkr,Ci,aq,A2 t1,Ci]
 ·rw[HC,A0 (by omega)]at c2 ⊢
  dsimp only at c2 ⊢
  obtain⟨u,hu1,hu2⟩:=Option.bind_eq_some_iff.1 c2
  rw[A0 (fun h=>by have:=h.1;omega)]at hu2
  cases BL hu2
  have e1:Eb p b s=b:=by unfold Eb BV;rw[A0 (by omega)]
  have e2:AP p f s=f:=by unfold AP BV;rw[A0 (by omega)]
  rw[Xk,Xj (p:=p) (p':={p with cL:=r}) rfl ks 0 [] ae,hu1];simp only[A4];rw[K1,hkr,W2,Uu,aq,e1,e2,t2];simp only[A4];rw[A0 (by rw[T7.2 hap];simp)]
  simp_all[Dz]
 simp only[GK,Fi,Az1]at *
 rw[Kx,hpre,E3,BF,BF];omega
theorem Be8 {A:List CD} (h:((A.map kT).map (·.2)).Nodup) {T:List TD} (hT:(T.map (·.2)).Nodup):(((mxS A T).map kT).map (·.2)).Nodup:=by
 unfold mxS Nodup at *
 rw[S6,S6]at h
 rw[S6]at hT
 rw[S6,S6,IK]
 constructor
 ·intro c hc;rw[IK]
  constructor
  ·intro t ht
   split
   ·simp_all
   simp_all
  refine hT.imp fun{a e} hne=>?_;intro x hx y hy e'
  split at hx
  ·cases hx
  split at hy
  ·cases hy
  rw[CH]at hx hy
  subst hx;subst hy
  simp only[kT]at e'
  simp_all
 refine h.imp fun{a c} hne=>?_;intro x hx y hy e';obtain⟨t,_,hx⟩:=List.mem_flatMap.1 hx;obtain⟨u,_,hy⟩:=List.mem_flatMap.1 hy
 split at hx
 ·cases hx
 split at hy
 ·cases hy
 rw[CH]at hx hy
 subst hx;subst hy
 simp only[kT]at e'
 injection e' with _ _ e3
 have:=(List.append_inj' e3 rfl).1;exact hne (by simp_all[kT])
theorem AV9 {l:List A8} {p:A1} (h3:p.Op=3) {b:List PR} {f:Int} {T:Nat→List TD} (hT:∀i (hi:i<p.cL.length),TL l p.cL[i] b f (T i)):∀j,1≤j→j≤p.cL.length→TL l {p with cL:=p.cL.take j} b f ((Sb T j).map kT)
 |0,h,_=>absurd h (by omega)
 | 1,_,hj=>by
  have e:(Sb T 1).map kT=(T 0).map (wr 0):=by
   rw[Tg];unfold mxS Sb;rw[List.range_zero,H5,List.foldl_nil,U8,List.flatMap_nil,H6]
   have:∀L:List TD,(L.flatMap fun t=>if S8 ([]:List PR) t.1=true then[]else[((mrg [] t.1,[]++[t.2]):CD)]).map kT=L.map (wr 0):=by
    intro L
    induction L with
    |nil=>rfl
    |cons a L ih=>
     rw[U8,O3,ih,A0 (by simp[S8]),Ds];rfl
   exact this _
  rw[e]
  have ha:({p with cL:=p.cL.take 1}:A1).cL=[p.cL[0]]:=by
   show p.cL.take 1=_
   rw[Bk (by omega)];rfl
  exact AC7 (p:={p with cL:=p.cL.take 1}) (.inr (.inr h3)) ha (hT 0 (by omega))
 | j+2,_,hj=>by
  have ih:=AV9 h3 hT (j+1) (by omega) (by omega);have hq:=hT (j+1) (by omega);have ha:({p with cL:=p.cL.take (j+1+1)}:A1).cL=p.cL.take (j+1)++[p.cL[j+1]]:=Bk (by omega);rw[Tg T (j+1)];refine⟨fun x hx=>?_,Be8 ih.nd hq.nd⟩;obtain⟨c',hc',rfl⟩:=List.mem_map.1 hx
  unfold mxS at hc'
  obtain⟨c,hc,hx⟩:=List.mem_flatMap.1 hc';obtain⟨t,ht,hx⟩:=List.mem_flatMap.1 hx
  split at hx
  ·cases hx
  next hm=>
   rw[Be]at hm
   rw[CH]at hx
   subst hx;have hcm:=ih.tr (kT c) (List.mem_map_of_mem hc);exact AZ2 (p:={p with cL:=p.cL.take (j+1+1)}) h3 ha (T7.1 hm) (hq.tr t ht) hcm
theorem At4 {N:Nat} (hN:40000000≤N) {l:List A8} (hl:l.length≤10) {n:Nat} {args:List A1} (har:args.length≤64) {b:List PR} {f:Int} {T:Nat→List TD} (hTn:∀i,i<args.length→(T i).length≤4096) (hL:∀i (hi:i<args.length),M3 N n args[i] l b f=some ((T i).map Gu)) (hg:∀i,i<args.length→∀t∈T i,Gd l t.1)
 (hM:∀j,j≤args.length→(Sb T j).length≤4096∧∀c∈Sb T j,Gd l c.1∧c.2.length≤4096):
 CW N (n+1) args l b f=some ((Sb T args.length).map Ti):=by
 rw[CW]
 refine Fx (m:=args.length) (fun i acc=>(acc,(i:Int))) (fun i acc=>acc=(Sb T i).map Ti) (fun acc=>acc) (t0:=[⟨[],⟨⟨0,0,0⟩,0,[]⟩⟩]) rfl (by omega) (by simp[Sb,Ti]) (fun i hi acc ha=>?_) (fun acc _=>by
  dsimp only
  rw[A0 (N4 (by rw[B4];omega))]) (fun acc hacc=>by rw[hacc])
 obtain⟨hMl,hMc⟩:=hM i (by omega);have hTi:=hTn i hi
 have ea:ar .add .i64 (i:Int) 1=((i+1:Nat):Int):=by rw[D3 (by omega) (by omega)];omega
 refine⟨(Sb T (i+1)).map Ti,?_,rfl⟩
 dsimp only
 rw[A2 (X7 (by omega)),F6,E0 hi];simp only[A4];rw[hL i hi];simp only[A4];rw[Tg];subst ha
 refine Fx (m:=(Sb T i).length) (fun j acc'=>(acc',(j:Int))) (fun j acc'=>acc'=(mxS ((Sb T i).take j) (T i)).map Ti∧acc'.length≤j*4096) (fun acc'=>acc') (t0:=[]) rfl (by omega) ⟨by simp[mxS],by simp⟩ (fun j hj acc' ⟨hacc,hal⟩=>?_) (fun acc' _=>by
  dsimp only
  rw[A0 (N4 (by rw[B4,D6];omega))]) (fun acc' hacc=>by rw[hacc.1,X0,ea])
 have hcm:=G3 hj;obtain⟨c1,c2⟩:=hMc _ hcm;have hcl:=c1.len;have hj2:j*4096≤4096*4096:=G5 _ (by omega)
 have ej:ar .add .i64 (j:Int) 1=((j+1:Nat):Int):=by rw[D3 (by omega) (by omega)];omega
 have hct:((Sb T i).map Ti)[j]? =some (Ti (Sb T i)[j]):=by rw[R6,E0 hj];rfl
 generalize hcd:(Sb T i)[j]=c at *
 have hone:∀t:TD,(if S8 c.1 t.1=true then[]else[((mrg c.1 t.1,c.2++[t.2]):CD)]).length≤1:=by grind
 have hfl:=Mw hone (T i);refine⟨acc'++((T i).flatMap fun t=>if S8 c.1 t.1=true then[]else[((mrg c.1 t.1,c.2++[t.2]):CD)]).map Ti,?_,by unfold mxS;rw[JU hj,O3,hacc,hcd];rfl,by rw[J2,D6,E3,S5];omega⟩
 dsimp only
 rw[A2 (X7 (by rw[D6];omega))]
 refine Fx (m:=(T i).length) (fun u a2=>(a2,(u:Int))) (fun u a2=>a2=acc'++(((T i).take u).flatMap fun t=>if S8 c.1 t.1=true then[]else[((mrg c.1 t.1,c.2++[t.2]):CD)]).map Ti) (fun a2=>a2) (t0:=acc') rfl (by omega) (by simp) (fun u hu a2 ha2=>?_) (fun a2 _=>by
  dsimp only
  rw[A0 (N4 (by rw[B4,D6];omega))]) (fun a2 ha2=>by rw[ha2,X0,ej])
 have htm:=G3 hu;have gt:=hg i hi _ htm;have htl:=gt.len
 have hlen:a2.length≤100000000:=by
  have:=Mw hone ((T i).take u)
  rw[Bf]at this
  rw[ha2,J2,D6];omega
 have eu:ar .add .i64 (u:Int) 1=((u+1:Nat):Int):=by rw[D3 (by omega) (by omega)];omega
 have hut:((T i).map Gu)[u]? =some (Gu (T i)[u]):=by rw[R6,E0 hu];rfl
 refine⟨a2++(if S8 c.1 (T i)[u].1=true then[]else[((mrg c.1 (T i)[u].1,c.2++[(T i)[u].2]):CD)]).map Ti,?_,by rw[JU hu,O3,←E6,←ha2]⟩
 dsimp only
 have e1:(Ti c).s=c.1:=rfl;have e2:(Ti c).d.Kids=c.2:=rfl;have e3:(Gu (T i)[u]).s=(T i)[u].1:=rfl;have e4:(Gu (T i)[u]).d=(T i)[u].2:=rfl;rw[A2 (X7 (by rw[D6];omega)),F6,hct];simp only[A4];rw[F6,hut];simp only[A4];rw[e1,e2,e3,e4,JQ hN (by omega),Mn _ (B3 _) c1.asc gt.asc,eu];simp only[A4]
 by_cases hm:O1 c.1 (T i)[u].1
 case neg=>
  have hm':S8 c.1 (T i)[u].1=true:=by
   rcases Bool.eq_false_or_eq_true (S8 c.1 (T i)[u].1)with h|h
   ·exact h
   exact absurd (T7.1 h) hm
  rw[A0 hm,A2 hm'];simp
 case pos=>
  have hm':¬S8 c.1 (T i)[u].1=true:=by rw[T7.2 hm];simp
  rw[A2 hm,A0 hm'];simp only[D1,A4];rw[S3 (by simp;omega)];simp only[A4,K2];rw[S3 (by simp;omega)];simp only[A4];rw[S3 (by simp;omega)];rfl
theorem Al1 {N:Nat} (hN:40000000≤N) {l:List A8} (hl:l.length≤10) {p:A1} (h3:p.Op=3) (har:p.cL.length≤64) {b:List PR} {f:Int} (gb:Gd l b) {T:Nat→List TD} {m0:Nat} (hL:∀i (hi:i<p.cL.length) n,m0≤n→E9 N n ⟨l,0⟩ p.cL[i] (b.map O2) f=some ((T i).map JG)) (hg:∀i,i<p.cL.length→∀t∈T i,Gd l t.1∧t.1≠[]):
 ∀(m:Nat) (kids:List A3) (s:List PR),kids.length+m=p.cL.length→Gd l s→∀n,m0+m+1≤n→E7 N n ⟨l,0⟩ p (b.map O2) f kids (s.map O2)=some ((mxP ((List.range' kids.length m).map T) (s,kids)).map fun c=>JG (kT c))
 |0,kids,s,hk,gs,n,hn=>by
  obtain⟨n,rfl⟩:∃k,n=k+1:=⟨n-1,by omega⟩;rw[Vf (by omega) (by omega) (by omega)];rfl
 | m+1,kids,s,hk,gs,n,hn=>by
  obtain⟨n,rfl⟩:∃k,n=k+1:=⟨n-1,by omega⟩
  have hi:kids.length<p.cL.length:=by omega
  rw[Nh hN hl (q:=p.cL[kids.length]) (L:=T kids.length) (E:=fun t=>(mxP ((List.range' (kids.length+1) m).map T) (mrg s t.1,kids++[t.2])).map fun c=>JG (kT c)) gb gs (fun h=>absurd h3 h) (by omega) (by grind) (by rintro(⟨_,h⟩|⟨h,_⟩)<;>omega) (by
   rw[Qj (by omega) (by rw[B4];omega),F6,E0 hi]) (by rw[A0 (by omega)];grind) (fun t ht=>hg _ hi t ht) (fun t ht hA=>by
   rw[A0 (by omega)];have:=Al1 hN hl h3 har gb hL hg m (kids++[t.2]) (mrg s t.1) (by rw[J2,CM];omega) (gs.mrg (hg _ hi t ht).1 hA) n (by omega)
   rwa[J2,CM]at this)]
  rw[DO,D5,mxP,CE]
  grind
theorem AE4 {N:Nat} (hN:40000000≤N) {l:List A8} (hl:l.length≤10) (hchk:Cy l=0) {k:Nat} (ih:IHT N l k) {p:A1} (h3:p.Op=3) (hw:Ga p) (hpp:p.pre.length≤64) (hs:GQ l.length p) {b:List PR} {f:Nat} (ho:KW l b f) (hk:∀q∈p.cL,mu l q f≤k):
 ∃L,TL l p b f L∧(∀n,8*k+9≤n→CW N n p.cL l b f=some (L.map Gu))∧(∀n,8*k+9+p.cL.length≤n→E7 N n ⟨l,0⟩ p (b.map O2) f [] []=some (L.map JG)):=by
 have hal:=V2 p;have hane:=hw.self.a1 (by omega) (by omega);have hap:=List.length_pos_iff.2 hane
 have hex:∀i:Nat,∃L,∀hi:i<p.cL.length,TL l p.cL[i] b f L∧PT N l p.cL[i] b f (8*k+8) L:=by
  intro i
  by_cases hi:i<p.cL.length
  ·have hq:=G3 hi;have hpq:=L4 hq;obtain⟨L,h1,h2⟩:=ih p.cL[i] b f (hk _ hq) (by omega) (hw.arg hq) (hs.arg hq) ho;exact⟨L,fun _=>⟨h1,h2⟩⟩
  exact⟨[],fun h=>absurd h hi⟩
 obtain⟨T,hT⟩:=IN hex
 have few:∀i,i<p.cL.length→(T i).length≤4096:=by
  intro i hi;have hq:=G3 hi;have hpq:=L4 hq;exact(hT i hi).1.few hl hchk (hw.arg hq) (by omega) (hs.arg hq) ho
 have hgd:∀i,i<p.cL.length→∀t∈T i,Gd l t.1∧t.1≠[]:=by
  intro i hi t ht;obtain⟨_,_,_,hr⟩:=(hT i hi).1.tr t ht;exact⟨hr.gd,hr.ne⟩
 have tl:=AV9 h3 fun i hi=>(hT i hi).1
 have hM:∀j,j≤p.cL.length→(Sb T j).length≤4096∧∀c∈Sb T j,Gd l c.1∧c.2.length≤4096:=by
  intro j hj
  by_cases h0:j=0
  ·subst h0;refine⟨by simp[Sb],fun c hc=>?_⟩
   have e:c=([],[]):=by simpa[Sb]using hc
   rw[e];exact⟨Gd.nil l,by simp⟩
  have tj:=tl j (by omega) hj;have ha:=(DV j p.cL).symm;have hpf:=As2 ha
  have hwj:Ga {p with cL:=p.cL.take j}:=hw.sub (by omega) (by omega) (fun x hx=>List.mem_of_mem_take hx) (by
   grind)
  have:=tj.few hl hchk hwj (by omega) (hs.front (by omega) ha) ho;refine⟨by grind,fun c hc=>?_⟩;obtain⟨_,_,hz,hr⟩:=tj.tr (kT c) (List.mem_map_of_mem hc);have hul:=hr.gd.len;have h1:(kT c).1.length*({p with cL:=p.cL.take j}:A1).pre.length≤10*64:=R5 (by omega) (by omega);have h2:=Wu (L:=c.2);have h3:=HF (kT c).2;have h4:(kT c).2.Kids=c.2:=rfl
  rw[h4]at h3
  exact⟨hr.gd,by omega⟩
 have tp:=tl p.cL.length hap (B3 _)
 rw[X0]at tp
 have tq:TL l p b f ((Sb T p.cL.length).map kT):=by
  obtain⟨a1,a2,a3,a4,a5,a6,a7⟩:=p;exact tp
 refine⟨_,tq,fun n hn=>?_,fun n hn=>?_⟩
 ·obtain⟨n,rfl⟩:∃k,n=k+1:=⟨n-1,by omega⟩;rw[At4 hN hl (by omega) few (fun i hi=>(hT i hi).2.ref n (by omega)) (fun i hi t ht=>(hgd i hi t ht).1) hM,J0];rfl
 have:=Al1 hN hl h3 (by omega) ho.gd (m0:=8*k+8) (fun i hi n hn=>(hT i hi).2.prg n hn) hgd p.cL.length [] [] (by simp) (Gd.nil l) n (by omega)
 rw[H5]at this
 rw[this,AZ1,J0];rfl
theorem Yg {q:A1}:∀{l:List A1},q∈l→q.pre.length+l.length≤(A1.pres l).length+1
 |a::l,h=>by
  have h0:=QF l;simp only[A1.pres,J2,H7]
  rcases List.mem_cons.1 h with rfl|h
  ·omega
  have:=Yg h;have:=A1.pre_eq a
  have:1≤a.pre.length:=by rw[this];simp
  omega
theorem Sc {l:List A8}{p q:A1}(hq:q∈p.cL)(f g:Nat):mu l q g+2*p.cL.length≤mu l p f:=by
 have h1:=Yg hq
 have h2:p.pre.length=(A1.pres p.cL).length+1:=by rw[A1.pre_eq];simp
 have h3:=List.length_pos_iff.2 (List.ne_nil_of_mem hq);have h4:(q.pre.length+p.cL.length)*(l.length+2)≤p.pre.length*(l.length+2):=G5 _ (by omega)
 rw[E3,BF p.cL.length]at h4
 have h5:1*l.length≤p.cL.length*l.length:=G5 _ h3
 grind[mu]
theorem Yx {l:List A8}{p q:A1}(hq:q∈p.cL){f g:Nat}(h:f≤g):mu l q g+(l.length+2)≤mu l p f:=by
 have h1:=L4 hq;have h4:(q.pre.length+1)*(l.length+2)≤p.pre.length*(l.length+2):=G5 _ h1
 rw[E3,S5]at h4
 grind[mu]
theorem Az7 {L:List TD} (h:∀t∈L,IsK t):L.map (sk [] [])=L:=by
 have:∀L:List TD,(∀t∈L,IsK t)→L.map (sk [] [])=L:=by
  intro L
  induction L with
  |nil=>intro _;rfl
  |cons a L ih=>
   intro h;rw[D5,ih fun t ht=>h t (by simp[ht])];have:=h a (by simp)
   unfold IsK at this
   congr 1
   obtain⟨a1,a2⟩:=a;unfold sk;rw[Ds]
   grind
 grind
theorem Ue {N n:Nat}{x:E8}{p:A1}(h:p.Op=1∨p.Op=3∨p.Op=4){o:List DP}{f:Int}{L:List A7}(hL:E7 N n x p o f [] []=some L):L8 N (n+1) x p o f=some L:=by
 rw[L8,A0 (PW (by omega)),A0 (PW (by omega))]
 rcases h with h|h|h
 ·rw[A2 (L6 h)];simp only[V0,A4];rw[A2 trivial,hL];simp
 ·rw[A0 (PW (by omega)),A2 (L6 h)];simp only[V0,A4];rw[A2 trivial,hL];simp
 rw[A0 (PW (by omega)),A0 (PW (by omega))];simp only[V0,A4];rw[A2 (L6 h),hL];simp
theorem AF6 {N:Nat} (hN:40000000≤N) {l:List A8} (hl:l.length≤10) (hchk:Cy l=0):∀K,IHT N l K:=by
 intro K
 induction K using Nat.strongRecOn with
 | _ K rec=>
  intro p b f hmu hpp hw hs ho
  have hp0:1≤p.pre.length:=by rw[A1.pre_eq];simp
  have hK:2≤K:=by
   have h4:1*(l.length+2)≤p.pre.length*(l.length+2):=G5 _ hp0
   unfold mu at hmu
   omega
  have hop:=hw.self.op
  by_cases h0:p.Op=0
  ·obtain⟨L,h1,h2⟩:=Ae1 hN hl hchk hw h0 ho;exact⟨L,h1,h2.mono (by omega)⟩
  by_cases h1:p.Op=1
  ·have hane:=hw.self.a1 (by omega) (by omega);have hap:=List.length_pos_iff.2 hane;obtain⟨q0,hq0⟩:∃q,q∈p.cL:=Bi _ hane;have hm0:=Sc (l:=l) hq0 f f;obtain⟨L,hL⟩:=XN hN hl hchk (rec (K-2*p.cL.length) (by omega)) p.cL p b f h1 rfl hane hw hpp hs ho (fun q hq g=>by have:=Sc (l:=l) hq f g;omega);have hal:=V2 p;refine⟨L,hL.tl,fun n hn=>?_,fun n hn=>?_⟩
   ·obtain⟨n,rfl⟩:∃k,n=k+1:=⟨n-1,by omega⟩;rw[M3,A0 (PW (by omega)),A2 (L6 h1),hL.ref n (by omega)];rfl
   obtain⟨n,rfl⟩:∃k,n=k+3:=⟨n-3,by omega⟩;refine No hN rfl (Ue (.inl h1) ?_) (by rw[D6];exact hL.tl.few hl hchk hw hpp hs ho);have:=hL.prg p [] [] b [] h1 rfl rfl (by omega) ho.gd (Gd.nil l) (fun _ _ y hy=>absurd hy CF) (V8 b).symm n (by omega)
   rw[H5,Az7 hL.k]at this
   exact this
  by_cases h3:p.Op=3
  ·have hane:=hw.self.a1 (by omega) (by omega);have hap:=List.length_pos_iff.2 hane;obtain⟨q0,hq0⟩:∃q,q∈p.cL:=Bi _ hane;have hm0:=Sc (l:=l) hq0 f f;obtain⟨L,h5,h6,h7⟩:=AE4 hN hl hchk (rec (K-2*p.cL.length) (by omega)) h3 hw hpp hs ho (fun q hq=>by have:=Sc (l:=l) hq f f;omega);refine⟨L,h5,fun n hn=>?_,fun n hn=>?_⟩
   ·obtain⟨n,rfl⟩:∃k,n=k+1:=⟨n-1,by omega⟩;rw[M3,A0 (PW (by omega)),A0 (PW (by omega)),A0 (PW (by omega)),A2 (L6 h3),h6 n (by omega)];rfl
   obtain⟨n,rfl⟩:∃k,n=k+3:=⟨n-3,by omega⟩;exact No hN rfl (Ue (.inr (.inl h3)) (h7 n (by omega))) (by rw[D6];exact h5.few hl hchk hw hpp hs ho)
  by_cases h4:p.Op=4
  ·obtain⟨q,hq⟩:=hw.self.a2 (by omega)
   have hqm:q∈p.cL:=by rw[hq];simp
   have hm0:=Yx (l:=l) hqm (B3 f);obtain⟨L,hL⟩:=Ac0 hN hl hchk (rec (K-(l.length+2)) (by omega)) h4 hq hw hpp hs (f0:=f) (fun g hg=>by have:=Yx (l:=l) hqm hg;omega) (l.length-f) b f (B3 _) (B3 _) ho;refine⟨L,hL.tl,fun n hn=>?_,fun n hn=>?_⟩
   ·obtain⟨n,rfl⟩:∃k,n=k+1:=⟨n-1,by omega⟩;rw[M3,A0 (PW (by omega)),A0 (PW (by omega)),A2 (L6 h4),hL.ref n (by omega)];rfl
   obtain⟨n,rfl⟩:∃k,n=k+3:=⟨n-3,by omega⟩;refine No hN rfl (Ue (.inr (.inr h4)) ?_) (by rw[D6];exact hL.tl.few hl hchk hw hpp hs ho);have:=hL.prg [] b [] (by simp;omega) ho.gd (Gd.nil l) (fun _ _ y hy=>absurd hy CF) (V8 b).symm n (by omega)
   rw[H5,Az7 hL.k,A2 rfl]at this
   exact this
  obtain⟨k,rfl⟩:∃k,K=k+1:=⟨K-1,by omega⟩;obtain⟨L,h5,h6⟩:=AF5 hN hl hchk (rec k (by omega)) hw hpp hs (by omega) ho (by omega)
  grind
theorem AL4 {α:Type}{l:List α}{i:Nat}(h:i<l.length)(v:α):HE l (i:Int) (fun _=>v)=some (l.set i v):=by
 unfold HE;rw[F6,E0 h,CG];rfl
mutual
theorem An6:∀(a b:A3),dO a b=0→a=b
 | ⟨r,c,ks⟩,⟨r',c',ks'⟩,h=>by
  simp only[dO]at h
  by_cases h1:O4 (X8 r) (X8 r')=0
  ·rw[A0 (fun k=>k h1)]at h
   by_cases h2:UI c c'=0
   ·rw[A0 (fun k=>k h2)]at h
    have e1:=Pu h1
    have e2:c=c':=by
     grind[UI]
    have e3:=Zn ks ks' h
    have e4:r=r':=by
     cases r;simp_all[X8]
    rw[e2,e3,e4]
   omega
  omega
theorem Zn:∀(l m:List A3),Vt l m=0→l=m
 |[],[],_=>rfl
 |[],_::_,h=>by simp[Vt]at h
 |_::_,[],h=>by simp[Vt]at h
 | a::l,b::m,h=>by
  simp only[Vt]at h
  by_cases h1:dO a b=0
  ·rw[A0 (fun k=>k h1)]at h
   rw[An6 a b h1,Zn l m h]
  omega
end
theorem Rr {a b c:A3}(h1:dO a b<0)(h2:dO b c<0):dO a c<0:=(AH8 (by omega) (by omega)).2 h1
def ZM (r:List A3):Prop:=r.Pairwise fun a b=>dO a b<0
theorem AX8 {N:Nat} (hN:40000000≤N) {L r:List A3} (hp:r.Perm L) (ha:ZM r) (hb:∀x∈r,GK x≤4096) (hl:L.length≤1000000):LU (fun y1 y2=>P7 N N y1 y2) L=some r:=by
 have hd:∀x∈r,PX x≤N∧GK x≤30000000:=fun x hx=>by have:=hb x hx;have:=Zj x;omega
 refine XA hp (Ez.2 ⟨fun a h=>?_,?_⟩) (by omega)
 ·unfold geC
  dsimp only
  rw[Sh hN N a a (hd a h).1 (hd a h).2,An7];rfl
 refine LM (fun{x y} hx hy hlt=>?_) ha
 constructor
 ·unfold Vb
  dsimp only
  rw[Sh hN N x y (hd x hx).1 (hd x hx).2]
  simp_all
 unfold geC
 dsimp only
 rw[Sh hN N y x (hd y hy).1 (hd y hy).2,AH9]
 grind
theorem Bf0 {N:Nat} (hN:40000000≤N) {m:A3} (hm:GK m≤4096) {out:List A3} (hl:out.length≤1000000) (ha:ZM out) (hn:∀x∈out,dO m x≠0):
 ∃k,k≤out.length∧Dn N out m=some (out.take k++[m]++out.drop k)∧ZM (out.take k++[m]++out.drop k):=by
 have hcmp:∀y,Y1 N N m y=some (dO m y):=fun y=>SM hN N m y (by have:=Zj m;omega) (by omega)
 have key:∀(k M:Nat),k≤out.length→k<M→(∀x∈out.drop k,dO m x<0)→∃k',k'≤out.length∧loopN
  (fun(s1:Int)=>
  (
   if cmp .gtr s1 0=true then
    (C3 out (ar .sub .i64 s1 1)).bind fun x3=>
    (Y1 N N m x3).bind fun r4=>
    if cmp .lss r4 0=true then
     some (.inl (ar .sub .i64 s1 1))
    else
     some (.inr s1)
   else
    some (.inr s1)
   :Option ((Int)⊕(Int))))
    M (k:Int)=some (k':Int)∧(∀x∈out.drop k',dO m x<0)∧(∀x∈out.take k',dO x m<0):=by
  intro k
  induction k with
  |zero=>
   intro M _ hM hd;obtain⟨M,rfl⟩:∃m,M=m+1:=⟨M-1,by omega⟩;refine⟨0,by omega,?_,hd,by simp⟩;unfold loopN;rw[A0 (T9 (by omega))]
  | succ k ih=>
   intro M hk hM hd;obtain⟨M,rfl⟩:∃m,M=m+1:=⟨M-1,by omega⟩
   have hlt:k<out.length:=by omega
   have hmem:out[k]∈out:=G3 hlt
   have e1:ar .sub .i64 ((k+1:Nat):Int) 1=(k:Int):=by rw[Kh (by omega) (by omega)];omega
   by_cases hc:dO m out[k]<0
   ·obtain⟨k',h1,h2,h3⟩:=ih M (by omega) (by omega) (fun x hx=>by
     rw[R7 hlt]at hx
     grind)
    refine⟨k',h1,?_,h3⟩;unfold loopN;rw[A2 (Y4 (by omega)),e1,F6,E0 hlt];simp only[A4];rw[hcmp];simp only[A4];rw[A2 (Z6 hc)];exact h2
   have hgt:dO out[k] m<0:=by
    have:=hn _ hmem;rw[AH9 m];omega
   refine⟨k+1,hk,?_,hd,fun x hx=>?_⟩
   ·unfold loopN;rw[A2 (Y4 (by omega)),e1,F6,E0 hlt];simp only[A4];rw[hcmp];simp only[A4];rw[A0 (N4 hc)]
   rw[Bk hlt]at hx
   rcases List.mem_append.1 hx with hx|hx
   ·obtain⟨j,hj,e⟩:=N6 hx
    rw[Bf]at hj
    have hjk:j<k:=by omega
    rw[List.getElem_take]at e
    have:=List.pairwise_iff_getElem.1 ha j k (by omega) hlt hjk
    rw[e]at this
    exact Rr this hgt
   simp_all
 obtain⟨k',h1,h2,h3,h4⟩:=key out.length N (B3 _) (by omega) (by simp);refine⟨k',h1,?_,?_⟩
 ·unfold Dn;rw[B4,h2];simp only[A4];rw[Aa1 h1,Af7 h1]
  grind[Q2]
 unfold ZM at ha ⊢
 rw[LD,LD];refine⟨⟨ha.sublist (List.take_sublist _ _),by simp,fun a h b hb=>?_⟩,ha.sublist (List.drop_sublist _ _),fun a h b hb=>?_⟩
 ·rw[List.mem_singleton.1 hb];exact h4 a h
 rcases List.mem_append.1 h with h|h
 ·exact Rr (h4 a h) (h3 b hb)
 simp_all
theorem Av8 {N:Nat} (hN:40000000≤N) {p:A1} {l:List A8} {L:List TD} (hL:L.length≤4096) (hn:(L.map (·.2)).Nodup) (hz:∀t∈L,GK t.2≤4096) (h:M3 N N p l [] 0=some (L.map Gu)):
 ∃r,Cp N p l=some r∧ZM r∧r.Perm (L.map (·.2)):=by
 unfold Cp;rw[h];simp only[A4]
 have hstep:∀i,i<L.length→∀acc:List A3,(ZM acc∧acc.Perm ((L.take i).map (·.2)))→∃acc',(fun(s2:(List A3)×Int)=>
  (
   if cmp .lss s2.2 (Ar.len (L.map Gu))=true then
    (C3 (L.map Gu) s2.2).bind fun x4=>
    (Dn N s2.1 x4.d).bind fun r5=>
    some (.inl (r5,ar .add .i64 s2.2 1))
   else
    some (.inr s2.1)
   :Option (((List A3)×Int)⊕(((List A3)))))) (acc,(i:Int))=some (.inl (acc',((i+1:Nat):Int)))∧(ZM acc'∧acc'.Perm ((L.take (i+1)).map (·.2))):=by
  intro i hi acc ⟨ha,hp⟩
  have hx:((L.map Gu)[i]?)=some (Gu L[i]):=by rw[R6,E0 hi];rfl
  have hlen:acc.length≤4096:=by
   have:=hp.length_eq
   rw[D6,Bf]at this
   omega
  obtain⟨k,k1,k2,k3⟩:=Bf0 hN (m:=L[i].2) (hz _ (G3 hi)) (out:=acc) (by omega) ha (fun x hx' e=>by
   have e2:=An6 _ _ e;obtain⟨t,ht,e3⟩:=List.mem_map.1 (hp.mem_iff.1 hx');obtain⟨j,hj,e4⟩:=List.mem_iff_getElem.1 ht
   rw[Bf]at hj
   rw[List.getElem_take]at e4
   unfold Nodup at hn
   have:=List.pairwise_iff_getElem.1 hn j i (by rw[D6];omega) (by rw[D6];omega) (by omega)
   rw[Ev,Ev,e4]at this
   simp_all)
  refine⟨_,?_,k3,?_⟩
  ·dsimp only
   rw[A2 (X7 (by rw[D6];omega)),F6,hx];simp only[A4];have e1:(Gu L[i]).d=L[i].2:=rfl;rw[e1,k2];simp only[A4];rw[D3 (by omega) (by omega)];rfl
  rw[Bk hi,O3];refine List.Perm.trans ?_ (hp.append_right _);rw[E6];refine(List.perm_append_comm.append_left _).trans ?_;rw[←E6,DV]
  grind
 obtain⟨acc,⟨ha,hp⟩,e⟩:=Al5 (N:=N) (m:=L.length) (rep:=fun i (acc:List A3)=>(acc,(i:Int))) (I:=fun i acc=>ZM acc∧acc.Perm ((L.take i).map (·.2))) (res:=fun acc=>acc) (t0:=[]) (step:=(fun(s2:(List A3)×Int)=>
  (
   if cmp .lss s2.2 (Ar.len (L.map Gu))=true then
    (C3 (L.map Gu) s2.2).bind fun x4=>
    (Dn N s2.1 x4.d).bind fun r5=>
    some (.inl (r5,ar .add .i64 s2.2 1))
   else
    some (.inr s2.1)
   :Option (((List A3)×Int)⊕(((List A3))))))) hstep (fun acc _=>by
  dsimp only
  rw[A0 (N4 (by rw[B4,D6];omega))]) (by omega) ⟨List.Pairwise.nil,by simp⟩
 rw[X0]at hp
 simp_all
theorem Vy {R:Type} {step:List A3→A7→Option (List A3⊕R)} (hs:∀s y,s.length≤100000→step s y=some (.inl (s++[y.d]))):∀(L:List TD) (s:List A3),s.length+L.length≤100000→K7 step (L.map JG) s=some (.inl (s++L.map (·.2)))
 |[],s,_=>by simp[K7]
 |t::L,s,h=>by
  rw[H7]at h
  rw[D5,K7,hs s _ (by omega)]
  dsimp only
  rw[Vy hs L (s++[(JG t).d]) (by rw[J2,CM];omega)];rw[D5,E6];rfl
theorem AY1 {N:Nat} (hN:40000000≤N) {r:List A3} (hl:r.length≤1000000) (hb:∀x∈r,GK x≤4096):HI N r r=some true:=by
 unfold HI;rw[A0 (K8 rfl)]
 exact Fx (m:=r.length) (fun i (_:Unit)=>(i:Int)) (fun _ _=>True) (fun _=>Sum.inl ()) (t0:=()) rfl (by omega) trivial (fun i hi t _=>⟨(),by
  have hm:=G3 hi;have h1:=hb _ hm;have h2:=Zj r[i];rw[A2 (X7 (by omega)),F6,E0 hi];simp only[A4];rw[SM hN N _ _ (by omega) (by omega),An7];simp only[A4]
  rw[A0 (K8 rfl),D3 (by omega) (by omega)];rfl,trivial⟩) (fun t _=>by rw[A0 FD]) (fun t _=>rfl)
theorem AJ6 {N:Nat} (hN:40000000≤N) {p:A1} (hb:p.bulk≤16777216) {l:List A8} (hl:l.length≤10) (hs1:(W5 p+1) ^ l.length≤1500∨(Bo p∧l.length ^ W5 p≤1500)) (hs2:L1 p∨(L2 p∧(2*W5 p+1) ^ l.length≤4000)):
 ∃r,Di N p l=some r∧MT N p l=some r∧r.1.length≤4096∧∀x∈r.1,GK x≤4096:=by
 unfold Di MT;rw[As4 hN hb,Ar9 hN hb];simp only[A4]
 by_cases hc:Ag4 N p=0
 case neg=>exact⟨_,by rw[A2 (K9 hc)],by rw[A2 (K9 hc)],by simp,by simp⟩
 rw[A0 (K8 hc),A0 (K8 hc),Ai9 hN,AM9 hN];simp only[A4]
 by_cases hcs:Cy l=0
 case neg=>exact⟨_,by rw[A2 (K9 hcs)],by rw[A2 (K9 hcs)],by simp,by simp⟩
 rw[A0 (K8 hcs),A0 (K8 hcs)];obtain⟨hw,hpp⟩:=Ap5 hN hb hc;have hs:GQ l.length p:=⟨AX9 hpp hs1,hs2⟩;have ho:=out0 l;obtain⟨L,h1,h2⟩:=AF6 hN hl hcs (mu l p 0) p [] 0 (B3 _) hpp hw hs ho;have hmu:=AE2 (p:=p) hpp hl;have hfew:=h1.few hl hcs hw hpp hs ho;have hz:∀t∈L,GK t.2≤4096:=fun t ht=>(h1.tree hl hpp ho t ht).1;have e1:E9 N N ⟨l,0⟩ p [] 0=some (L.map JG):=h2.prg N (by omega);have e2:M3 N N p l [] 0=some (L.map Gu):=h2.ref N (by omega);obtain⟨r,r1,r2,r3⟩:=Av8 hN hfew h1.nd hz e2
 have hrz:∀x∈r,GK x≤4096:=by
  grind
 have hrl:r.length≤4096:=by have:=r3.length_eq;rw[D6]at this;omega
 refine⟨(r,0),?_,by rw[r1];rfl,hrl,hrz⟩;rw[e1];simp only[A4]
 rw[Vy (fun s y hsl=>by
  rw[S3 (by simp;omega)];simp only[A4]
  have e3:KX (RF (s++[(⟨⟨0,0,0⟩,0,[]⟩:A3)]) (Ar.len s))=some ():=by
   unfold KX RF;rw[A2];rw[B4]
   grind
  rw[e3];simp only[A4];rw[B4,AL4 (by simp)]
  simp) L [] (by simp;omega)]
 simp only[A4,K2];rw[A0 (T9 (by omega))];refine Fx (m:=(L.map (·.2)).length) (fun i (_:Unit)=>(i:Int)) (fun _ _=>True) (fun _=>Sum.inl ()) (t0:=()) rfl (by rw[D6];omega) trivial (fun i hi t _=>⟨(),?_,trivial⟩) (fun t _=>by rw[A0 FD]) (fun t _=>?_)
 ·have hi2:i<L.length:=by rwa[D6]at hi
  have hsz:=hz _ (G3 hi2);have hdp:=Zj L[i].2
  have e3:KX (RF (L.map (·.2)) (i:Int))=some ():=by
   simp_all[KX,RF]
  rw[A2 (X7 (by omega)),e3,F6,R6,E0 hi2];simp only[A4,I6];rw[Zh hN N _ (by omega) (by omega)];simp only[A4];rw[A0 (T9 (by omega)),D3 (by omega) (by omega)];rfl
 rw[AX8 hN r3 r2 hrz (by rw[D6];omega)];rfl
theorem At9 {N:Nat} (hN:40000000≤N) (haw:Df N=some true) {p:A1} (hb:p.bulk≤16777216) {l:List A8} (hlb:l.length≤16777216):Ck N p l=some true:=by
 unfold Ck;have hpb:=Fy p;obtain⟨b,h1,h2⟩:=AL9 hN hb (by omega) hlb;rw[h1,haw];simp only[A4]
 cases b with
 |false=>rw[A2 (show nt false=true from rfl)]
 | true=>
  rw[A0 (show¬nt true=true by decide)];obtain⟨h3,h4,h5⟩:=h2 rfl;obtain⟨b2,h6,h7⟩:=few4 hN l;rw[h6];simp only[A4]
  cases b2 with
  |false=>rw[A2 (show nt false=true from rfl)]
  |true=>
   rw[A0 (show¬nt true=true by decide)];obtain⟨r,e1,e2,e3,e4⟩:=AJ6 hN hb h3 h4 h5;rw[e1,e2];simp only[A4];rw[A2 trivial,AY1 hN (by omega) e4];simp only[A4];rw[L3,L6 rfl];rfl
end
end Go.Ab
