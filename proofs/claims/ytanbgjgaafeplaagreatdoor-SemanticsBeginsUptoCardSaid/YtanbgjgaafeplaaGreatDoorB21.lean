/- GTH1 GTH3 GTIn GTIn9 GTPr -/
import Derived.Test.YtanbgjgaafeplaaGreatDoorB20
import Derived.Test.YtanbgjgaafeplaaGreatDoorRows
import Derived.WalkKit
import Derived.ProofKit
import Derived.OpenShut
import Derived.Deep.DeepHandedRow
import Derived.Carry
import Derived.Test.YtanbgjgaafeplaaGreatDoorTie
set_option linter.all false
open Go.Ab.Ar (an ar cmp lst lst_eq nt)
namespace Go.Ab
open Classical
noncomputable section
theorem Pc (a b:Af):an (cmp .eql a.Time b.Time) (an (cmp .eql a.Source b.Source) (an (cmp .eql a.Seq b.Seq) true))=decide (a=b):=by
 obtain⟨a1,a2,a3⟩:=a;obtain⟨b1,b2,b3⟩:=b;simp only[M8,C1,Bool.and_true];rw[Bool.eq_iff_iff];simp
theorem hasV {N:Nat} (hN:40000000≤N) {s:List A4} (hl:s.length≤1000000) {f:A4→Option Bool} {P:A4→Bool} (hf:∀x∈s,f x=some (P x)):F2 N s f=some (s.any P):=by
 unfold F2 M3
 exact HT P (by omega) (by omega) (fun i x hx hi=>by
  have e:ar .add .i64 (i:Int) 1=i+1:=C4 (by omega) (by omega);rw[if_pos (T8 hi),D7,hx];simp only[Option.bind_some,hf x (List.mem_of_getElem? hx),e]
  split<;>rfl) (by rw[if_neg X4]) rfl fun _=>rfl
theorem idxM {N:Nat} (hN:40000000≤N) {s:List B6} (hl:s.length≤1000000) {f:B6→Option Bool} {P:B6→Bool} (hf:∀x∈s,f x=some (P x)):
 ∃t,E7 N s f=some t∧((t= -1∧∀x∈s,P x=false)∨∃i:Nat,∃h:i<s.length,t=i∧P s[i]=true∧∀m (hm:m<i),P (s[m]'(by omega))=false):=by
 unfold E7;refine Td (fun(j:Nat) (i:Int)=>i=(j:Int)∧∀m (hm:m<s.length),m<j→P s[m]=false) s.length (by omega) ⟨rfl,fun m _ h=>absurd h (by omega)⟩ (fun j i hj ⟨e,hp⟩=>?_) (fun i ⟨e,hp⟩=>?_)
 ·subst e;rw[if_pos (T8 (by omega)),D7,List.getElem?_eq_getElem hj];simp only[Option.bind_some,hf _ (List.getElem_mem hj)]
  by_cases h:P s[j]=true
  ·rw[if_pos h];exact⟨_,rfl,_,rfl,.inr ⟨j,hj,rfl,h,fun m hm=>hp m (by omega) hm⟩⟩
  rw[if_neg h];refine⟨_,rfl,EK (by omega),fun m hm hmj=>?_⟩
  rcases Nat.lt_or_ge m j with k|k
  ·exact hp m hm k
  have:m=j:=by omega
  subst this
  rwa[Bool.not_eq_true]at h
 subst e;rw[if_neg X4];refine⟨_,rfl,_,rfl,.inl ⟨rfl,fun x hx=>?_⟩⟩;obtain⟨m,hm,e⟩:=List.getElem_of_mem hx;rw[←e];exact hp m hm hm
theorem Ak7 {N:Nat} (hN:40000000≤N) {s:List B6} (hl:s.length≤1000000) {f:B6→Option Bool} {P:B6→Bool} (hf:∀x∈s,f x=some (P x)):H9 N s f=some (s.filter fun x=> !P x):=by
 unfold H9;obtain⟨t,h1,h2⟩:=idxM hN hl hf;rw[h1];simp only[Option.bind_some]
 rcases h2 with⟨rfl,h3⟩|⟨i0,hi0,rfl,h3,h4⟩
 ·rw[if_pos (by rw[C1];rfl),List.filter_eq_self.2 fun x hx=>by rw[h3 x hx];rfl]
 rw[if_neg (by rw[C1,decide_eq_true_eq];omega),EK (by omega)]
 have h0:(s.take (i0+1)).filter (fun x=> !P x)=s.take i0:=by
  rw[JI hi0,List.filter_append,List.filter_cons_of_neg (by simp[h3]),List.filter_nil,List.append_nil];refine List.filter_eq_self.2 fun x hx=>?_;obtain⟨m,hm,e⟩:=List.mem_take_iff_getElem.1 hx;rw[←e,h4 m (by omega)];rfl
 have key:∃t,(loopN
  (fun(s2:Int×Int×(List B6))=>
   (
    if cmp .lss s2.2.1 (Ar.len s2.2.2)=true then
     (Uj (inR s2.2.2 s2.2.1)).bind fun _=>
     (B9 s2.2.2 s2.2.1).bind fun x5=>
     (f x5).bind fun r6=>
     if nt r6=true then
      (Uj (inR s2.2.2 s2.1)).bind fun _=>
      (HG s2.2.2 s2.1 (fun x7:B6=>x5)).bind fun l8=>
      some (.inl (ar .add .i64 s2.1 1,ar .add .i64 s2.2.1 1,l8))
     else
      some (.inl (s2.1,ar .add .i64 s2.2.1 1,s2.2.2))
    else
     some (.inr (s2.1,s2.2.2))
    :Option ((Int×Int×(List B6)) ⊕ ((Int×(List B6))))))
  N ((i0:Int),((i0+1:Nat):Int),s)).bind (fun s4=>
 (Y2 s4.2 (some s4.1) none none).bind fun l11=>
 (Y2 s4.2 none (some s4.1) none).bind fun l13=>
 some l13)=some t∧t=s.filter fun x=> !P x:=by
  refine Td (fun(k:Nat) (st:Int×Int×List B6)=>st.2.1=((i0+1+k:Nat):Int)∧∃i:Nat,st.1=(i:Int)∧i<i0+1+k∧st.2.2.length=s.length∧st.2.2.take i=(s.take (i0+1+k)).filter (fun x=> !P x)∧st.2.2.drop (i0+1+k)=s.drop (i0+1+k)) (s.length - (i0+1)) (by omega)
   ⟨rfl,i0,rfl,by omega,rfl,h0.symm,rfl⟩ (fun k st hk ⟨e,i,e1,e2,e3,e4,e5⟩=>?_) (fun st ⟨e,i,e1,e2,e3,e4,e5⟩=>?_)
  ·obtain⟨a,b,L⟩:=st
   dsimp only at e e1 e3 e4 e5
   subst e;subst e1
   have hj:i0+1+k<s.length:=by omega
   have hjL:i0+1+k<L.length:=by omega
   have hg:L[i0+1+k]=s[i0+1+k]:=by
    have:=congrArg (fun l=>l[0]?) e5
    simp only[List.getElem?_drop,Nat.add_zero,List.getElem?_eq_getElem hj,List.getElem?_eq_getElem hjL,Option.some.injEq]at this
    exact this
   dsimp only
   rw[if_pos (T8 (by omega)),XH (by omega) (by omega),D7,List.getElem?_eq_getElem hjL,hg];simp only[Option.bind_some];rw[hf _ (List.getElem_mem hj)];simp only[Option.bind_some];have ht:s.take (i0+1+(k+1))=s.take (i0+1+k)++[s[i0+1+k]]:=JI hj
   have hd:L.drop (i0+1+(k+1))=s.drop (i0+1+(k+1)):=by
    have:=congrArg (List.drop 1) e5
    rw[List.drop_drop,List.drop_drop]at this
    exact this
   cases hP:P s[i0+1+k]with
   |true=>
    rw[if_neg (by decide)];refine⟨_,rfl,EK (by omega),i,rfl,by omega,e3,?_,hd⟩;rw[ht,List.filter_append,List.filter_cons_of_neg (by simp[hP]),List.filter_nil,List.append_nil];exact e4
   | false=>
    rw[if_pos (show nt false=true from rfl),XH (by omega) (by omega)];simp only[Option.bind_some];unfold HG;rw[D7,List.getElem?_eq_getElem (show i<L.length by omega)];refine⟨_,rfl,EK (by omega),i+1,EK (by omega),by omega,by simpa using e3,?_,?_⟩
    ·dsimp only
     rw[Int.toNat_natCast,ht,List.filter_append,List.filter_cons_of_pos (by simp[hP]),List.filter_nil,←e4,JI (show i<(L.set i s[i0+1+k]).length by rw[List.length_set];omega)];rw[List.getElem_set_self]
     congr 1
     rw[List.take_set_of_le (Nat.le_refl _)]
    dsimp only
    rw[Int.toNat_natCast,List.drop_set_of_lt (by omega)];exact hd
  obtain⟨a,b,L⟩:=st
  dsimp only at e e1 e3 e4 e5
  subst e;subst e1
  have hn:i0+1+(s.length - (i0+1))=s.length:=by omega
  rw[hn]at e4 e2 ⊢
  dsimp only
  rw[if_neg (Bz (by rw[B3];omega))];refine⟨_,rfl,_,?_,rfl⟩
  dsimp only
  rw[TB (by omega),Lu (by omega),e4,List.take_length];rfl
 obtain⟨t,k1,k2⟩:=key;rw[k1,k2]
def Hc (e:Af)(m:B6):Bool:=match m.cR.getLast? with|some b=>decide (b.Ref=e)|none=>false
theorem end2 {N:Nat} {m:B6} (h:m.cR≠[]) (hl:m.cR.length≤1000000) (e:Af):P9 N m e=some (!Hc e m):=by
 unfold P9 Hc;rw[Mz h hl]
 cases hb:m.cR.getLast? with
 |none=>exact absurd (List.getLast?_eq_none_iff.1 hb) h
 |some b=>
  simp only[Option.bind_some];rw[Pc b.Ref e];rfl
theorem WA {N:Nat} (hN:40000000≤N) {p:A1} {l:List A4} (hl:l.length≤10) {r:List B6} (hm:I7 N p l=some (r,0)) (hr:r.length≤1500) (hb:∀x∈r,x.cR.length≤10∧x.cR≠[]) (e:Af):
 Q0 N p l e=some (if(l.any fun x=>decide ((⟨x.Time,x.Source,x.Seq⟩:Af)=e))=true then(r.filter (Hc e),0)else([],6)):=by
 unfold Q0;rw[show X9 N p l=some (r,0)from hm];simp only[Option.bind_some]
 rw[if_neg (P7 rfl),hasV hN (by omega) (P:=fun x=>decide ((⟨x.Time,x.Source,x.Seq⟩:Af)=e)) (fun x _=>by
  unfold V1 Av;simp only[Option.bind_some]
  rw[Pc ⟨x.Time,x.Source,x.Seq⟩ e])]
 simp only[Option.bind_some]
 by_cases h:(l.any fun x=>decide ((⟨x.Time,x.Source,x.Seq⟩:Af)=e))=true
 ·rw[if_pos h,h,if_neg (by decide),Ak7 hN (by omega) (P:=fun m=> !Hc e m) fun x hx=>end2 (hb x hx).2 (by have:=(hb x hx).1;omega) e];simp only[Option.bind_some,Bool.not_not]
 rw[if_neg h]
 rw[Bool.not_eq_true]at h
 rw[h,if_pos (show nt false=true from rfl)]
end
end Go.Ab
namespace Go.Ab
open Classical
noncomputable section
theorem Ou {α:Type} (P Q:α→Bool):∀l:List α,(∀x∈l,¬(P x=true∧Q x=true))→l.countP (fun x=>P x||Q x)=l.countP P+l.countP Q
 |[],_=>rfl
 |x::l,h=>by
  have ih:=Ou P Q l fun y hy=>h y (by simp[hy]);have hx:=h x (by simp);simp only[List.countP_cons,ih]
  cases hp:P x<;>cases hq:Q x<;>simp[hp,hq]at hx ⊢ <;>omega
theorem MN {l:List A4}(hl:l.length≤10)(hc:Hf l=0){s:List PR}(hs:RZ l s)(hn:s≠[]){i:Nat}(hi:i<l.length):Hc (V9 l i) (S5 l s)=true↔W0 s=i:=by
 obtain⟨x,h1,h2,h3⟩:=Y7 hn;obtain⟨j,hj,ej⟩:=hs x h2
 have hg:(S5 l s).cR.getLast? =some ⟨x.Var,V9 l x.At⟩:=by unfold S5;rw[List.getLast?_map,h1];rfl
 unfold Hc;rw[hg,h3]
 dsimp only
 rw[decide_eq_true_eq];exact⟨fun h=>Pb hl hc (by omega) (by omega) h,fun h=>by rw[h]⟩
theorem TL {N:Nat} (hN:40000000≤N) (awake:BV N=some true) {p:A1} (hb:p.bulk≤1048576) {l:List A4} (hl:l.length≤1048576) {w:Int} (hw0:0≤w) (hw:w<1000):V7 N p l w=some true:=by
 unfold V7;obtain⟨b,h1,h2⟩:=Ac5 hN (p:=p) (by omega) (l:=l) (by omega);rw[h1];simp only[Option.bind_some]
 cases b with
 |false=>rw[if_pos (show nt false=true from rfl),awake];rfl
 |true=>
 rw[if_neg (show¬nt true=true by decide)];have g:=h2 rfl;have hlen:=g.len
 have e1:ar .add .i64 (Ar.len l) 1=((l.length+1:Nat):Int):=by rw[B3,C4 (by omega) (by omega)];rfl
 obtain⟨k,hk,ek⟩:∃k:Nat,k<l.length+1∧ar .rem .i64 (Ar.wr .i64 w) ((l.length+1:Nat):Int)=(k:Int):=by
  refine⟨w.toNat % (l.length+1),Nat.mod_lt _ (by omega),?_⟩;rw[Xf hw0 hw];obtain⟨w,rfl⟩:=Int.eq_ofNat_of_zero_le hw0
  show(w:Int).tmod ((l.length+1:Nat):Int)=_
  rw[Int.toNat_natCast];exact(Int.ofNat_tmod w (l.length+1)).symm
 rw[e1]
 have hq:Uj (cmp .neq ((l.length+1:Nat):Int) 0)=some ():=by
  unfold Uj;rw[if_pos];rw[G9,decide_eq_false (by omega)];rfl
 rw[hq,ek];obtain⟨r,r1,r2,r3,r4⟩:=Kv hN (show p.bulk≤16777216 by omega) g;have E:Sd (l.take k) l id id:=YU
 have hl':(l.take k).length=k:=by rw[List.length_take];omega
 obtain⟨r',q1,q2,q3,q4⟩:=Kv hN (show p.bulk≤16777216 by omega) (g.part E (by omega));rw[r1,Lu (show k≤l.length by omega)];simp only[Option.bind_some];rw[q1];simp only[Option.bind_some];rw[if_neg (show¬Ar.or (nt true) (nt true)=true by decide)];obtain⟨hwf,_⟩:=NH hN (show p.bulk≤16777216 by omega) g.p0;have hasc:∀s,Sm l p [] 0 s→Vd s:=fun s h=>(h.res hwf (XP l)).gd.asc
 have hQ:∀s,Sm l p [] 0 s→(((l.take k).any fun x=>decide ((⟨x.Time,x.Source,x.Seq⟩:Af)=V9 l (W0 s)))=true↔W0 s<k):=fun s hs=>by
  obtain⟨x,_,hx,e⟩:=Y7 hs.inl.1;obtain⟨j,hj,ej⟩:=hs.inl.2 x hx;rw[List.any_eq_true,e,ej]
  constructor
  ·rintro⟨y,hy,h⟩;obtain⟨m,hm,em⟩:=List.mem_take_iff_getElem.1 hy
   have hmr:(⟨y.Time,y.Source,y.Seq⟩:Af)=V9 l m:=by rw[←em];simp[V9,show m<l.length by omega]
   rw[hmr]at h
   have:=Pb hlen g.s0 (i:=m) (j:=j) (by omega) (by omega) (of_decide_eq_true h);omega
  intro h;refine⟨l[j],List.mem_take_iff_getElem.2 ⟨j,by omega,rfl⟩,decide_eq_true ?_⟩;simp[V9,hj]
 rw [Wf (L:=r) (fun m=>match m.cR.getLast? with|some b=>(l.take k).any fun x=>decide ((⟨x.Time,x.Source,x.Seq⟩:Af)=b.Ref)|none=>false) (by omega) (by omega) (fun s i x hx hm hi e hsl=>by
  have hbx:=r3 x hm
  dsimp only
  rw[if_pos (T8 hi),D7,hx];simp only[Option.bind_some];rw[Mz hbx.2 (by omega)]
  cases hg:x.cR.getLast? with
  |none=>exact absurd (List.getLast?_eq_none_iff.1 hg) hbx.2
  | some b=>
   simp only[Option.bind_some]
   rw[hasV hN (by omega) (P:=fun x=>decide ((⟨x.Time,x.Source,x.Seq⟩:Af)=b.Ref)) (fun y _=>by
    unfold N2 Aq;simp only[Option.bind_some]
    rw[Pc ⟨y.Time,y.Source,y.Seq⟩ b.Ref])]
   simp only[Option.bind_some,e]
   by_cases hc:((l.take k).any fun x=>decide ((⟨x.Time,x.Source,x.Seq⟩:Af)=b.Ref))=true
   ·rw[if_pos hc,if_pos hc,Ad (by simp;omega)];rfl
   rw[if_neg hc,if_neg hc]) (fun s=>by dsimp only;rw[if_neg X4])]
 simp only[Option.bind_some]
 have hlastq:∀s,Sm l p [] 0 s→(match(S5 l s).cR.getLast? with|some b=>(l.take k).any fun x=>decide ((⟨x.Time,x.Source,x.Seq⟩:Af)=b.Ref)|none=>false)=decide (W0 s<k):=fun s hs=>by
  obtain⟨x,h1,hx,e⟩:=Y7 hs.inl.1
  have hg:(S5 l s).cR.getLast? =some ⟨x.Var,V9 l x.At⟩:=by unfold S5;rw[List.getLast?_map,h1];rfl
  rw[hg]
  dsimp only
  rw[←e,Bool.eq_iff_iff,hQ s hs,decide_eq_true_eq]
 have hmm:I7 N p l=some (r,0):=by
  obtain⟨q,z1,z2,_,_⟩:=Yf hN (show p.bulk≤16777216 by omega) hlen g.sml g.p0 g.s0;rw[z1,z2.uniq r2]
 have hEnd:∀(i:Nat) (hi:i<l.length),Q0 N p l ⟨l[i].Time,l[i].Source,l[i].Seq⟩=some (r.filter (Hc (V9 l i)),0):=fun i hi=>by
  have hr:(⟨l[i].Time,l[i].Source,l[i].Seq⟩:Af)=V9 l i:=by simp[V9,hi]
  rw[hr,WA hN hlen hmm r4 r3,if_pos];rw[List.any_eq_true];exact⟨l[i],List.getElem_mem hi,decide_eq_true hr⟩
 have hkey:∃t,(loopN
  (fun (s18:Int×Int)=>
   (
    if cmp .lss s18.2 (Ar.len l)=true then
     (B9 l s18.2).bind fun x20=>
     (Aq N x20).bind fun r21=>
     (Q0 N p l r21).bind fun r22=>
     if cmp .neq r22.2 0=true then
      some (.inr (.inr ()))
     else
      (E4 N r22.1 (fun y1=>I1 N y1 r)).bind fun r23=>
      if r23=true then
       some (.inr (.inr ()))
      else
       some (.inl (ar .add .i64 s18.1 (Ar.len r22.1),ar .add .i64 s18.2 1))
    else
     some (.inr (.inl s18.1))
    :Option ((Int×Int) ⊕ (Int ⊕ Unit))))
  N (0,0)).bind (fun s=>some s)=some t∧t= .inl ((r.countP fun m=>decide (∃j:Nat,j<l.length∧Hc (V9 l j) m=true):Nat):Int):=by
  refine Td (fun(j:Nat) (s:Int×Int)=>s.2=(j:Int)∧s.1=((r.countP fun m=>decide (∃i:Nat,i<j∧Hc (V9 l i) m=true):Nat):Int)) l.length (by omega) ⟨rfl,?_⟩ (fun j s hj ⟨a1,a2⟩=>?_) (fun s ⟨a1,a2⟩=>?_)
  ·have:(r.countP fun m=>decide (∃i:Nat,i<0∧Hc (V9 l i) m=true))=0:=by
    rw[List.countP_eq_zero];intro m _ h;obtain⟨i,hi,_⟩:=of_decide_eq_true h;omega
   rw[this];rfl
  ·obtain⟨c,i⟩:=s
   dsimp only at a1 a2
   subst a1
   dsimp only
   rw[if_pos (T8 (by omega)),D7,List.getElem?_eq_getElem hj];simp only[Option.bind_some,Aq];rw[hEnd j hj];simp only[Option.bind_some];have hfl:(r.filter (Hc (V9 l j))).length≤r.length:=List.length_filter_le _ _
   rw[if_neg (P7 rfl),hasM hN (by omega) (f:=fun y1=>I1 N y1 r) (P:=fun x=> !decide (x∈r)) (fun x hx=>by
    have hxr:=(List.mem_filter.1 hx).1;unfold I1;rw[Zk hN (by omega) (fun y hy=>by have:=(r3 y hy).1;omega) (by have:=(r3 x hxr).1;omega)]
    rfl)]
   simp only[Option.bind_some]
   have hno:((r.filter (Hc (V9 l j))).any fun x=> !decide (x∈r))=false:=by
    rw[List.any_eq_false];intro x hx;simp[(List.mem_filter.1 hx).1]
   rw[hno,if_neg (by decide)];have hcl:(r.countP fun m=>decide (∃i:Nat,i<j∧Hc (V9 l i) m=true))≤r.length:=List.countP_le_length;refine⟨_,rfl,EK (by omega),?_⟩
   dsimp only
   rw[a2,B3,C4 (by omega) (by omega),←List.countP_eq_length_filter]
   have hor:(r.countP fun m=>decide (∃i:Nat,i<j+1∧Hc (V9 l i) m=true))=r.countP fun m=>decide (∃i:Nat,i<j∧Hc (V9 l i) m=true)||Hc (V9 l j) m:=by
    refine List.countP_congr fun m _=>?_;rw[Bool.or_eq_true,decide_eq_true_eq,decide_eq_true_eq]
    constructor
    ·rintro⟨i,hi,h⟩
     rcases Nat.lt_or_ge i j with h'|h'
     ·exact .inl ⟨i,h',h⟩
     have:i=j:=by omega
     subst this;exact .inr h
    rintro(⟨i,hi,h⟩|h)
    ·exact⟨i,by omega,h⟩
    exact⟨j,by omega,h⟩
   rw[hor,Ou _ _ r fun m hm ⟨h1,h2⟩=>by
    obtain⟨i,hi,h1⟩:=of_decide_eq_true h1;obtain⟨s,hs,rfl⟩:=(r2.mem m).1 hm;have a:=(MN hlen g.s0 hs.inl.2 hs.inl.1 (show i<l.length by omega)).1 h1;have b:=(MN hlen g.s0 hs.inl.2 hs.inl.1 hj).1 h2
    omega]
   omega
  obtain⟨c,i⟩:=s
  dsimp only at a1 a2
  subst a1
  dsimp only
  rw[if_neg X4,a2];exact⟨_,rfl,_,rfl,rfl⟩
 obtain⟨t,k1,k2⟩:=hkey;subst k2
 have hbs:∀o:Option (Int ⊕ Unit),(o.bind fun s=>some s)=o:=fun o=>by cases o<;>rfl
 rw[hbs]at k1
 rw[k1];simp only[Option.bind_some]
 have hcount:(r.countP fun m=>decide (∃j:Nat,j<l.length∧Hc (V9 l j) m=true))=r.length:=by
  rw[List.countP_eq_length];intro m hm;obtain⟨s,hs,rfl⟩:=(r2.mem m).1 hm;obtain⟨x,_,hx,e⟩:=Y7 hs.inl.1;obtain⟨j,hj,ej⟩:=hs.inl.2 x hx;exact decide_eq_true ⟨j,hj,(MN hlen g.s0 hs.inl.2 hs.inl.1 hj).2 (by rw[e,ej])⟩
 have heq:r'=r.filter (fun m=>match m.cR.getLast? with|some b=>(l.take k).any fun x=>decide ((⟨x.Time,x.Source,x.Seq⟩:Af)=b.Ref)|none=>false):=by
  obtain⟨m1,m2⟩:=r2.part E q2
  have him:∀s,Sm l p [] 0 s→((∀x∈s,∃j:Nat,j<(l.take k).length∧id (j:Int)=x.At)↔W0 s<k):=fun s hs=>by
   constructor
   ·intro h;obtain⟨x,_,hx,e⟩:=Y7 hs.inl.1;obtain⟨j,hj,ej⟩:=h x hx;rw[e,←ej]
    show(j:Int)<k
    omega
   intro h x hx;obtain⟨j,hj,ej⟩:=hs.inl.2 x hx;have:=Jw (hasc s hs) x hx;exact⟨j,by omega,ej.symm⟩
  refine PI q2.asc (List.Pairwise.filter _ r2.asc) fun x=>?_;rw[List.mem_filter]
  constructor
  ·intro hx;obtain⟨s,hs,hi,rfl⟩:=m2 (fun y _ _ a c i ha hc h1 h2=>⟨i,by have:(i:Int)<(c:Int):=h2;omega,rfl⟩) x hx;exact⟨(r2.mem _).2 ⟨s,hs,rfl⟩,by rw[hlastq s hs];exact decide_eq_true ((him s hs).1 hi)⟩
  rintro⟨hx,h⟩;obtain⟨s,hs,rfl⟩:=(r2.mem x).1 hx
  rw[hlastq s hs]at h
  exact m1 s hs ((him s hs).2 (of_decide_eq_true h))
 rw[ZL hN heq (by omega) fun x hx=>by have:=(q3 x hx).1;omega];simp only[Option.bind_some];rw[hcount,if_pos (show an true (cmp .eql (r.length:Int) (Ar.len r))=true by simp[M8,C1,B3]),awake];rfl
end
end Go.Ab
namespace Go.Ab
open Go.RowKit Go.ChangeShapes Go.WideShapes Go.ChangeAt Go.Proofs Go.Proofs.YtanbgjgaafeplaaGreatDoor
set_option maxRecDepth 100000
mutual
def YT :A7→V
 |⟨op,args,var,field,kind,val⟩=>.agg [.int .i64 op,.sl (RA args) .ro,.int .i64 var,.int .i64 field,.int .i64 kind,.int .i64 val.Kind,.int .i64 val.Num,.str val.Text]
def RA :List A7→List V
 |[]=>[]
 |a::r=>YT a::RA r
end
theorem On :∀l:List A7,RA l=l.map YT
 |[]=>by simp[RA]
 |a::r=>by simp[RA,On r]
mutual
def Ad0 :A1→V
 |⟨op,args,typ,var,scope,span,c⟩=>.agg [.int .i64 op,.sl (Rz args) .ro,.int .i64 typ,.int .i64 var,.int .i64 scope,.int .i64 span,.int .i64 c.Op,.sl (c.cQ.map YT) .ro,.int .i64 c.Var,.int .i64 c.Field,.int .i64 c.Kind,.int .i64 c.Value.Kind,.int .i64 c.Value.Num,.str c.Value.Text]
def Rz :List A1→List V
 |[]=>[]
 |a::r=>Ad0 a::Rz r
end
theorem Ok :∀l:List A1,Rz l=l.map Ad0
 |[]=>by simp[Rz]
 |a::r=>by simp[Rz,Ok r]
noncomputable def Ol (x:A6):V:=.agg [.int .i64 x.Kind,.int .i64 x.Num,.str x.Text]
noncomputable def Om (x:A4):V:=.agg [.int .i64 x.Source,.int .i64 x.Seq,.int .i64 x.Typ,.int .i64 x.Time,.sl (lst Ol x.Values) .ro]
noncomputable def KE (x:D6):V:=.agg [.int .i64 x.Var,.int .i64 x.Ref.Time,.int .i64 x.Ref.Source,.int .i64 x.Ref.Seq]
noncomputable def WB (x:B6):V:=.agg [.sl (lst KE x.cR) .ro]
noncomputable def WC (x:PS):V:=.agg [.int .i64 x.cU,.int .i64 x.Span]
noncomputable def DA (x:A0):V:=.agg [.int .i64 x.cV,.int .i64 x.at_]
noncomputable def Co (x:M1):V:=.agg [.int .i64 x.Var,.int .i64 x.At]
noncomputable def Jp (x:J3):V:=.agg [.int .i64 x.cX,.int .i64 x.most,.bool x.cT,.bool x.cond,.bool x.scope,.bool x.span]
noncomputable def HK (x:C9):V:=.agg [.int .i64 x.source,.int .i64 x.seq]
noncomputable def TA (x:List A4):V:=.sl (lst Om x) .ro
noncomputable def Dm (x:List A0):V:=.sl (lst DA x) .ro
noncomputable def Gs (x:List (List A0)):V:=.sl (lst Dm x) .ro
noncomputable def FA (x:List M1):V:=.sl (lst Co x) .ro
noncomputable instance encsInst :J7 where
 eAs9:=Ol
 eAs7:=fun _=>rfl
 eAt1:=YT
 eAt2:=fun⟨_,_,_,_,_,_⟩=>by simp only[YT,On];rfl
 eAs6:=Ad0
 eAs4:=fun⟨_,_,_,_,_,_,_⟩=>by simp only[Ad0,Ok];rfl
 eAs3:=Om
 eAs8:=fun _=>rfl
 eAt0:=KE
 eAt6:=fun _=>rfl
 eAs2:=WB
 eAt3:=fun _=>rfl
 eAu5:=WC
 eAu8:=fun _=>rfl
 eAs1:=DA
 eAt4:=fun _=>rfl
 eAu2:=Co
 eAu9:=fun _=>rfl
 eAu3:=Jp
 eAu7:=fun _=>rfl
 eAt8:=HK
 eAu0:=fun _=>rfl
 eAt9:=TA
 eAu4:=fun _=>rfl
 eAt7:=Gs
 eAu1:=fun _=>rfl
 eAs5:=Dm
 eAt5:=fun _=>rfl
 eAu6:=FA
 eAv0:=fun _=>rfl
def Nq {α:Type}(f:α→Nat):List α→Nat
 |[]=>1
 |a::l=>f a+Nq f l
theorem Uz {α:Type}{f:α→Nat}(hf:∀a,1≤f a):∀l:List α,l.length+1≤Nq f l
 |[]=>by simp[Nq]
 |b::l=>by have:=hf b;have:=Uz hf l;simp only[Nq,List.length_cons];omega
section
variable [G7]{H:Type}{enc:TypeId×Value→H}{W:World}{base:Nat}{spare:Nat→Bool}{held:Bool}
abbrev bk (d:DataW H):Nat:=Rows.uptoBulk d
noncomputable def Pz (P:Program)(t:TypeId):Array Field:=match P.underlying t with|some (.struct fs)=>fs|_=> #[]
theorem I0 {P:Program} {t ty off sz:Nat} {xs:List (DataW H×List MemPlace)} {cs:List Value} {n:Nat} (hl:xs.length=(Pz P t).size)
 (hf:∀(i:Nat) (f:Field),(Pz P t)[i]? =some f→DataW.trod enc P W base spare held n f.type ((cs.drop f.offset).take (P.cellsOf f.type))=xs[i]?) (i:Nat)
 (h:((Pz P t)[i]?.map fun f=>(f.type,f.offset,P.cellsOf f.type))=some (ty,off,sz)):∃y,xs[i]? =some y∧DataW.trod enc P W base spare held n ty ((cs.drop off).take sz)=some y:=by
 cases hi:(Pz P t)[i]? with
 |none=>rw[hi]at h;cases h
 |some f=>
  rw[hi]at h
  simp only[Option.map_some,Option.some.injEq,Prod.mk.injEq]at h
  obtain⟨rfl,rfl,rfl⟩:=h;exact Tv hl hf i hi
theorem Opens.down {α:Type}{P:Program}{t:TypeId}{f:α→V}{R:α→DataW H→Prop}{n:Nat}(h:Opens enc P W base spare held t f R (n+1)):Opens enc P W base spare held t f R n:=fun cs x hx=>h cs x (DataW.trod_le (Nat.le_succ n) hx)
theorem Opens.imp {α:Type}{P:Program}{t:TypeId}{f:α→V}{R R':α→DataW H→Prop}{n:Nat}(h:Opens enc P W base spare held t f R n)(hi:∀a d,R a d→R' a d):Opens enc P W base spare held t f R' n:=fun cs x hx=>by
 obtain⟨a,r,q⟩:=h cs x hx;exact⟨a,r,hi _ _ q⟩
theorem Opens.congr {α:Type}{P:Program}{t:TypeId}{f g:α→V}{R:α→DataW H→Prop}{n:Nat}(h:Opens enc P W base spare held t f R n)(hg:∀x,f x=g x):Opens enc P W base spare held t g R n:=fun cs x hx=>by
 obtain⟨a,r,q⟩:=h cs x hx;exact⟨a,by rw[←hg];exact r,q⟩
theorem Af4 {α:Type} {f:α→Nat}:∀(l:List α) (ds:List (DataW H)),RL (fun a d=>f a≤bk d) l ds→Nq f l≤Rows.uptoBulkAll ds+1
 |[],ds,h=>by simp[Nq]
 |a::l,[],h=>by have:=h.1;simp at this
 |a::l,d::ds,h=>by
  have h1:f a≤bk d:=h.2 0 a d rfl rfl;have h2:=Af4 l ds ⟨by simpa using h.1,fun i a d hi hd=>h.2 (i+1) a d (by simpa using hi) (by simpa using hd)⟩;simp only[Nq,Rows.uptoBulkAll];have h3:bk d=Rows.uptoBulk d:=rfl;omega
theorem Ui {α:Type}{f:α→Nat}{l:List α}{d:DataW H}(h:RS (fun a d=>f a≤bk d) l d):Nq f l≤bk d:=by
 obtain⟨_,h⟩:=h
 rcases h with⟨rfl,rfl⟩|⟨es,sp,rfl,h⟩
 ·simp[bk,Rows.uptoBulk,Nq]
 have:=Af4 l es h;simp only[bk,Rows.uptoBulk];omega
theorem RM :∀l:List A7,A7.bulks l=Nq A7.bulk l
 |[]=>by simp[A7.bulks,Nq]
 |a::l=>by simp[A7.bulks,Nq,RM l]
theorem YY {l:List A7}{d:DataW H}(h:RS (fun a d=>A7.bulk a≤bk d) l d):A7.bulks l≤bk d:=by rw[RM];exact Ui h
theorem OA :∀l:List A1,A1.bulks l=Nq A1.bulk l
 |[]=>by simp[A1.bulks,Nq]
 |a::l=>by simp[A1.bulks,Nq,OA l]
theorem RN {l:List A1}{d:DataW H}(h:RS (fun a d=>A1.bulk a≤bk d) l d):A1.bulks l≤bk d:=by rw[OA];exact Ui h
theorem Ak4 {β:Type}{xs:List β}{a b c:β}(hl:xs.length=3)(h0:xs[0]? =some a)(h1:xs[1]? =some b)(h2:xs[2]? =some c):xs=[a,b,c]:=by
 match xs,hl with
 |[x0,x1,x2],_=>simp at h0 h1 h2;rw[h0,h1,h2]
theorem Ak3 {β:Type}{xs:List β}{a b c d e:β}(hl:xs.length=5)(h0:xs[0]? =some a)(h1:xs[1]? =some b)(h2:xs[2]? =some c)(h3:xs[3]? =some d)(h4:xs[4]? =some e):xs=[a,b,c,d,e]:=by
 match xs,hl with
 |[x0,x1,x2,x3,x4],_=>simp at h0 h1 h2 h3 h4;rw[h0,h1,h2,h3,h4]
theorem Ak2 {β:Type}{xs:List β}{a b c d e f:β}(hl:xs.length=6)(h0:xs[0]? =some a)(h1:xs[1]? =some b)(h2:xs[2]? =some c)(h3:xs[3]? =some d)(h4:xs[4]? =some e)(h5:xs[5]? =some f):xs=[a,b,c,d,e,f]:=by
 match xs,hl with
 |[x0,x1,x2,x3,x4,x5],_=>simp at h0 h1 h2 h3 h4 h5;rw[h0,h1,h2,h3,h4,h5]
theorem Ak1 {β:Type}{xs:List β}{a b c d e f g:β}(hl:xs.length=7)(h0:xs[0]? =some a)(h1:xs[1]? =some b)(h2:xs[2]? =some c)(h3:xs[3]? =some d)(h4:xs[4]? =some e)(h5:xs[5]? =some f)(h6:xs[6]? =some g):xs=[a,b,c,d,e,f,g]:=by
 match xs,hl with
 |[x0,x1,x2,x3,x4,x5,x6],_=>simp at h0 h1 h2 h3 h4 h5 h6;rw[h0,h1,h2,h3,h4,h5,h6]
theorem u27 :Tryz.prog.underlying 27=some (.struct (Pz Tryz.prog 27)):=by kernel_rfl
theorem u23 :Tryz.prog.underlying 23=some (.slice 27):=by kernel_rfl
theorem u3 :Tryz.prog.underlying 3=some (.int .i64):=by kernel_rfl
theorem BI (n:Nat):Opens enc Tryz.prog W base spare held 3 (V.int .i64) (fun a d=>(fun _:Int=>1) a≤bk d) n:=(JP u3).imp fun a d h=>by subst h;simp[bk,Rows.uptoBulk]
theorem u25 :Tryz.prog.underlying 25=some (.struct (Pz Tryz.prog 25)):=by kernel_rfl
theorem u9 :Tryz.prog.underlying 9=some .string:=by kernel_rfl
theorem Ai9 (n:Nat):Opens enc Tryz.prog W base spare held 9 V.str (fun a d=>(fun s:ByteArray=>s.size+1) a≤bk d) n:=(VU u9).imp fun a d h=>by obtain⟨rfl,_⟩:=h;simp[bk,Rows.uptoBulk]
def A6.mu (x:A6):Nat:=(fun _:Int=>1) x.Kind+(fun _:Int=>1) x.Num+(fun s:ByteArray=>s.size+1) x.Text+1
theorem Uo (n:Nat):Opens enc Tryz.prog W base spare held 25 J7.eAs9 (fun(a:A6) d=>A6.mu a≤bk d) n:=by
 intro cs x h;obtain⟨xs,m,hm,rfl,hcl,hl,hf⟩:=DataW.trod_struct u25 h;subst hm;obtain⟨y0,k0,t0⟩:=I0 hl hf 0 (ty:=3) (off:=0) (sz:=1) (by kernel_rfl);obtain⟨y1,k1,t1⟩:=I0 hl hf 1 (ty:=3) (off:=1) (sz:=1) (by kernel_rfl);obtain⟨y2,k2,t2⟩:=I0 hl hf 2 (ty:=9) (off:=2) (sz:=1) (by kernel_rfl);have hxs:=Ak4 (hl.trans (by kernel_rfl)) k0 k1 k2;obtain⟨a0,r0,q0⟩:=BI _ _ _ t0;obtain⟨a1,r1,q1⟩:=BI _ _ _ t1;obtain⟨a2,r2,q2⟩:=Ai9 _ _ _ t2;refine⟨⟨a0,a1,a2⟩,?_,?_⟩
 ·have hc3:cs.length=3:=hcl.trans (by kernel_rfl);have:=(r0.join r1).join r2;rw[J7.eAs7]
  simp only[lst_eq]at this ⊢
  simpa[List.take_of_length_le,hc3,V.cells]using this
 simp only[bk]at q0 q1 q2
 rw[hxs];simp only[List.map_cons,List.map_nil,bk,Rows.uptoBulk,Rows.uptoBulkAll,A6.mu];omega
theorem Aa2 :∀n:Nat,Opens enc Tryz.prog W base spare held 27 J7.eAt1 (fun(a:A7) d=>A7.bulk a≤bk d) n:=by
 intro n
 induction n with
 |zero=>intro cs x h;simp[DataW.trod]at h
 |succ n ih=>
 intro cs x h;obtain⟨xs,m,hm,rfl,hcl,hl,hf⟩:=DataW.trod_struct u27 h;cases hm;obtain⟨y0,k0,t0⟩:=I0 hl hf 0 (ty:=3) (off:=0) (sz:=1) (by kernel_rfl);obtain⟨y1,k1,t1⟩:=I0 hl hf 1 (ty:=23) (off:=1) (sz:=1) (by kernel_rfl);obtain⟨y2,k2,t2⟩:=I0 hl hf 2 (ty:=3) (off:=2) (sz:=1) (by kernel_rfl);obtain⟨y3,k3,t3⟩:=I0 hl hf 3 (ty:=3) (off:=3) (sz:=1) (by kernel_rfl);obtain⟨y4,k4,t4⟩:=I0 hl hf 4 (ty:=3) (off:=4) (sz:=1) (by kernel_rfl);obtain⟨y5,k5,t5⟩:=I0 hl hf 5 (ty:=25) (off:=5) (sz:=3) (by kernel_rfl);have hxs:=Ak2 (hl.trans (by kernel_rfl)) k0 k1 k2 k3 k4 k5;obtain⟨a0,r0,q0⟩:=BI _ _ _ t0
 obtain⟨a1,r1,q1⟩:∃a:List A7,Dx (g0 W) W ((cs.drop 1).take 1) (V.sl (a.map J7.eAt1) .ro).cells∧A7.bulks a≤bk y1.1:=by
  cases n with
  |zero=>simp[DataW.trod]at t1
  |succ n=>
   obtain⟨a,r,q⟩:=EE u23 (show 0<Tryz.prog.cellsOf 27 by rw[show Tryz.prog.cellsOf 27=8 by kernel_rfl];decide) ih.down _ _ t1;exact⟨a,r,YY q⟩
 obtain⟨a2,r2,q2⟩:=BI _ _ _ t2;obtain⟨a3,r3,q3⟩:=BI _ _ _ t3;obtain⟨a4,r4,q4⟩:=BI _ _ _ t4;obtain⟨a5,r5,q5⟩:=Uo _ _ _ t5;refine⟨⟨a0,a1,a2,a3,a4,a5⟩,?_,?_⟩
 ·have hc3:cs.length=8:=hcl.trans (by kernel_rfl)
  rw[J7.eAs7]at r5
  have:=((((r0.join r1).join r2).join r3).join r4).join r5;rw[J7.eAt2]
  simp only[lst_eq]at this ⊢
  simpa[List.take_of_length_le,hc3,V.cells]using this
 simp only[bk]at q0 q1 q2 q3 q4 q5
 rw[hxs]
 simp only[List.map_cons,List.map_nil,bk,Rows.uptoBulk,Rows.uptoBulkAll,A7.bulk,A6.mu]at *
 omega
theorem u29 :Tryz.prog.underlying 29=some (.struct (Pz Tryz.prog 29)):=by kernel_rfl
theorem u22 :Tryz.prog.underlying 22=some (.slice 29):=by kernel_rfl
theorem Aa1 :∀n:Nat,Opens enc Tryz.prog W base spare held 29 J7.eAs6 (fun(a:A1) d=>A1.bulk a≤bk d) n:=by
 intro n
 induction n with
 |zero=>intro cs x h;simp[DataW.trod]at h
 |succ n ih=>
 intro cs x h;obtain⟨xs,m,hm,rfl,hcl,hl,hf⟩:=DataW.trod_struct u29 h;cases hm;obtain⟨y0,k0,t0⟩:=I0 hl hf 0 (ty:=3) (off:=0) (sz:=1) (by kernel_rfl);obtain⟨y1,k1,t1⟩:=I0 hl hf 1 (ty:=22) (off:=1) (sz:=1) (by kernel_rfl);obtain⟨y2,k2,t2⟩:=I0 hl hf 2 (ty:=3) (off:=2) (sz:=1) (by kernel_rfl);obtain⟨y3,k3,t3⟩:=I0 hl hf 3 (ty:=3) (off:=3) (sz:=1) (by kernel_rfl);obtain⟨y4,k4,t4⟩:=I0 hl hf 4 (ty:=3) (off:=4) (sz:=1) (by kernel_rfl);obtain⟨y5,k5,t5⟩:=I0 hl hf 5 (ty:=3) (off:=5) (sz:=1) (by kernel_rfl);obtain⟨y6,k6,t6⟩:=I0 hl hf 6 (ty:=27) (off:=6) (sz:=8) (by kernel_rfl);have hxs:=Ak1 (hl.trans (by kernel_rfl)) k0 k1 k2 k3 k4 k5 k6;obtain⟨a0,r0,q0⟩:=BI _ _ _ t0
 obtain⟨a1,r1,q1⟩:∃a:List A1,Dx (g0 W) W ((cs.drop 1).take 1) (V.sl (a.map J7.eAs6) .ro).cells∧A1.bulks a≤bk y1.1:=by
  cases n with
  |zero=>simp[DataW.trod]at t1
  |succ n=>
   obtain⟨a,r,q⟩:=EE u22 (show 0<Tryz.prog.cellsOf 29 by rw[show Tryz.prog.cellsOf 29=14 by kernel_rfl];decide) ih.down _ _ t1;exact⟨a,r,RN q⟩
 obtain⟨a2,r2,q2⟩:=BI _ _ _ t2;obtain⟨a3,r3,q3⟩:=BI _ _ _ t3;obtain⟨a4,r4,q4⟩:=BI _ _ _ t4;obtain⟨a5,r5,q5⟩:=BI _ _ _ t5;obtain⟨a6,r6,q6⟩:=Aa2 _ _ _ t6;refine⟨⟨a0,a1,a2,a3,a4,a5,a6⟩,?_,?_⟩
 ·have hc3:cs.length=14:=hcl.trans (by kernel_rfl)
  rw[J7.eAt2]at r6
  have:=(((((r0.join r1).join r2).join r3).join r4).join r5).join r6;rw[J7.eAs4]
  simp only[lst_eq]at this ⊢
  simpa[List.take_of_length_le,hc3,V.cells]using this
 simp only[bk]at q0 q1 q2 q3 q4 q5 q6
 rw[hxs]
 simp only[List.map_cons,List.map_nil,bk,Rows.uptoBulk,Rows.uptoBulkAll,A1.bulk,A6.mu]at *
 omega
theorem u62 :Tryz.prog.underlying 62=some (.struct (Pz Tryz.prog 62)):=by kernel_rfl
theorem u60 :Tryz.prog.underlying 60=some (.slice 25):=by kernel_rfl
theorem ZZ (n:Nat):Opens enc Tryz.prog W base spare held 60 (fun l:List A6=>.sl (lst J7.eAs9 l) .ro) (fun a d=>(Nq A6.mu) a≤bk d) n:=
 Opens.down (((EE u60 (show 0<Tryz.prog.cellsOf 25 by rw[show Tryz.prog.cellsOf 25=3 by kernel_rfl];decide) (Uo n)).imp fun a d h=>Ui h).congr fun x=>by rw[lst_eq])
def A4.mu (x:A4):Nat:=(fun _:Int=>1) x.Source+(fun _:Int=>1) x.Seq+(fun _:Int=>1) x.Typ+(fun _:Int=>1) x.Time+(Nq A6.mu) x.Values+1
theorem ZY (n:Nat):Opens enc Tryz.prog W base spare held 62 J7.eAs3 (fun(a:A4) d=>A4.mu a≤bk d) n:=by
 intro cs x h;obtain⟨xs,m,hm,rfl,hcl,hl,hf⟩:=DataW.trod_struct u62 h;subst hm;obtain⟨y0,k0,t0⟩:=I0 hl hf 0 (ty:=3) (off:=0) (sz:=1) (by kernel_rfl);obtain⟨y1,k1,t1⟩:=I0 hl hf 1 (ty:=3) (off:=1) (sz:=1) (by kernel_rfl);obtain⟨y2,k2,t2⟩:=I0 hl hf 2 (ty:=3) (off:=2) (sz:=1) (by kernel_rfl);obtain⟨y3,k3,t3⟩:=I0 hl hf 3 (ty:=3) (off:=3) (sz:=1) (by kernel_rfl);obtain⟨y4,k4,t4⟩:=I0 hl hf 4 (ty:=60) (off:=4) (sz:=1) (by kernel_rfl);have hxs:=Ak3 (hl.trans (by kernel_rfl)) k0 k1 k2 k3 k4;obtain⟨a0,r0,q0⟩:=BI _ _ _ t0;obtain⟨a1,r1,q1⟩:=BI _ _ _ t1;obtain⟨a2,r2,q2⟩:=BI _ _ _ t2;obtain⟨a3,r3,q3⟩:=BI _ _ _ t3;obtain⟨a4,r4,q4⟩:=ZZ _ _ _ t4;refine⟨⟨a0,a1,a2,a3,a4⟩,?_,?_⟩
 ·have hc3:cs.length=5:=hcl.trans (by kernel_rfl);have:=(((r0.join r1).join r2).join r3).join r4;rw[J7.eAs8]
  simp only[lst_eq]at this ⊢
  simpa[List.take_of_length_le,hc3,V.cells]using this
 simp only[bk]at q0 q1 q2 q3 q4
 rw[hxs];simp only[List.map_cons,List.map_nil,bk,Rows.uptoBulk,Rows.uptoBulkAll,A4.mu];omega
theorem u30 :Tryz.prog.underlying 30=some (.slice 62):=by kernel_rfl
theorem Aa0 (n:Nat):Opens enc Tryz.prog W base spare held 30 (fun l:List A4=>.sl (lst J7.eAs3 l) .ro) (fun a d=>(Nq A4.mu) a≤bk d) n:=
 Opens.down (((EE u30 (show 0<Tryz.prog.cellsOf 62 by rw[show Tryz.prog.cellsOf 62=5 by kernel_rfl];decide) (ZY n)).imp fun a d h=>Ui h).congr fun x=>by rw[lst_eq])
theorem PJ {v:Value}{d:DataW H}{p:List MemPlace}(hv:Value.okWide Tryz.prog W .any base 29 v)(h:DataW.Trod enc Tryz.prog W 0 (fun _=>true) true 29 v d p):∃x:A1,VR (g0 W) W v (J7.eAs6 x)∧A1.bulk x≤Rows.uptoBulk d:=by
 obtain⟨fuel,ht⟩:=h;obtain⟨cs,rfl,hcs⟩:=okWide_struct u29 hv;obtain⟨x,hr,hb⟩:=Aa1 fuel _ _ ht;have hr':Dx (g0 W) W cs.toList (J7.eAs6 x).cells:=hr;refine⟨x,?_,hb⟩;have:=hr'.agg
 rw[J7.eAs4]at this ⊢
 exact this
theorem RO {v:Value}{d:DataW H}{p:List MemPlace}(hv:Value.okWide Tryz.prog W .any base 30 v)(h:DataW.Trod enc Tryz.prog W 0 (fun _=>true) true 30 v d p):∃x:List A4,VR (g0 W) W v (.sl (lst J7.eAs3 x) .ro)∧(Nq A4.mu) x≤Rows.uptoBulk d:=by
 obtain⟨fuel,ht⟩:=h;obtain⟨a,len,cap,rfl⟩:=okWide_slice u30 hv;obtain⟨x,hr,hb⟩:=Aa0 fuel _ _ ht;exact⟨x,(hr.2 0 (by simp[V.cells])).2,hb⟩
theorem u4 :Tryz.prog.underlying 4=some .bool:=by kernel_rfl
theorem Ab6 {f:FuncId}{vals:Array Value}{args:List V}(hg:∀n,VR (g0 W) W (.pointer (some ⟨n,0,none⟩)) (G7.gl n))(hcall:∀vals w,(callFunc f vals).run Tryz.prog w= .ok (.enter f vals) w)(law:B2 Tryz.prog f args (.bool true))(hA:Args (g0 W) W vals args):
 Calls Tryz.prog f vals W fun e W'=>e= .returned (.bool true)∧Below W.heap.size W W':=by
 have hc:=law (fun _=>none) (g0 W) W vals (rl0 hg) hA
 rw[hcall]at hc
 refine(callsIn_wide.1 hc).mono fun e W' ⟨v,he,g',y,H',hs,hR,hvy,hy,_⟩=>?_;subst hy;cases hvy;exact⟨he,hs.low⟩
theorem Ar3 {v0 v1 v2:Value}{x0 x1 x2:V}(h0:VR (g0 W) W v0 x0)(h1:VR (g0 W) W v1 x1)(h2:VR (g0 W) W v2 x2):Args (g0 W) W #[v0,v1,v2] [x0,x1,x2]:=⟨rfl,fun i hi=>by
 match i,hi with
 |0,_=>exact h0
 |1,_=>exact h1
 |2,_=>exact h2⟩
end
end Go.Ab
namespace Go.Ab
open Go.RowKit Go.ChangeShapes Go.WideShapes Go.ChangeAt Go.Proofs Go.Proofs.YtanbgjgaafeplaaGreatDoor
set_option maxRecDepth 100000
section
variable [G7]{H:Type}{enc:TypeId×Value→H}{W:World}{base:Nat}{spare:Nat→Bool}{held:Bool}
def Af.mu (x:Af):Nat:=(fun _:Int=>1) x.Time+(fun _:Int=>1) x.Source+(fun _:Int=>1) x.Seq+1
def D6.mu (x:D6):Nat:=(fun _:Int=>1) x.Var+Af.mu x.Ref+1
def B6.mu (x:B6):Nat:=(Nq D6.mu) x.cR+1
theorem Al7 {v:Value}(hv:Value.okWide Tryz.prog W .any base 5 v):∃n:Int,VR (g0 W) W v (.int .u8 n)∧0≤n∧n<256:=by
 have ht:Tryz.prog.underlying 5=some (.int .u8):=by kernel_rfl
 obtain⟨n,rfl⟩:=okWide_int ht hv;refine⟨n,.int _ _,?_⟩
 simp only[Value.okWide,ht,Cell.okWide,Cell.ok,IntKind.has]at hv
 have a:IntKind.u8.min=0:=by rfl
 have b:IntKind.u8.max=255:=by rfl
 simp only[a,b,decide_eq_true_eq,Bool.and_eq_true]at hv
 omega
end
end Go.Ab
namespace Go.Ab
open Go.RowKit Go.ChangeShapes Go.WideShapes Go.ChangeAt Go.Proofs Go.Proofs.YtanbgjgaafeplaaGreatDoor
set_option maxRecDepth 100000
section
variable {H:Type}{enc:TypeId×Value→H}{W:World}{base:Nat}{spare:Nat→Bool}{held:Bool}
theorem u196 :Tryz.prog.underlying 196=some (.array F5.length 195):=by kernel_rfl
theorem u195 :Tryz.prog.underlying 195=some (.struct (Pz Tryz.prog 195)):=by kernel_rfl
theorem SV (n:Nat):Opens enc Tryz.prog W base spare held 195 J7.eAu3 (fun(a:J3) d=>d= .agg [.lit (.int .i64 a.cX),.lit (.int .i64 a.most),.lit (.bool a.cT),.lit (.bool a.cond),.lit (.bool a.scope),.lit (.bool a.span)]) n:=by
 intro cs x h;obtain⟨xs,m,rfl,rfl,hcl,hl,hf⟩:=DataW.trod_struct u195 h;obtain⟨y0,k0,t0⟩:=I0 hl hf 0 (ty:=3) (off:=0) (sz:=1) (by kernel_rfl);obtain⟨y1,k1,t1⟩:=I0 hl hf 1 (ty:=3) (off:=1) (sz:=1) (by kernel_rfl);obtain⟨y2,k2,t2⟩:=I0 hl hf 2 (ty:=4) (off:=2) (sz:=1) (by kernel_rfl);obtain⟨y3,k3,t3⟩:=I0 hl hf 3 (ty:=4) (off:=3) (sz:=1) (by kernel_rfl);obtain⟨y4,k4,t4⟩:=I0 hl hf 4 (ty:=4) (off:=4) (sz:=1) (by kernel_rfl);obtain⟨y5,k5,t5⟩:=I0 hl hf 5 (ty:=4) (off:=5) (sz:=1) (by kernel_rfl)
 have hxs:xs=[y0,y1,y2,y3,y4,y5]:=match xs,hl.trans (show _=6 by kernel_rfl),k0,k1,k2,k3,k4,k5 with|[_,_,_,_,_,_],_,rfl,rfl,rfl,rfl,rfl,rfl=>rfl
 obtain⟨a0,r0,q0⟩:=JP u3 _ _ t0;obtain⟨a1,r1,q1⟩:=JP u3 _ _ t1;obtain⟨a2,r2,q2⟩:=FM u4 _ _ t2;obtain⟨a3,r3,q3⟩:=FM u4 _ _ t3;obtain⟨a4,r4,q4⟩:=FM u4 _ _ t4;obtain⟨a5,r5,q5⟩:=FM u4 _ _ t5;refine⟨⟨a0,a1,a2,a3,a4,a5⟩,?_,?_⟩
 ·have hc3:cs.length=6:=hcl.trans (by kernel_rfl);have:=((((r0.join r1).join r2).join r3).join r4).join r5;rw[J7.eAu7]
  simpa[List.take_of_length_le,hc3,V.cells]using this
 rw[hxs];simp only[List.map_cons,List.map_nil,q0,q1,q2,q3,q4,q5]
theorem NL :∀(l k:List J3),(RL (H:=H) (fun(a:J3) d=>d= .agg [.lit (.int .i64 a.cX),.lit (.int .i64 a.most),.lit (.bool a.cT),.lit (.bool a.cond),.lit (.bool a.scope),.lit (.bool a.span)]) l
 (k.map fun a=>.agg [.lit (.int .i64 a.cX),.lit (.int .i64 a.most),.lit (.bool a.cT),.lit (.bool a.cond),.lit (.bool a.scope),.lit (.bool a.span)]))→l=k
 |[],[],_=>rfl
 |[],_::_,h=>by have:=h.1;simp at this
 |_::_,[],h=>by have:=h.1;simp at this
 |a::l,b::k,h=>by
  have h0:=h.2 0 a _ rfl rfl;have h1:=NL l k ⟨by simpa using h.1,fun i a d hi hd=>h.2 (i+1) a d (by simpa using hi) (by simpa using hd)⟩;subst h1;obtain⟨a0,a1,a2,a3,a4,a5⟩:=a;obtain⟨b0,b1,b2,b3,b4,b5⟩:=b
  simp at h0
  simp[h0]
theorem Rk (h:laidMetH Tryz.prog Rows.semanticsMatchesRow.laid W):VR (g0 W) W (.pointer (some ⟨0,0,none⟩)) (G7.gl 0):=by
 have h':laidMet Tryz.prog Rows.semanticsMatchesRow.laid W:=h;obtain⟨ps,⟨_,_,_,_,_,q1,_,_,_,_,L1,_⟩,_⟩:=h';obtain⟨_,_,_,_,_,q2,_,_,_,_,L2,_⟩:=L1;obtain⟨_,_,_,_,_,q3,_,_,_,_,L3,_⟩:=L2;obtain⟨g',t',cs,fuel,p,q,hg',ht',hvar,hd,_,_⟩:=L3;obtain rfl:g'=0:=Option.some.inj (hg'.symm.trans (by kernel_rfl));obtain rfl:t'=196:=Option.some.inj (ht'.symm.trans (by kernel_rfl));obtain⟨l,hr,ds,hds,hl⟩:=QY u196 (by kernel_rfl) (by decide) (fun n=>SV n) hd
 have e:ds=F5.map fun a=>.agg [.lit (.int .i64 a.cX),.lit (.int .i64 a.most),.lit (.bool a.cT),.lit (.bool a.cond),.lit (.bool a.scope),.lit (.bool a.span)]:=by
  have e2:(Rows.laid_tidegate_pattern_shapes:DataW Unit)= .agg ds:=hds;have e3:(Rows.laid_tidegate_pattern_shapes:DataW Unit)= .agg (F5.map fun a=>.agg [.lit (.int .i64 a.cX),.lit (.int .i64 a.most),.lit (.bool a.cT),.lit (.bool a.cond),.lit (.bool a.scope),.lit (.bool a.span)]):=rfl
  rw[e3]at e2
  exact(DataW.agg.inj e2).symm
 subst e;obtain rfl:=NL _ _ hl;exact Rq hg' hvar hr
theorem Ak5 (h:laidMetH Tryz.prog Rows.semanticsMatchesRow.laid W):∀n,VR (g0 W) W (.pointer (some ⟨n,0,none⟩)) (G7.gl n)
 |0=>Rk h
 |_+1=>.bad _
end
end Go.Ab
