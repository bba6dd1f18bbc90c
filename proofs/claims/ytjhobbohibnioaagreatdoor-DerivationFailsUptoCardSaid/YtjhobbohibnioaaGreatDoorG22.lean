/- . -/
import Derived.Test.YtjhobbohibnioaaGreatDoorG21
import Derived.Test.YtjhobbohibnioaaGreatDoorRows
import Derived.WalkKit
import Derived.ProofKit
import Derived.OpenShut
import Derived.Deep.DeepHandedRow
import Derived.Carry
import Derived.Test.YtjhobbohibnioaaGreatDoorTie
set_option linter.all false
open Go.Ab.Ar (ar lst lst_eq nt wr)
namespace Go.Ab
open Classical
noncomputable section
variable {N:Nat}
def Wn (hN:Bgn N):∀(n:Nat) (p:A2) (d:A4),NG d≤n→n≤N→Fa d≤4096→FF p→p.pre.length≤64→FV d p=0→U9 N n p d=some (Oh d p)
 |0,p,d,h,_,_,_,_,_=>by rw[V2]at h;omega
 | n + 1, p,d,h,hnN,hs,hw,hpp,hsu=>by
  have hsz:=Fd d;have hdp:=V2 d;have hkl:=GU d.Kids;unfold U9;rw[Pl]
  by_cases h0:p.Op=0
  ·rw[A1 (J4 h0),A1 h0]
  rw[A0 (MP h0),A0 h0];have hS:=Du hsu
  have pre:∀(i:Nat) (hi:i<d.Kids.length),NG d.Kids[i]≤n∧Fa d.Kids[i]≤4096∧FF (K6 p d.Choice i)∧(K6 p d.Choice i).pre.length≤64∧FV d.Kids[i] (K6 p d.Choice i)=0:=by
   intro i hi;have hm:=E4 hi;have hma:=(G9 hw.self hS.n hi hS.c).1;have h1:=Ak hm;have h2:=Dt hm;have h3:=K7 hma;exact⟨by omega,by omega,hw.arg hma,by omega,hS.k i hi⟩
  by_cases h2:p.Op=2
  ·rw[A1 (J4 h2)];have hc:=hS.c h2;have hone:=hS.one h0 (by omega) (by omega)
   have hi:0<d.Kids.length:=by omega
   have ha:=(G9 hw.self hS.n hi hS.c).2.2.1 h2
   have hci:B9 p.cQ d.Choice=some (K6 p d.Choice 0):=by
    obtain⟨m,hm⟩:=Dh hc.1;rw[hm,E1]
    rw[hm,R6]at ha
    rw[ha]
   have hk:B9 d.Kids 0=some d.Kids[0]:=by
    rw[show(0:Int)=((0:Nat):Int)from rfl,E1,C0 hi]
   obtain⟨q1,q2,q3,q4,q5⟩:=pre 0 hi;rw[hci,hk];simp only[A3];rw[Wn hN n _ _ q1 (by omega) q2 q3 q4 q5];simp only[A3]
   obtain⟨k0,hk0⟩:∃k0,d.Kids=[k0]:=by
    match hk:d.Kids,hone with
    |[k0],_=>exact⟨k0,rfl⟩
   have e4:d.Kids[0]=k0:=by simp[hk0]
   rw[e4,hk0,Hf,Hf,G4]
  rw[A0 (MP h2)]
  obtain ⟨t,h1,h3⟩:=SF (N:=N) (m:=d.Kids.length) (T:=List C1) (R:=List C1) (step:=fun(s8:Int×(List C1))=>
          (
           if Ar.cmp .lss s8.1 (Ar.len d.Kids)=true then
            (B9 d.Kids s8.1).bind fun x11=>
            (FL (Ar.cmp .neq (Ar.len p.cQ) 0)).bind fun _=>
            (B9 p.cQ (ar .rem .i64 s8.1 (Ar.len p.cQ))).bind fun x13=>
            (N6 N n x13 x11).bind fun r14=>
            (P9 s8.2 r14).bind fun l16=>
            some (.inl (ar .add .i64 s8.1 1,l16))
           else
            some (.inr s8.2)
           :Option ((Int×(List C1))⊕(((List C1))))))
   (rep:=fun i t=>((i:Int),t)) (I:=BI d.Kids p d.Choice) (res:=fun t=>t) (fun i hi t hI=>by
    dsimp only
    have hne:p.cQ≠[]:=fun e=>by
     have:=(G9 hw.self hS.n hi hS.c).1
     rw[e]at this;cases this
    have hq:FL (Ar.cmp .neq (Ar.len p.cQ) 0)=some ():=by
     unfold FL;rw[A1 (K0 (by rw[B0];have:=List.length_pos_iff.2 hne;omega))]
    obtain⟨e1,e2⟩:=hI.next hi;obtain⟨q1,q2,q3,q4,q5⟩:=pre i hi;refine⟨_,?_,e2⟩;rw[A1 (T8 (by omega)),E1,C0 hi,hq,XN hw hpp hS h0 h2 hi];simp only[A3];rw[Ux hN n _ _ q1 q2 q3 q4 q5];simp only[A3];rw[e1];simp only[A3]
    rw[D0 (by omega) (by omega)];rfl) (fun t _=>by dsimp only;rw[A0 Cv]) (by omega) (t0:=[]) (.start (by omega))
  have h4:=h1.stop;subst h4
  rw[show((0:Nat):Int)=0 from rfl]at h3
  rw[h3];rfl
def Str (l:List BG):Prop:=l.Pairwise fun x y=>cB x y<0
def KN (l:List BG):Prop:=(l.map fun x=>N9 x.Ref).Nodup
def SL {x y:BG}:cB x y=0↔N9 x.Ref=N9 y.Ref:=⟨fun h=>JG h,fun h=>by unfold cB;rw[h,DQ]⟩
def Bl9 {x y z:BG} (h1:cB x y<0) (h2:WA y z):cB x z<0:=by
 unfold WA at h2
 by_cases e:cB y z=0
 ·have:=SL.1 e
  unfold cB at *
  rw[←this];exact h1
 exact Gb h1 (by unfold cB at *;omega)
def Str.kn {l:List BG}(h:Str l):KN l:=by
 unfold KN List.Nodup;rw[R5];refine h.imp fun{x y} hxy e=>?_;have:=SL.2 e;omega
def KN.perm {a b:List BG}(p:a.Perm b)(h:KN a):KN b:=(p.map _).nodup_iff.1 h
def Bf1 {l:List BG} (h:Ya l) (hd:∀i (hi:i+1<l.length),N9 l[i].Ref≠N9 l[i+1].Ref):Str l:=by
 unfold Str;rw[Y9];intro i j hi hj hij;have h1:=AF8 h (i:=i) (j:=i+1) (by omega) (by omega);have h2:=AF8 h (i:=i+1) (j:=j) (by omega) hj
 have h3:cB l[i] l[i+1]<0:=by
  unfold WA at h1
  have:cB l[i] l[i+1]≠0:=fun e=>hd i (by omega) (SL.1 e);omega
 exact Bl9 h3 h2
def AF5 {a b:List BG}(ha:Str a)(hb:Str b)(p:a.Perm b):a=b:=by
 refine Mi (le:=fun x y=>cB x y<0) (fun x y _ _ h1 h2=>?_) ha hb p;have:=AP6 x y;omega
def Al5 (hN:Bgn N)(x y:BG):Z5 N x y=some (cB x y):=by
 unfold Z5 Gf;rw[Uq hN];rfl
end
end Go.Ab
namespace Go.Ab
open Classical
noncomputable section
def Qi {l:List A8}:Al l=0↔l.length≤4096∧(∀e∈l,HK e=true)∧l.Pairwise fun a b=>M9 (W0 a) (W0 b)<0∧EN a b=false:=by
 constructor
 ·intro h
  have hl:l.length≤4096:=by
   have h':=h
   unfold Al at h';split at h'
   ·cases h'
   omega
  have key:∀i (hi:i<l.length),Qn l i=0:=by
   intro i hi;have h':=h
   unfold Al at h'
   rw[A0 (by omega)]at h'
   exact CJ.1 h' i (List.mem_range.2 hi)
  refine⟨hl,fun e he=>?_,List.pairwise_iff_getElem.2 fun i j hi hj hij=>⟨Pn hl h hij hj,?_⟩⟩
  ·obtain⟨i,hi,rfl⟩:=M4 he;have:=key i hi
   unfold Qn at this
   rw[C0 hi]at this
   dsimp only at this
   split at this
   ·cases this
   next h1=>simpa using h1
  have:=key j hj
  unfold Qn at this
  rw[C0 hj]at this
  dsimp only at this
  split at this
  ·cases this
  split at this
  ·cases this
  split at this
  ·cases this
  next h3=>
  rw[As,GK]at h3
  have:=h3 l[i] (List.mem_take_iff_getElem.2 ⟨i,by omega,rfl⟩)
  simpa using this
 rintro⟨h1,h2,h3⟩
 rw[Y9]at h3
 unfold Al;rw[A0 (by omega)];refine CJ.2 fun i hi=>?_;have hi:=List.mem_range.1 hi;unfold Qn;rw[C0 hi]
 dsimp only
 rw[A0 (by rw[h2 _ (E4 hi)];simp),A0,A0]
 ·rw[GF];rintro⟨x,hx,e⟩;obtain⟨j,hj,rfl⟩:=List.mem_take_iff_getElem.1 hx;have:=(h3 j i (by omega) hi (by omega)).2
  rw[this]at e;cases e
 rintro⟨h0,h4⟩
 rw[C0 (by omega)]at h4
 have:=(h3 (i-1) i (by omega) hi (by omega)).1
 simp only[U2]at h4
 omega
def AP3 {l:List A8}{k:Nat}(h:Al l=0):Al (l.take k++l.drop (k+1))=0:=by
 obtain⟨h1,h2,h3⟩:=Qi.1 h
 have hs:(l.take k++l.drop (k+1)).Sublist l:=by rw[←List.eraseIdx_eq_take_drop_succ];exact List.eraseIdx_sublist l k
 exact Qi.2 ⟨N0 hs.length_le h1,fun e he=>h2 e (hs.subset he),h3.sublist hs⟩
def Jn (l:List A8)(k:Nat)(t:Int):List A8:=match l[k]? with|some x=>l.set k {x with Typ:=t}|none=>l
def Nl (l:List A8)(k:Nat)(t:Int):(Jn l k t).length=l.length:=by unfold Jn;split<;>simp
def YW {l:List A8} {k:Nat} {t:Int} {i:Nat} (hi:i<l.length):∃e,(Jn l k t)[i]? =some e∧e.Time=l[i].Time∧e.Source=l[i].Source∧e.Seq=l[i].Seq∧(i=k→e.Typ=t):=by
 unfold Jn
 by_cases hk:k<l.length
 ·have e0:l[k]? =some l[k]:=C0 hk;rw[e0]
  dsimp only
  rw[C0 (by simpa using hi),List.getElem_set];refine⟨_,rfl,?_⟩
  by_cases e:k=i
  ·subst e;rw[A1 rfl];exact⟨rfl,rfl,rfl,fun _=>rfl⟩
  rw[A0 e];exact⟨rfl,rfl,rfl,fun h=>absurd h.symm e⟩
 have e0:l[k]? =none:=List.getElem?_eq_none (by omega);rw[e0];exact⟨_,C0 hi,rfl,rfl,rfl,by omega⟩
def Nm {l:List A8}{k:Nat}{t:Int}{i:Nat}(hi:i<(Jn l k t).length)(hi':i<l.length):(Jn l k t)[i].Time=l[i].Time∧(Jn l k t)[i].Source=l[i].Source∧(Jn l k t)[i].Seq=l[i].Seq:=by
 obtain⟨e,h1,h2,h3,h4,_⟩:=YW (k:=k) (t:=t) hi'
 rw[C0 hi]at h1
 cases h1;exact⟨h2,h3,h4⟩
def At7 {l:List A8} {k:Nat} {t:Int} (h:Al l=0):Al (Jn l k t)=0:=by
 obtain⟨h1,h2,h3⟩:=Qi.1 h;have hn:=Nl l k t
 rw[Y9]at h3
 refine Qi.2 ⟨by omega,fun e he=>?_,List.pairwise_iff_getElem.2 fun i j hi hj hij=>?_⟩
 ·obtain⟨i,hi,rfl⟩:=M4 he;obtain⟨e1,e2,e3⟩:=Nm hi (by omega);have:=h2 l[i] (E4 (by omega))
  unfold HK at *
  rw[e1,e2,e3];exact this
 have:=h3 i j (by omega) (by omega) hij;obtain⟨a1,a2,a3⟩:=Nm hi (by omega);obtain⟨b1,b2,b3⟩:=Nm hj (by omega)
 unfold W0 EN at *
 rw[a1,a2,a3,b1,b2,b3];exact this
def Ap2 {l:List A8}{k:Nat}{t:Int}(hl:l.length≤4096)(h:Al l=0){r:T4}{i:Nat}(hp:Cy l r=some i):Cy (Jn l k t) r=some i:=by
 obtain⟨hi,e⟩:=DM hp
 have hi':i<(Jn l k t).length:=by rw[Nl];exact hi
 refine Sy (by rw[Nl];exact hl) (At7 h) hi' ?_;obtain⟨a1,a2,a3⟩:=Nm hi' hi;rw[←e];unfold W0;rw[a1,a2,a3]
def PX {l:List A8}{i:Nat}(hi:i<l.length):N9 (AJ l i)=W0 l[i]:=by
 unfold AJ;rw[R6,C0 hi];rfl
def AI5 {l:List A8}(hl:l.length≤4096)(h:Al l=0){i:Nat}(hi:i<l.length):Cy l (AJ l i)=some i:=Sy hl h hi (PX hi).symm
theorem SGq {l:List A8} (hl:l.length≤4096) (h:Al l=0) {i j:Nat} (hi:i<l.length) (hj:j<l.length) (e:W0 l[i]=W0 l[j]):i=j:=by
 rcases El i j with h1|h1|h1
 ·have:=Pn hl h h1 hj
  rw[e,DQ]at this;omega
 ·exact h1
 have:=Pn hl h h1 hi
 rw[e,DQ]at this;omega
def AI4 {l:List A8} (hl:l.length≤4096) (h:Al l=0) {k:Nat} (hk:k<l.length):Cy (l.take k++l.drop (k+1)) (AJ l k)=none:=by
 cases hp:Cy (l.take k++l.drop (k+1)) (AJ l k)with
 |none=>rfl
 | some i=>
  exfalso;obtain⟨hi,e⟩:=DM hp
  rw[PX hk]at e
  have h1:(l.take k).length=k:=by rw[U3];omega
  by_cases hik:i<k
  ·rw[List.getElem_append_left (by omega),LS]at e
   have:=SGq hl h (by omega) hk e;omega
  rw[List.getElem_append_right (by omega),List.getElem_drop]at e
  rw[G8,h1,IQ]at hi
  have:=SGq hl h (by omega) hk e;omega
mutual
def Am8 {l:List A8}:∀(d:A4) (p:A2) (b:List PR) (f:Int) (s:List PR),Lr l d p b f=some s→(Oh d p).Perm (Bc l s).cT
 | ⟨r,c,ks⟩,p,b,f,s,h=>by
  rw[Lr]at h
  rw[Oh]
  by_cases h0:p.Op=0
  ·rw [A1 h0]at h ⊢
   cases hp:Cy l r with
   |none=>rw[hp]at h;cases h
   | some i=>
    rw[hp]at h
    dsimp only at h
    split at h
    ·cases h;obtain⟨hi,e⟩:=DM hp
     have:AJ l i=r:=by
      have e2:=PX hi
      rw[e]at e2
      have e1:AJ l i=⟨(AJ l i).Time,(AJ l i).Source,(AJ l i).Seq⟩:=rfl
      unfold N9 at e2
      injection e2 with q1 q2
      injection q2 with q2 q3
      injection q3 with q3 q4
      rw[e1,q1,q2,q3]
     show[(⟨p.Var,r⟩:C1)].Perm [⟨p.Var,AJ l i⟩]
     rw[this]
    cases h
  rw[A0 h0]at h ⊢
  obtain⟨x,h1,h2⟩:=Option.bind_eq_some_iff.1 h
  split at h2
  ·cases h2
  cases h2;have:=Au2 ks p c 0 b f [] _ h1
  simpa[Bc]using this
def Au2 {l:List A8}:∀(ks:List A4) (p:A2) (c:Int) (i:Nat) (b:List PR) (f:Int) (s0 s:List PR),Cs l ks p c i b f s0=some s→(Hf ks p c i++(Bc l s0).cT).Perm (Bc l s).cT
 |[],p,c,i,b,f,s0,s,h=>by
  rw[Cs]at h;cases h;rw[Hf];exact .refl _
 | k::ks,p,c,i,b,f,s0,s,h=>by
  rw[Cs]at h
  obtain⟨x,h1,h2⟩:=Option.bind_eq_some_iff.1 h
  split at h2
  ·cases h2
  have e1:=Am8 k _ _ _ x h1;have e2:=Au2 ks p c (i+1) b f (mrg s0 x) s h2
  have e3:(Bc l (mrg s0 x)).cT.Perm ((Bc l s0).cT++(Bc l x).cT):=by
   unfold Bc;rw[←N1];exact(Eb _ _ _ (B1 _)).map _
  rw[Hf];refine List.Perm.trans ?_ e2;refine List.Perm.trans ?_ (Rd _ e3.symm);refine List.Perm.trans ((e1.append_right _).append_right _) ?_;rw[E7];exact List.perm_append_comm.trans (by rw[E7])
end
mutual
def AJ6 {l l':List A8} {ρ:T4} {k:Nat} (hk:Cy l ρ=some k) (hk':Cy l' ρ=some k) (hf:∀p b b',IH l p b k=true→IH l' p b' k=false):∀(d:A4) (p:A2) (b:List PR) (f:Int) (b':List PR) (f':Int) (s:List PR),Lr l d p b f=some s→(∃y∈Oh d p,y.Ref=ρ)→Lr l' d p b' f'=none
 | ⟨r,c,ks⟩,p,b,f,b',f',s,h,hy=>by
  rw[Lr]at h ⊢
  rw[Oh]at hy
  by_cases h0:p.Op=0
  ·rw[A1 h0]at h hy ⊢
   obtain⟨y,h1,h2⟩:=hy
   rw[Cq]at h1
   subst h1
   dsimp only at h2
   subst h2
   rw[hk]at h
   rw[hk']
   dsimp only at h ⊢
   split at h
   ·next h3=>rw[A0 (by rw[hf p b b' h3.2];simp)]
   cases h
  rw[A0 h0]at h hy ⊢
  obtain⟨x,h1,h2⟩:=Option.bind_eq_some_iff.1 h;rw[Aq0 hk hk' hf ks p c 0 b f [] x b' f' [] h1 hy];rfl
def Aq0 {l l':List A8} {ρ:T4} {k:Nat} (hk:Cy l ρ=some k) (hk':Cy l' ρ=some k) (hf:∀p b b',IH l p b k=true→IH l' p b' k=false):∀(ks:List A4) (p:A2) (c:Int) (i:Nat) (b:List PR) (f:Int) (s0 s:List PR) (b':List PR) (f':Int) (s':List PR),Cs l ks p c i b f s0=some s→(∃y∈Hf ks p c i,y.Ref=ρ)→Cs l' ks p c i b' f' s'=none
 |[],p,c,i,b,f,s0,s,b',f',s',h,hy=>by
  rw[Hf]at hy;obtain⟨y,h1,_⟩:=hy;cases h1
 | d::ks,p,c,i,b,f,s0,s,b',f',s',h,hy=>by
  rw[Cs]at h ⊢
  rw[Hf]at hy
  obtain⟨x,h1,h2⟩:=Option.bind_eq_some_iff.1 h
  split at h2
  ·cases h2
  obtain⟨y,hy,hr⟩:=hy
  rcases List.mem_append.1 hy with hy|hy
  ·rw[AJ6 hk hk' hf d _ _ _ _ _ x h1 ⟨y,hy,hr⟩];rfl
  cases Lr l' d (K6 p c i) (Ea p b' s') (Bi p f' s')with
  |none=>rfl
  |some x'=>
   show(if T7 s' x'=true then none else _)=none
   split
   ·rfl
   exact Aq0 hk hk' hf ks p c (i+1) b f _ s b' f' _ h2 ⟨y,hy,hr⟩
end
def Vx {l:List A8}(hl:l.length≤4096)(hcs:Al l=0){s:List PR}(hg:Gd l s):Str (Bc l s).cT:=by
 unfold Str Bc;rw[R5];refine Jg (fun{a b} ha hb hab=>?_) hg.asc;obtain⟨_,a1,a2⟩:=hg.wf a ha;obtain⟨_,b1,b2⟩:=hg.wf b hb;obtain⟨i,hi⟩:∃i:Nat,a.At=i:=⟨a.At.toNat,by omega⟩;obtain⟨j,hj⟩:∃j:Nat,b.At=j:=⟨b.At.toNat,by omega⟩
 show M9 (N9 (AJ l a.At)) (N9 (AJ l b.At))<0
 rw[hi,hj,PX (by omega),PX (by omega)];exact Pn hl hcs (by omega) (by omega)
def Am0 {l:List A8} (hl:l.length≤4096) (hcs:Al l=0) {s:List PR} (hg:Gd l s) (hn:s≠[]):Ba1 (Bc l s).cT=0:=by
 have hlen:=hg.len
 have hm:(Bc l s).cT.length=s.length:=by unfold Bc;rw[D4]
 have hs:=Vx hl hcs hg;have hp:=List.length_pos_iff.2 hn;unfold Ba1;rw[A0 (by omega),A0 (by omega)];refine CJ.2 fun i hi=>?_;have hi:=List.mem_range.1 hi;unfold UN;rw[C0 hi]
 dsimp only
 have hi':i<s.length:=by omega
 have e:(Bc l s).cT[i]=⟨s[i].Var,AJ l s[i].At⟩:=by simp[Bc]
 obtain⟨⟨v0,v1⟩,a1,a2⟩:=hg.wf s[i] (E4 hi');obtain⟨j,hj⟩:∃j:Nat,s[i].At=j:=⟨s[i].At.toNat,by omega⟩
 have hjl:j<l.length:=by omega
 have hpl:=(Qi.1 hcs).2.1 l[j] (E4 hjl)
 have er:AJ l s[i].At=⟨l[j].Time,l[j].Source,l[j].Seq⟩:=by unfold AJ;rw[hj,R6,C0 hjl]
 rw[A0,A0]
 ·rintro⟨h0,h4⟩
  rw[C0 (by omega)]at h4
  have:=List.pairwise_iff_getElem.1 hs (i-1) i (by omega) hi (by omega)
  simp only[U2]at h4
  unfold cB at this
  omega
 rw[e,er]
 unfold HK at hpl
 simp only[K5,D7,O7,Bv,D6,K3,G1]at hpl
 simp;omega
def Av9 {N:Nat}(hN:Bgn N){cmp:BG→BG→Option Int}(hc:∀x y,cmp x y=some (cB x y)){l:List BG}(hl:l.length<20):∃l',V6 N l (l.length:Int) cmp=some l'∧l'.Perm l∧Ya l':=by
 obtain⟨Z,z1,z2,z3⟩:=Ak3 hN hc [] l [] (a:=0) (b:=(l.length:Int)) rfl (by simp) (by simp;omega)
 rw[I5,G4,I5,G4]at z3
 refine⟨Z,?_,z1,z2⟩;unfold V6;have h1:Ar.cmp .leq (20:Int) (l.length:Int)=false:=BB (by omega);have h2:Ar.cmp .lss (20:Int) (l.length:Int)=false:=BB (by omega);obtain⟨M,hM⟩:∃M,N=M+1:=⟨N-1,by omega⟩
 have e1:∀{S R:Type} (f:S→Option (S⊕R)) (s:S) (r:R),f s=some (.inr r)→loopN f N s=some r:=fun f s r h=>by rw[hM,loopN,h]
 simp only[h1,h2,Bool.false_eq_true,if_false];rw[e1 (fun _=>some (.inr ())) () () rfl];simp only[A3];rw[z3];simp only[A3]
def Az6 {N:Nat} (hN:Bgn N) {p:A2} (hb:p.bulk≤16777216) (hc:QV N p=0) {l:List A8} (hl:l.length≤10) (hcs:Al l=0) {d:A4} (hz:Fa d≤4096) (hsu:FV d p=0) {s:List PR} (hv:Lr l d p [] 0=some s) (hr:Hj l 0 s):Z6 N p d=some (Bc l s,0):=by
 have hd:=Wl d;obtain⟨hw,hpp⟩:=Ke hN hb hc
 have hk:ckD N p d=0:=by unfold ckD;rw[A1 hc,A1 hz];exact hsu
 have hpm:=Am8 d p [] 0 s hv;have hst:=Vx (by omega) hcs hr.gd
 have hml:(Bc l s).cT.length≤10:=by have:=hr.gd.len;unfold Bc;rw[D4];omega
 unfold Z6;rw[Wm hN hb (by omega) (by omega)];simp only[A3];rw[A0 (H7 hk),Wn hN N p d (by omega) (B1 _) hz hw hpp hsu];simp only[A3];obtain⟨l',e1,e2,e3⟩:=Av9 (N:=N) (cmp:=fun y1 y2=>Z5 N y1 y2) hN (fun x y=>Al5 hN x y) (l:=Oh d p) (by have:=hpm.length_eq;omega);unfold S6;rw[B0,e1];simp only[A3];have hkn:KN l':=KN.perm ((e2.trans hpm).symm) hst.kn
 have hs':Str l':=Bf1 e3 fun i hi e=>by
  have:=List.pairwise_iff_getElem.1 hkn i (i+1) (by simp;omega) (by simpa using hi) (by omega)
  simp only[Dq]at this
  exact this e
 have et:l'=(Bc l s).cT:=AF5 hs' hst (e2.trans hpm);rw[et];have hs2:=List.pairwise_iff_getElem.1 hst
 generalize hM:(Bc l s).cT=m at hml hs2 ⊢
 refine DV (m:=m.length-1) (fun i (_:Unit)=>((i+1:Nat):Int)) (fun _ _=>True) (fun _=>Sum.inl ()) (t0:=()) rfl (by omega) trivial (fun i hi t _=>⟨(),?_,trivial⟩) (fun t _=>by rw[A0 (K4 (by rw[B0];omega))]) (fun t _=>?_)
 ·have h0:i<m.length:=by omega
  have h1:i+1<m.length:=by omega
  rw[A1 (T8 (by omega)),Gs (by omega) (by omega),show((i+1:Nat):Int)-1=(i:Int) by omega,JJ h0,E1,C0 h0,JJ h1,E1,C0 h1];simp only[A3];rw[A0,D0 (by omega) (by omega)]
  ·rfl
  have:=hs2 i (i+1) h0 h1 (by omega);intro h
  have e:N9 m[i].Ref=N9 m[i+1].Ref:=by
   simp only[K5,D7]at h
   unfold N9
   simp at h
   rw[h.1,h.2.1,h.2.2]
  rw[SL.2 e]at this
  omega
 dsimp only
 rw[AW8 hN (by omega),←hM];simp only[A3];rw[A0 (H7 (Am0 (by omega) hcs hr.gd hr.ne))]
def ST {N:Nat} (hN:Bgn N) {p:A2} (hb:p.bulk≤16777216) (hc:QV N p=0) {l:List A8} (hl:l.length≤4096) (hcs:Al l=0) {d:A4} (hz:Fa d≤4096) (hsu:FV d p=0):P3 N p l d=some (if(Oh d p).any (fun y=> !(Cy l y.Ref).isSome)=true then 6 else if(Lr l d p [] 0).isSome=true then 0 else 18):=by
 have hd:=Wl d;obtain⟨hw,hpp⟩:=Ke hN hb hc
 have hk:ckD N p d=0:=by unfold ckD;rw[A1 hc,A1 hz];exact hsu
 unfold P3;rw[Wm hN hb (by omega) (by omega)];simp only[A3];rw[A0 (H7 hk),WY hN];simp only[A3];rw[A0 (H7 hcs),AO5 hN (by omega) hz hw hpp hsu];simp only[A3];have hbl:=XK d p
 rw [Kt (l:=(Oh d p).map (·.Ref)) (fun r=> !(Cy l r).isSome) (by rw[D4];omega) (by rw[D4];omega) (fun i x hx hi=>by
     rw[D4]at hi
     rw[A1 (T8 (by rw[D4];omega)),E1,hx];simp only[A3];obtain⟨k,hf,_⟩:=As8 hN hl hcs x;rw[hf];simp only[A3,P7];rw[D0 (by omega) (by omega)]
     cases(Cy l x).isSome<;>rfl) (by rw[A0 Cv])]
 rw[IJ]
 by_cases ha:(Oh d p).any (fun y=> !(Cy l y.Ref).isSome)=true
 ·have ha':(Oh d p).any ((fun r=> !(Cy l r).isSome)∘fun y=>y.Ref)=true:=ha;rw[A1 ha',A1 ha];rfl
 have ha':¬(Oh d p).any ((fun r=> !(Cy l r).isSome)∘fun y=>y.Ref)=true:=ha;rw[A0 ha',A0 ha];have ho:Lk l (N7 []) 0:=⟨.nil l,fun x hx=>absurd hx BC,Ch _,by omega⟩;obtain⟨r,v1,v2,v3⟩:=SU hN hl hcs 0 N p d [] 0 (by omega) hz hw hpp hsu ho;simp only[A3];rw[v1]
 rw[show N7 []=[]from rfl]at v2
 rw[←v2];unfold okd;cases h2:r.2<;>simp[h2,P7]
def AQ6 {N:Nat} (hN:Bgn N) {p:A2} (hb:p.bulk≤16777216) {l:List A8} (hl:l.length≤10) (hs1:(Y2 p+1) ^ l.length≤1500∨(BM p∧l.length ^ Y2 p≤1500)) (hs2:L1 p∨(L2 p∧(2*Y2 p+1) ^ l.length≤4000)) (hc:QV N p=0) (hcs:Al l=0):
 ∃r L,DD N p l=some (r,0)∧TL l p [] 0 L∧r.Perm (L.map (·.2))∧XX r∧r.length≤4096∧∀x∈r,Fa x≤4096:=by
 unfold DD;rw[VL hN hb];simp only[A3];rw[A0 (H7 hc),WY hN];simp only[A3];rw[A0 (H7 hcs)];obtain⟨hw,hpp⟩:=Ke hN hb hc;have hs:Hp l.length p:=⟨Bf3 hpp hs1,hs2⟩;have ho:=out0 l;obtain⟨L,h1,h2⟩:=AM5 hN hl hcs (mu l p 0) p [] 0 (B1 _) hpp hw hs ho;have hmu:=AL1 (p:=p) hpp hl;have hfew:=h1.few hl hcs hw hpp hs ho;have hz:∀t∈L,Fa t.2≤4096:=fun t ht=>(h1.tree hl hpp ho t ht).1;have e1:E8 N N ⟨l,0⟩ p [] 0=some (L.map Kg):=h2.prg N (by omega);have e2:P4 N N p l [] 0=some (L.map GS):=h2.ref N (by omega);obtain⟨r,r1,r2,r3⟩:=AC0 hN hfew h1.nd hz e2
 have hrz:∀x∈r,Fa x≤4096:=by
  grind
 have hrl:r.length≤4096:=by have:=r3.length_eq;rw[D4]at this;omega
 refine⟨r,L,?_,h1,r3,r2,hrl,hrz⟩;rw[e1];simp only[A3]
 rw[Wt (fun s y hsl=>by
  rw[S1 (by simp;omega)];simp only[A3]
  have e3:FL (Lu (s++[(⟨⟨0,0,0⟩,0,[]⟩:A4)]) (Ar.len s))=some ():=by
   unfold FL Lu;rw[A1];rw[B0]
   grind
  rw[e3];simp only[A3];rw[B0,WK (by simp)]
  simp) L [] (by simp;omega)]
 simp only[A3,I5];rw[A0 (Q4 (by omega))];refine DV (m:=(L.map (·.2)).length) (fun i (_:Unit)=>(i:Int)) (fun _ _=>True) (fun _=>Sum.inl ()) (t0:=()) rfl (by rw[D4];omega) trivial (fun i hi t _=>⟨(),?_,trivial⟩) (fun t _=>by rw[A0 Cv]) (fun t _=>?_)
 ·have hi2:i<L.length:=by rwa[D4]at hi
  have hsz:=hz _ (E4 hi2);have hdp:=Wl L[i].2
  have e3:FL (Lu (L.map (·.2)) (i:Int))=some ():=by
   simp_all[FL,Lu]
  rw[A1 (T8 (by omega)),e3,E1,S5,C0 hi2];simp only[A3,K2];rw[Us hN N _ (by omega) (by omega)];simp only[A3];rw[A0 (Q4 (by omega)),D0 (by omega) (by omega)];rfl
 rw[Bf2 hN r3 r2 hrz (by rw[D4];omega)];rfl
def AT8 {w:Int}(h0:0≤w)(h1:w<256){n:Nat}:ar .rem .i64 (Ar.wr .i64 w) (n:Int)=((w.toNat % n:Nat):Int):=by
 have e:ar .rem .i64 (Ar.wr .i64 w) (n:Int)=(Ar.wr .i64 w).tmod n:=rfl;rw[e,Be9 h0 (by omega),Int.ofNat_tmod,Int.toNat_of_nonneg h0]
def An0 (t:Int):ar .add .i64 t 1≠t:=by
 have e:ar .add .i64 t 1=IntKind.wrap .i64 (t+1):=rfl;rw[e];unfold IntKind.wrap;simp[IntKind.bits,IntKind.signed]
 split<;>omega
def Ab8 {N:Nat} (hN:Bgn N) {s:List C1} (hs:s.length≤1000000) {f:C1→Option Bool} (P:C1→Bool) (hf:∀x∈s,f x=some (P x)):M0 N s f=some (s.any P):=by
 unfold M0 Q7
 have h:=fun hs he=>VT (l:=s) (step:=(fun(s1:Int)=>
  (
   if Ar.cmp .lss s1 (Ar.len s)=true then
    (B9 s s1).bind fun x3=>
    (f x3).bind fun r4=>
    if r4=true then
     some (.inr (.inr s1))
    else
     some (.inl (ar .add .i64 s1 1))
   else
    some (.inr (.inl ()))
   :Option ((Int)⊕(Unit⊕Int))))) P hs he s.length 0 N (by omega) (by omega)
 have h:=h (fun i hi=>by
  rw[A1 (T8 (by omega)),E1,C0 hi,D0 (by omega) (by omega)];simp only[A3];rw[hf _ (E4 hi)]
  cases P s[i]<;>rfl) (by rw[A0 Cv])
 rw[show((0:Nat):Int)=0 from rfl]at h
 rw[h,LJ];simp only[A3,J7];rw[←List.findIdx?_isSome]
 cases s.findIdx? P with
 |none=>rfl
 |some k=>simp[O7]
def AB3 {N:Nat} (hN:Bgn N) (haw:Bt N=some true) {p:A2} (hb:p.bulk≤16777216) {l:List A8} (hlb:l.length≤16777216) {w:Int} (hw0:0≤w) (hw1:w<256):Be N p l w=some true:=by
 unfold Be;have hpb:=FX p;obtain⟨b,h1,h2⟩:=AS8 hN hb (by omega) hlb;rw[h1,haw];simp only[A3]
 cases b with
 |false=>rw[A1 (show nt false=true from rfl)]
 |true=>
 rw[A0 (show¬nt true=true by decide)];obtain⟨h3,h4,h5⟩:=h2 rfl;obtain⟨b2,h6,h7⟩:=few4 hN l;rw[h6];simp only[A3]
 cases b2 with
 |false=>rw[A1 (show nt false=true from rfl)]
 |true=>
 rw[A0 (show¬nt true=true by decide),Ax9 hN hb];simp only[A3]
 by_cases hc:QV N p=0
 case neg=>rw[A1 (K0 hc)]
 rw[A0 (H7 hc),AU1 hN];simp only[A3]
 by_cases hcs:Al l=0∧l.length≠0
 case neg=>
  rw[A1];rw[N8,B0,D7,L9];simp only[Y7,Cp,Di,G1];omega
 obtain⟨hcs,hl0⟩:=hcs
 rw[A0 (by
  rw[N8,B0,D7,L9];simp only[Y7,Cp,Di,G1]
  omega)]
 obtain⟨r,L,e1,tl,rp,ra,rl,rz⟩:=AQ6 hN hb h3 h4 h5 hc hcs;rw[e1];simp only[A3];rw[A0 (H7 rfl),show FL (Ar.cmp .neq (Ar.len l) 0)=some () by unfold FL;rw[A1 (K0 (by rw[B0];omega))]];simp only[A3];rw[B0,AT8 hw0 hw1];have hk:w.toNat % l.length<l.length:=Ci _ (by omega)
 generalize w.toNat % l.length=k at hk ⊢
 have ec:P5 N l=some l:=by unfold P5;rw[S1 (by simp;omega)];rfl
 rw[ec];simp only[A3];rw[D0 (by omega) (by omega)]
 have ed:S7 N l (k:Int) ((k:Int)+1)=some (l.take k++l.drop (k+1)):=by
  unfold S7 SI;rw[A1 (by omega),show((k:Int)+1).toNat=k+1 by omega,R6];rfl
 rw[ed];simp only[A3];rw[JJ hk,E1,C0 hk];simp only[A3]
 have eu:FJ l (k:Int) (fun x335:A8=>{x335 with Typ:=ar .add .i64 l[k].Typ 1})=some (Jn l k (ar .add .i64 l[k].Typ 1)):=by
  unfold FJ Jn;rw[E1,C0 hk,R6];rfl
 rw[eu];simp only[A3];obtain⟨hwf,hpp⟩:=Ke hN hb hc
 have hl2:(l.take k++l.drop (k+1)).length≤4096:=by rw[G8,U3,IQ];omega
 have hl3:=Nl l k (ar .add .i64 l[k].Typ 1);refine DV (m:=r.length) (fun i (_:Unit)=>(i:Int)) (fun _ _=>True) (fun _=>Sum.inl ()) (t0:=()) rfl (by omega) trivial (fun i hi t _=>⟨(),?_,trivial⟩) (fun t _=>by rw[A0 Cv]) (fun t _=>rfl);obtain⟨t,ht,htd⟩:=List.mem_map.1 (rp.mem_iff.1 (E4 hi));obtain⟨t1,t2,t3,t4⟩:=tl.tr t ht;have hz:=rz _ (E4 hi)
 rw[htd]at t1 t2 t3
 rw[A1 (T8 (by omega)),E1,C0 hi];simp only[A3];rw[Az6 hN hb hc (by omega) hcs hz t1 t2 t4];simp only[A3]
 have hml:(Bc l t.1).cT.length≤10:=by have:=t4.gd.len;unfold Bc;rw[D4];omega
 rw[A0 (H7 rfl),Ab8 hN (by omega) (fun y=>decide (N9 y.Ref=W0 l[k])) (fun y _=>by
  unfold W7 Ko;rw[E1,C0 hk];simp only[A3];simp only[K5,D7,EK,N9,W0,U1,O3,E3]
  rw[Bool.eq_iff_iff];simp)]
 simp only[A3];rw[D0 (by omega) (by omega)]
 by_cases ha:(Bc l t.1).cT.any (fun y=>decide (N9 y.Ref=W0 l[k]))=true
 case neg=>rw[A1 (by rw[As]at ha;rw[ha];rfl)];rfl
 rw[A0 (by rw[ha];decide),ST hN hb hc hl2 (AP3 hcs) hz t1,ST hN hb hc (by omega) (At7 hcs) hz t1];simp only[A3];have hpm:=Am8 _ p [] 0 _ t2
 obtain⟨y,hy,hyr⟩:∃y∈Oh r[i] p,y.Ref=AJ l k:=by
  obtain⟨y,hy,h⟩:=List.any_eq_true.1 ha;refine⟨y,hpm.mem_iff.2 hy,?_⟩;have h:=GJ h;unfold AJ;rw[R6,C0 hk]
  unfold N9 W0 at h
  injection h with q1 q2
  injection q2 with q2 q3
  injection q3 with q3 q4
  dsimp only
  rw[←q1,←q2,←q3]
 rw[A1 (c:=(Oh r[i] p).any (fun y=> !(Cy (l.take k++l.drop (k+1)) y.Ref).isSome)=true) (List.any_eq_true.2 ⟨y,hy,by rw[hyr,AI4 (by omega) hcs hk];rfl⟩)];rw[A0 (H7 rfl)]
 have hpos:∀z∈Oh r[i] p,∃j,Cy l z.Ref=some j:=by
  intro z hz;obtain⟨x,hx,rfl⟩:=List.mem_map.1 (hpm.mem_iff.1 hz);obtain⟨_,a1,a2⟩:=t4.gd.wf x hx;obtain⟨j,hj⟩:∃j:Nat,x.At=j:=⟨x.At.toNat,by omega⟩;exact⟨j,by show Cy l (AJ l x.At)=_;rw[hj];exact AI5 (by omega) hcs (by omega)⟩
 rw[A0 (c:=(Oh r[i] p).any (fun y=> !(Cy (Jn l k (ar .add .i64 l[k].Typ 1)) y.Ref).isSome)=true) (by
  rw[GF];rintro⟨z,hz,h⟩;obtain⟨j,hj⟩:=hpos z hz
  rw[Ap2 (by omega) hcs hj]at h
  cases h)]
 have hk1:Cy l (AJ l k)=some k:=AI5 (by omega) hcs hk
 rw[AJ6 hk1 (Ap2 (by omega) hcs hk1) (fun q b b' h=>by
  obtain⟨e,q1,_,_,_,q2⟩:=YW (t:=ar .add .i64 l[k].Typ 1) (k:=k) hk
  unfold IH at h ⊢
  rw[q1]
  rw[C0 hk]at h
  simp only[K3,G1]at h
  have:e.Typ≠q.Typ:=by rw[q2 rfl,←h.1];exact An0 _
  simp[this]) r[i] p [] 0 [] 0 t.1 t2 ⟨y,hy,hyr⟩]
 simp only[GL,J2,G0];rw[A0 (H7 rfl)];rfl
end
end Go.Ab
namespace Go.Ab
open Go.RowKit Go.ChangeShapes Go.WideShapes Go.ChangeAt Go.Proofs Go.Proofs.YtjhobbohibnioaaGreatDoor
set_option maxRecDepth 100000
mutual
def AO4:B5→V
 |⟨op,args,var,field,kind,val⟩=>.agg [.int .i64 op,.sl (Aa3 args) .ro,.int .i64 var,.int .i64 field,.int .i64 kind,.int .i64 val.Kind,.int .i64 val.Num,.str val.Text]
def Aa3:List B5→List V
 |[]=>[]
 |a::r=>AO4 a::Aa3 r
end
def Wg:∀l:List B5,Aa3 l=l.map AO4
 |[]=>by simp[Aa3]
 |a::r=>by simp[Aa3,Wg r]
mutual
def AZ0:A2→V
 |⟨op,args,typ,var,scope,span,c⟩=>.agg [.int .i64 op,.sl (Aa2 args) .ro,.int .i64 typ,.int .i64 var,.int .i64 scope,.int .i64 span,.int .i64 c.Op,.sl (c.cQ.map AO4) .ro,.int .i64 c.Var,.int .i64 c.Field,.int .i64 c.Kind,.int .i64 c.Value.Kind,.int .i64 c.Value.Num,.str c.Value.Text]
def Aa2:List A2→List V
 |[]=>[]
 |a::r=>AZ0 a::Aa2 r
end
def Wf:∀l:List A2,Aa2 l=l.map AZ0
 |[]=>by simp[Aa2]
 |a::r=>by simp[Aa2,Wf r]
mutual
def Aa5:A4→V
 |⟨r,c,ks⟩=>.agg [.int .i64 r.Time,.int .i64 r.Source,.int .i64 r.Seq,.int .i64 c,.sl (Aa4 ks) .ro]
def Aa4:List A4→List V
 |[]=>[]
 |a::r=>Aa5 a::Aa4 r
end
def Wh:∀l:List A4,Aa4 l=l.map Aa5
 |[]=>by simp[Aa4]
 |a::r=>by simp[Aa4,Wh r]
noncomputable def QT (x:A9):V:=.agg [.int .i64 x.Kind,.int .i64 x.Num,.str x.Text]
noncomputable def NE (x:A8):V:=.agg [.int .i64 x.Source,.int .i64 x.Seq,.int .i64 x.Typ,.int .i64 x.Time,.sl (lst QT x.Values) .ro]
noncomputable def AZ1 (x:T4):V:=.agg [.int .i64 x.Time,.int .i64 x.Source,.int .i64 x.Seq]
noncomputable def RO (x:C1):V:=.agg [.int .i64 x.Var,.int .i64 x.Ref.Time,.int .i64 x.Ref.Source,.int .i64 x.Ref.Seq]
noncomputable def AB7 (x:DX):V:=.agg [.sl (lst RO x.cT) .ro]
noncomputable def Lx (x:E6):V:=.agg [.sl (lst NE x.cU) .ro,.int .i64 x.count]
noncomputable def DW (x:A6):V:=.agg [.int .i64 x.v,.int .i64 x.at_]
noncomputable def MT (x:A7):V:=.agg [.int .i64 x.d.Ref.Time,.int .i64 x.d.Ref.Source,.int .i64 x.d.Ref.Seq,.int .i64 x.d.Choice,.sl (lst Aa5 x.d.Kids) .ro,.sl (lst DW x.s) .ro]
noncomputable def Lw (x:B2):V:=.agg [.int .i64 x.d.Ref.Time,.int .i64 x.d.Ref.Source,.int .i64 x.d.Ref.Seq,.int .i64 x.d.Choice,.sl (lst Aa5 x.d.Kids) .ro,.bool x.ok]
noncomputable def NQ (x:KE):V:=.agg [.sl (lst NE x.cU) .ro,.bool x.full]
noncomputable def Hs (x:AR):V:=.agg [.int .i64 x.cZ,.int .i64 x.at_]
noncomputable def NP (x:I1):V:=.agg [.int .i64 x.source,.int .i64 x.seq]
noncomputable def NR (x:C5):V:=.agg [.int .i64 x.node,.int .i64 x.first,.int .i64 x.last,.int .i64 x.outer]
noncomputable def Cx (x:B6):V:=.agg [.int .i64 x.Var,.int .i64 x.At]
noncomputable def Lc (x:B4):V:=.agg [.sl (lst Cx x.s) .ro,.int .i64 x.d.Ref.Time,.int .i64 x.d.Ref.Source,.int .i64 x.d.Ref.Seq,.int .i64 x.d.Choice,.sl (lst Aa5 x.d.Kids) .ro]
noncomputable def Qg (x:Q6):V:=.agg [.int .i64 x.cX,.int .i64 x.most,.bool x.cS,.bool x.cond,.bool x.scope,.bool x.span]
noncomputable def Pb (x:List A8):V:=.sl (lst NE x) .ro
noncomputable def AZ2 (x:CY):V:=.agg [.sl (lst Pb x.cY) .ro]
noncomputable def Pc (x:T3):V:=.agg [.sl (lst Pb x.env.cY) .ro,.int .i64 x.own,.int .i64 x.event.Source,.int .i64 x.event.Seq,.int .i64 x.event.Typ,.int .i64 x.event.Time,.sl (lst QT x.event.Values) .ro,.fmap XA Xz]
noncomputable def Sk (x:D3):V:=.agg [.int .i64 x.Kind,.int .i64 x.Count,.int .i64 x.Value.Kind,.int .i64 x.Value.Num,.str x.Value.Text]
noncomputable def Sj (x:List A4):V:=.sl (lst Aa5 x) .ro
noncomputable def MS (x:List A6):V:=.sl (lst DW x) .ro
noncomputable def Hc (x:List AR):V:=.sl (lst Hs x) .ro
noncomputable def Lv (x:List (List AR)):V:=.sl (lst Hc x) .ro
noncomputable def KA (x:List B6):V:=.sl (lst Cx x) .ro
noncomputable instance encsInst :R0 where
 eBo9:=QT
 eBp4:=fun _=>rfl
 eBp5:=AO4
 eBp7:=fun⟨_,_,_,_,_,_⟩=>by simp only[AO4,Wg];rfl
 eBo6:=AZ0
 eBo7:=fun⟨_,_,_,_,_,_,_⟩=>by simp only[AZ0,Wf];rfl
 eBo2:=NE
 eBo8:=fun _=>rfl
 eBp8:=AZ1
 eBq6:=fun _=>rfl
 eBo5:=RO
 eBp1:=fun _=>rfl
 eBr3:=AB7
 eBs4:=fun _=>rfl
 eBo3:=Aa5
 eBo4:=fun⟨_,_,_⟩=>by simp only[Aa5,Wh];rfl
 eBr4:=Lx
 eBs5:=fun _=>rfl
 eBo1:=DW
 eBp0:=fun _=>rfl
 eBr5:=MT
 eBs6:=fun _=>rfl
 eBp3:=Lw
 eBq7:=fun _=>rfl
 eBr6:=NQ
 eBs7:=fun _=>rfl
 eBq9:=Hs
 eBs8:=fun _=>rfl
 eBq0:=NP
 eBq3:=fun _=>rfl
 eBp2:=NR
 eBq8:=fun _=>rfl
 eBq5:=Cx
 eBs9:=fun _=>rfl
 eBr7:=Lc
 eBt0:=fun _=>rfl
 eBr0:=Qg
 eBs3:=fun _=>rfl
 eBr8:=AZ2
 eBt1:=fun _=>rfl
 eBr9:=Pc
 eBt2:=fun _=>rfl
 eBs0:=Sk
 eBt3:=fun _=>rfl
 eBp9:=Pb
 eBr2:=fun _=>rfl
 eBp6:=Sj
 eBq2:=fun _=>rfl
 eBq1:=MS
 eBq4:=fun _=>rfl
 eBs1:=Lv
 eBt4:=fun _=>rfl
 eBr1:=Hc
 eBt5:=fun _=>rfl
 eBs2:=KA
 eBt6:=fun _=>rfl
def VO {α:Type}(f:α→Nat):List α→Nat
 |[]=>1
 |a::l=>f a+VO f l
def Aq9 {α:Type}{f:α→Nat}(hf:∀a,1≤f a):∀l:List α,l.length+1≤VO f l
 |[]=>by simp[VO]
 |b::l=>by have:=hf b;have:=Aq9 hf l;simp only[VO,G7];omega
section
variable [O6]{H:Type}{enc:TypeId×Value→H}{W:World}{base:Nat}{spare:Nat→Bool}{held:Bool}
abbrev bk (d:DataW H):Nat:=Rows.uptoBulk d
noncomputable def Xx (P:Program)(t:TypeId):Array Field:=match P.underlying t with|some (.struct fs)=>fs|_=> #[]
def P0 {P:Program} {t ty off sz:Nat} {xs:List (DataW H×List MemPlace)} {cs:List Value} {n:Nat} (hl:xs.length=(Xx P t).size)
 (hf:∀(i:Nat) (f:Field),(Xx P t)[i]? =some f→DataW.trod enc P W base spare held n f.type ((cs.drop f.offset).take (P.cellsOf f.type))=xs[i]?) (i:Nat)
 (h:((Xx P t)[i]?.map fun f=>(f.type,f.offset,P.cellsOf f.type))=some (ty,off,sz)):∃y,xs[i]? =some y∧DataW.trod enc P W base spare held n ty ((cs.drop off).take sz)=some y:=by
 cases hi:(Xx P t)[i]? with
 |none=>rw[hi]at h;cases h
 |some f=>
  rw[hi]at h
  simp only[K2,E3,GD]at h
  obtain⟨rfl,rfl,rfl⟩:=h;exact Ak7 hl hf i hi
def Cc.down {α:Type}{P:Program}{t:TypeId}{f:α→V}{R:α→DataW H→Prop}{n:Nat}(h:Cc enc P W base spare held t f R (n+1)):Cc enc P W base spare held t f R n:=fun cs x hx=>h cs x (DataW.trod_le (Nat.le_succ n) hx)
def Cc.imp {α:Type}{P:Program}{t:TypeId}{f:α→V}{R R':α→DataW H→Prop}{n:Nat}(h:Cc enc P W base spare held t f R n)(hi:∀a d,R a d→R' a d):Cc enc P W base spare held t f R' n:=fun cs x hx=>by
 obtain⟨a,r,q⟩:=h cs x hx;exact⟨a,r,hi _ _ q⟩
def Cc.congr {α:Type}{P:Program}{t:TypeId}{f g:α→V}{R:α→DataW H→Prop}{n:Nat}(h:Cc enc P W base spare held t f R n)(hg:∀x,f x=g x):Cc enc P W base spare held t g R n:=fun cs x hx=>by
 obtain⟨a,r,q⟩:=h cs x hx;exact⟨a,by rw[←hg];exact r,q⟩
def Bc7 {α:Type} {f:α→Nat}:∀(l:List α) (ds:List (DataW H)),RL (fun a d=>f a≤bk d) l ds→VO f l≤Rows.uptoBulkAll ds+1
 |[],ds,h=>by simp[VO]
 |a::l,[],h=>by have:=h.1;simp at this
 |a::l,d::ds,h=>by
  have h1:f a≤bk d:=h.2 0 a d rfl rfl;have h2:=Bc7 l ds ⟨by simpa using h.1,fun i a d hi hd=>h.2 (i+1) a d (by simpa using hi) (by simpa using hd)⟩;simp only[VO,Rows.uptoBulkAll];have h3:bk d=Rows.uptoBulk d:=rfl;omega
def Ao8 {α:Type}{f:α→Nat}{l:List α}{d:DataW H}(h:RS (fun a d=>f a≤bk d) l d):VO f l≤bk d:=by
 obtain⟨_,h⟩:=h
 rcases h with⟨rfl,rfl⟩|⟨es,sp,rfl,h⟩
 ·simp[bk,Rows.uptoBulk,VO]
 have:=Bc7 l es h;simp only[bk,Rows.uptoBulk];omega
def Ac5:∀l:List B5,B5.bulks l=VO B5.bulk l
 |[]=>by simp[B5.bulks,VO]
 |a::l=>by simp[B5.bulks,VO,Ac5 l]
def AP7 {l:List B5}{d:DataW H}(h:RS (fun a d=>B5.bulk a≤bk d) l d):B5.bulks l≤bk d:=by rw[Ac5];exact Ao8 h
def Wv:∀l:List A2,A2.bulks l=VO A2.bulk l
 |[]=>by simp[A2.bulks,VO]
 |a::l=>by simp[A2.bulks,VO,Wv l]
def Ac6 {l:List A2}{d:DataW H}(h:RS (fun a d=>A2.bulk a≤bk d) l d):A2.bulks l≤bk d:=by rw[Wv];exact Ao8 h
def Bg9 {β:Type}{xs:List β}{a b c:β}(hl:xs.length=3)(h0:xs[0]? =some a)(h1:xs[1]? =some b)(h2:xs[2]? =some c):xs=[a,b,c]:=by
 match xs,hl with
 |[x0,x1,x2],_=>simp at h0 h1 h2;rw[h0,h1,h2]
def Bg8 {β:Type}{xs:List β}{a b c d e:β}(hl:xs.length=5)(h0:xs[0]? =some a)(h1:xs[1]? =some b)(h2:xs[2]? =some c)(h3:xs[3]? =some d)(h4:xs[4]? =some e):xs=[a,b,c,d,e]:=by
 match xs,hl with
 |[x0,x1,x2,x3,x4],_=>simp at h0 h1 h2 h3 h4;rw[h0,h1,h2,h3,h4]
def AM3 {β:Type}{xs:List β}{a b c d e f:β}(hl:xs.length=6)(h0:xs[0]? =some a)(h1:xs[1]? =some b)(h2:xs[2]? =some c)(h3:xs[3]? =some d)(h4:xs[4]? =some e)(h5:xs[5]? =some f):xs=[a,b,c,d,e,f]:=by
 match xs,hl with
 |[x0,x1,x2,x3,x4,x5],_=>simp at h0 h1 h2 h3 h4 h5;rw[h0,h1,h2,h3,h4,h5]
def Bg7 {β:Type}{xs:List β}{a b c d e f g:β}(hl:xs.length=7)(h0:xs[0]? =some a)(h1:xs[1]? =some b)(h2:xs[2]? =some c)(h3:xs[3]? =some d)(h4:xs[4]? =some e)(h5:xs[5]? =some f)(h6:xs[6]? =some g):xs=[a,b,c,d,e,f,g]:=by
 match xs,hl with
 |[x0,x1,x2,x3,x4,x5,x6],_=>simp at h0 h1 h2 h3 h4 h5 h6;rw[h0,h1,h2,h3,h4,h5,h6]
def u27:Tryz.prog.underlying 27=some (.struct (Xx Tryz.prog 27)):=by kernel_rfl
def u23:Tryz.prog.underlying 23=some (.slice 27):=by kernel_rfl
def u3:Tryz.prog.underlying 3=some (.int .i64):=by kernel_rfl
def Ez (n:Nat):Cc enc Tryz.prog W base spare held 3 (V.int .i64) (fun a d=>(fun _:Int=>1) a≤bk d) n:=(QH u3).imp fun a d h=>by subst h;simp[bk,Rows.uptoBulk]
def u25:Tryz.prog.underlying 25=some (.struct (Xx Tryz.prog 25)):=by kernel_rfl
def u9:Tryz.prog.underlying 9=some .string:=by kernel_rfl
def Bf8 (n:Nat):Cc enc Tryz.prog W base spare held 9 V.str (fun a d=>(fun s:ByteArray=>s.size+1) a≤bk d) n:=(Ay5 u9).imp fun a d h=>by obtain⟨rfl,_⟩:=h;simp[bk,Rows.uptoBulk]
def A9.mu (x:A9):Nat:=(fun _:Int=>1) x.Kind+(fun _:Int=>1) x.Num+(fun s:ByteArray=>s.size+1) x.Text+1
def Ap6 (n:Nat):Cc enc Tryz.prog W base spare held 25 R0.eBo9 (fun(a:A9) d=>A9.mu a≤bk d) n:=by
 intro cs x h;obtain⟨xs,m,hm,rfl,hcl,hl,hf⟩:=GI u25 h;subst hm;obtain⟨y0,k0,t0⟩:=P0 hl hf 0 (ty:=3) (off:=0) (sz:=1) (by kernel_rfl);obtain⟨y1,k1,t1⟩:=P0 hl hf 1 (ty:=3) (off:=1) (sz:=1) (by kernel_rfl);obtain⟨y2,k2,t2⟩:=P0 hl hf 2 (ty:=9) (off:=2) (sz:=1) (by kernel_rfl);have hxs:=Bg9 (hl.trans (by kernel_rfl)) k0 k1 k2;obtain⟨a0,r0,q0⟩:=Ez _ _ _ t0;obtain⟨a1,r1,q1⟩:=Ez _ _ _ t1;obtain⟨a2,r2,q2⟩:=Bf8 _ _ _ t2;refine⟨⟨a0,a1,a2⟩,?_,?_⟩
 ·have hc3:cs.length=3:=hcl.trans (by kernel_rfl);have:=(r0.join r1).join r2;rw[R0.eBp4]
  simp only[lst_eq]at this ⊢
  simpa[Av,hc3,V.cells]using this
 simp only[bk]at q0 q1 q2
 rw[hxs];simp only[D9,H6,bk,Rows.uptoBulk,Rows.uptoBulkAll,A9.mu];omega
def AV7:∀n:Nat,Cc enc Tryz.prog W base spare held 27 R0.eBp5 (fun(a:B5) d=>B5.bulk a≤bk d) n:=by
 intro n
 induction n with
 |zero=>intro cs x h;simp[DataW.trod]at h
 |succ n ih=>
 intro cs x h;obtain⟨xs,m,hm,rfl,hcl,hl,hf⟩:=GI u27 h;cases hm;obtain⟨y0,k0,t0⟩:=P0 hl hf 0 (ty:=3) (off:=0) (sz:=1) (by kernel_rfl);obtain⟨y1,k1,t1⟩:=P0 hl hf 1 (ty:=23) (off:=1) (sz:=1) (by kernel_rfl);obtain⟨y2,k2,t2⟩:=P0 hl hf 2 (ty:=3) (off:=2) (sz:=1) (by kernel_rfl);obtain⟨y3,k3,t3⟩:=P0 hl hf 3 (ty:=3) (off:=3) (sz:=1) (by kernel_rfl);obtain⟨y4,k4,t4⟩:=P0 hl hf 4 (ty:=3) (off:=4) (sz:=1) (by kernel_rfl);obtain⟨y5,k5,t5⟩:=P0 hl hf 5 (ty:=25) (off:=5) (sz:=3) (by kernel_rfl);have hxs:=AM3 (hl.trans (by kernel_rfl)) k0 k1 k2 k3 k4 k5;obtain⟨a0,r0,q0⟩:=Ez _ _ _ t0
 obtain⟨a1,r1,q1⟩:∃a:List B5,Gq (g0 W) W ((cs.drop 1).take 1) (V.sl (a.map R0.eBp5) .ro).cells∧B5.bulks a≤bk y1.1:=by
  cases n with
  |zero=>simp[DataW.trod]at t1
  |succ n=>
   obtain⟨a,r,q⟩:=JA u23 (show 0<Tryz.prog.cellsOf 27 by rw[show Tryz.prog.cellsOf 27=8 by kernel_rfl];decide) ih.down _ _ t1;exact⟨a,r,AP7 q⟩
 obtain⟨a2,r2,q2⟩:=Ez _ _ _ t2;obtain⟨a3,r3,q3⟩:=Ez _ _ _ t3;obtain⟨a4,r4,q4⟩:=Ez _ _ _ t4;obtain⟨a5,r5,q5⟩:=Ap6 _ _ _ t5;refine⟨⟨a0,a1,a2,a3,a4,a5⟩,?_,?_⟩
 ·have hc3:cs.length=8:=hcl.trans (by kernel_rfl)
  rw[R0.eBp4]at r5
  have:=((((r0.join r1).join r2).join r3).join r4).join r5;rw[R0.eBp7]
  simp only[lst_eq]at this ⊢
  simpa[Av,hc3,V.cells]using this
 simp only[bk]at q0 q1 q2 q3 q4 q5
 rw[hxs]
 simp only[D9,H6,bk,Rows.uptoBulk,Rows.uptoBulkAll,B5.bulk,A9.mu]at *
 omega
def u29:Tryz.prog.underlying 29=some (.struct (Xx Tryz.prog 29)):=by kernel_rfl
def u22:Tryz.prog.underlying 22=some (.slice 29):=by kernel_rfl
def AV6:∀n:Nat,Cc enc Tryz.prog W base spare held 29 R0.eBo6 (fun(a:A2) d=>A2.bulk a≤bk d) n:=by
 intro n
 induction n with
 |zero=>intro cs x h;simp[DataW.trod]at h
 |succ n ih=>
 intro cs x h;obtain⟨xs,m,hm,rfl,hcl,hl,hf⟩:=GI u29 h;cases hm;obtain⟨y0,k0,t0⟩:=P0 hl hf 0 (ty:=3) (off:=0) (sz:=1) (by kernel_rfl);obtain⟨y1,k1,t1⟩:=P0 hl hf 1 (ty:=22) (off:=1) (sz:=1) (by kernel_rfl);obtain⟨y2,k2,t2⟩:=P0 hl hf 2 (ty:=3) (off:=2) (sz:=1) (by kernel_rfl);obtain⟨y3,k3,t3⟩:=P0 hl hf 3 (ty:=3) (off:=3) (sz:=1) (by kernel_rfl);obtain⟨y4,k4,t4⟩:=P0 hl hf 4 (ty:=3) (off:=4) (sz:=1) (by kernel_rfl);obtain⟨y5,k5,t5⟩:=P0 hl hf 5 (ty:=3) (off:=5) (sz:=1) (by kernel_rfl);obtain⟨y6,k6,t6⟩:=P0 hl hf 6 (ty:=27) (off:=6) (sz:=8) (by kernel_rfl);have hxs:=Bg7 (hl.trans (by kernel_rfl)) k0 k1 k2 k3 k4 k5 k6;obtain⟨a0,r0,q0⟩:=Ez _ _ _ t0
 obtain⟨a1,r1,q1⟩:∃a:List A2,Gq (g0 W) W ((cs.drop 1).take 1) (V.sl (a.map R0.eBo6) .ro).cells∧A2.bulks a≤bk y1.1:=by
  cases n with
  |zero=>simp[DataW.trod]at t1
  |succ n=>
   obtain⟨a,r,q⟩:=JA u22 (show 0<Tryz.prog.cellsOf 29 by rw[show Tryz.prog.cellsOf 29=14 by kernel_rfl];decide) ih.down _ _ t1;exact⟨a,r,Ac6 q⟩
 obtain⟨a2,r2,q2⟩:=Ez _ _ _ t2;obtain⟨a3,r3,q3⟩:=Ez _ _ _ t3;obtain⟨a4,r4,q4⟩:=Ez _ _ _ t4;obtain⟨a5,r5,q5⟩:=Ez _ _ _ t5;obtain⟨a6,r6,q6⟩:=AV7 _ _ _ t6;refine⟨⟨a0,a1,a2,a3,a4,a5,a6⟩,?_,?_⟩
 ·have hc3:cs.length=14:=hcl.trans (by kernel_rfl)
  rw[R0.eBp7]at r6
  have:=(((((r0.join r1).join r2).join r3).join r4).join r5).join r6;rw[R0.eBo7]
  simp only[lst_eq]at this ⊢
  simpa[Av,hc3,V.cells]using this
 simp only[bk]at q0 q1 q2 q3 q4 q5 q6
 rw[hxs]
 simp only[D9,H6,bk,Rows.uptoBulk,Rows.uptoBulkAll,A2.bulk,A9.mu]at *
 omega
def u78:Tryz.prog.underlying 78=some (.struct (Xx Tryz.prog 78)):=by kernel_rfl
def u76:Tryz.prog.underlying 76=some (.slice 25):=by kernel_rfl
def AV4 (n:Nat):Cc enc Tryz.prog W base spare held 76 (fun l:List A9=>.sl (lst R0.eBo9 l) .ro) (fun a d=>(VO A9.mu) a≤bk d) n:=
 Cc.down (((JA u76 (show 0<Tryz.prog.cellsOf 25 by rw[show Tryz.prog.cellsOf 25=3 by kernel_rfl];decide) (Ap6 n)).imp fun a d h=>Ao8 h).congr fun x=>by rw[lst_eq])
def A8.mu (x:A8):Nat:=(fun _:Int=>1) x.Source+(fun _:Int=>1) x.Seq+(fun _:Int=>1) x.Typ+(fun _:Int=>1) x.Time+(VO A9.mu) x.Values+1
def AV3 (n:Nat):Cc enc Tryz.prog W base spare held 78 R0.eBo2 (fun(a:A8) d=>A8.mu a≤bk d) n:=by
 intro cs x h;obtain⟨xs,m,hm,rfl,hcl,hl,hf⟩:=GI u78 h;subst hm;obtain⟨y0,k0,t0⟩:=P0 hl hf 0 (ty:=3) (off:=0) (sz:=1) (by kernel_rfl);obtain⟨y1,k1,t1⟩:=P0 hl hf 1 (ty:=3) (off:=1) (sz:=1) (by kernel_rfl);obtain⟨y2,k2,t2⟩:=P0 hl hf 2 (ty:=3) (off:=2) (sz:=1) (by kernel_rfl);obtain⟨y3,k3,t3⟩:=P0 hl hf 3 (ty:=3) (off:=3) (sz:=1) (by kernel_rfl);obtain⟨y4,k4,t4⟩:=P0 hl hf 4 (ty:=76) (off:=4) (sz:=1) (by kernel_rfl);have hxs:=Bg8 (hl.trans (by kernel_rfl)) k0 k1 k2 k3 k4;obtain⟨a0,r0,q0⟩:=Ez _ _ _ t0;obtain⟨a1,r1,q1⟩:=Ez _ _ _ t1;obtain⟨a2,r2,q2⟩:=Ez _ _ _ t2;obtain⟨a3,r3,q3⟩:=Ez _ _ _ t3;obtain⟨a4,r4,q4⟩:=AV4 _ _ _ t4;refine⟨⟨a0,a1,a2,a3,a4⟩,?_,?_⟩
 ·have hc3:cs.length=5:=hcl.trans (by kernel_rfl);have:=(((r0.join r1).join r2).join r3).join r4;rw[R0.eBo8]
  simp only[lst_eq]at this ⊢
  simpa[Av,hc3,V.cells]using this
 simp only[bk]at q0 q1 q2 q3 q4
 rw[hxs];simp only[D9,H6,bk,Rows.uptoBulk,Rows.uptoBulkAll,A8.mu];omega
def u30:Tryz.prog.underlying 30=some (.slice 78):=by kernel_rfl
def AV5 (n:Nat):Cc enc Tryz.prog W base spare held 30 (fun l:List A8=>.sl (lst R0.eBo2 l) .ro) (fun a d=>(VO A8.mu) a≤bk d) n:=
 Cc.down (((JA u30 (show 0<Tryz.prog.cellsOf 78 by rw[show Tryz.prog.cellsOf 78=5 by kernel_rfl];decide) (AV3 n)).imp fun a d h=>Ao8 h).congr fun x=>by rw[lst_eq])
def T4.mu (x:T4):Nat:=(fun _:Int=>1) x.Time+(fun _:Int=>1) x.Source+(fun _:Int=>1) x.Seq+1
def XO {v:Value}{d:DataW H}{p:List MemPlace}(hv:Value.okWide Tryz.prog W .any base 29 v)(h:DataW.Trod enc Tryz.prog W 0 (fun _=>true) true 29 v d p):∃x:A2,VR (g0 W) W v (R0.eBo6 x)∧A2.bulk x≤Rows.uptoBulk d:=by
 obtain⟨fuel,ht⟩:=h;obtain⟨cs,rfl,hcs⟩:=okWide_struct u29 hv;obtain⟨x,hr,hb⟩:=AV6 fuel _ _ ht;have hr':Gq (g0 W) W cs.toList (R0.eBo6 x).cells:=hr;refine⟨x,?_,hb⟩;have:=hr'.agg
 rw[R0.eBo7]at this ⊢
 exact this
def Ac8 {v:Value}{d:DataW H}{p:List MemPlace}(hv:Value.okWide Tryz.prog W .any base 30 v)(h:DataW.Trod enc Tryz.prog W 0 (fun _=>true) true 30 v d p):∃x:List A8,VR (g0 W) W v (.sl (lst R0.eBo2 x) .ro)∧(VO A8.mu) x≤Rows.uptoBulk d:=by
 obtain⟨fuel,ht⟩:=h;obtain⟨a,len,cap,rfl⟩:=okWide_slice u30 hv;obtain⟨x,hr,hb⟩:=AV5 fuel _ _ ht;exact⟨x,(hr.2 0 (by simp[V.cells])).2,hb⟩
def u4:Tryz.prog.underlying 4=some .bool:=by kernel_rfl
def AX5 {f:FuncId}{vals:Array Value}{args:List V}(hg:∀n,VR (g0 W) W (.pointer (some ⟨n,0,none⟩)) (O6.gl n))(hcall:∀vals w,(callFunc f vals).run Tryz.prog w= .ok (.enter f vals) w)(law:C2 Tryz.prog f args (.bool true))(hA:Args (g0 W) W vals args):
 Calls Tryz.prog f vals W fun e W'=>e= .returned (.bool true)∧Below W.heap.size W W':=by
 have hc:=law (fun _=>none) (g0 W) W vals (rl0 hg) hA
 rw[hcall]at hc
 refine(callsIn_wide.1 hc).mono fun e W' ⟨v,he,g',y,H',hs,hR,hvy,hy,_⟩=>?_;subst hy;cases hvy;exact⟨he,hs.low⟩
def Bn5 {v0 v1 v2:Value}{x0 x1 x2:V}(h0:VR (g0 W) W v0 x0)(h1:VR (g0 W) W v1 x1)(h2:VR (g0 W) W v2 x2):Args (g0 W) W #[v0,v1,v2] [x0,x1,x2]:=⟨rfl,fun i hi=>by
 match i,hi with
 |0,_=>exact h0
 |1,_=>exact h1
 |2,_=>exact h2⟩
end
end Go.Ab
namespace Go.Ab
open Go.RowKit Go.ChangeShapes Go.WideShapes Go.ChangeAt Go.Proofs Go.Proofs.YtjhobbohibnioaaGreatDoor
set_option maxRecDepth 100000
section
variable [O6]{H:Type}{enc:TypeId×Value→H}{W:World}{base:Nat}{spare:Nat→Bool}{held:Bool}
def Bi2 {v:Value}(hv:Value.okWide Tryz.prog W .any base 5 v):∃n:Int,VR (g0 W) W v (.int .u8 n)∧0≤n∧n<256:=by
 have ht:Tryz.prog.underlying 5=some (.int .u8):=by kernel_rfl
 obtain⟨n,rfl⟩:=okWide_int ht hv;refine⟨n,.int _ _,?_⟩
 simp only[Value.okWide,ht,Cell.okWide,Cell.ok,IntKind.has]at hv
 have a:IntKind.u8.min=0:=by rfl
 have b:IntKind.u8.max=255:=by rfl
 simp only[a,b,G1,K3]at hv
 omega
end
section
variable {H:Type}{enc:TypeId×Value→H}{W:World}{base:Nat}{spare:Nat→Bool}{held:Bool}
def u220:Tryz.prog.underlying 220=some (.array N2.length 219):=by kernel_rfl
def u219:Tryz.prog.underlying 219=some (.struct (Xx Tryz.prog 219)):=by kernel_rfl
def Ai3 (n:Nat):Cc enc Tryz.prog W base spare held 219 R0.eBr0 (fun(a:Q6) d=>d= .agg [.lit (.int .i64 a.cX),.lit (.int .i64 a.most),.lit (.bool a.cS),.lit (.bool a.cond),.lit (.bool a.scope),.lit (.bool a.span)]) n:=by
 intro cs x h;obtain⟨xs,m,rfl,rfl,hcl,hl,hf⟩:=GI u219 h;obtain⟨y0,k0,t0⟩:=P0 hl hf 0 (ty:=3) (off:=0) (sz:=1) (by kernel_rfl);obtain⟨y1,k1,t1⟩:=P0 hl hf 1 (ty:=3) (off:=1) (sz:=1) (by kernel_rfl);obtain⟨y2,k2,t2⟩:=P0 hl hf 2 (ty:=4) (off:=2) (sz:=1) (by kernel_rfl);obtain⟨y3,k3,t3⟩:=P0 hl hf 3 (ty:=4) (off:=3) (sz:=1) (by kernel_rfl);obtain⟨y4,k4,t4⟩:=P0 hl hf 4 (ty:=4) (off:=4) (sz:=1) (by kernel_rfl);obtain⟨y5,k5,t5⟩:=P0 hl hf 5 (ty:=4) (off:=5) (sz:=1) (by kernel_rfl);have hxs:=AM3 (hl.trans (by kernel_rfl)) k0 k1 k2 k3 k4 k5;obtain⟨a0,r0,q0⟩:=QH u3 _ _ t0;obtain⟨a1,r1,q1⟩:=QH u3 _ _ t1;obtain⟨a2,r2,q2⟩:=KR u4 _ _ t2;obtain⟨a3,r3,q3⟩:=KR u4 _ _ t3;obtain⟨a4,r4,q4⟩:=KR u4 _ _ t4;obtain⟨a5,r5,q5⟩:=KR u4 _ _ t5;refine⟨⟨a0,a1,a2,a3,a4,a5⟩,?_,?_⟩
 ·have hc3:cs.length=6:=hcl.trans (by kernel_rfl);have:=((((r0.join r1).join r2).join r3).join r4).join r5;rw[R0.eBs3]
  simpa[Av,hc3,V.cells]using this
 rw[hxs];simp only[D9,H6,q0,q1,q2,q3,q4,q5]
def VA:∀(l k:List Q6),(RL (H:=H) (fun(a:Q6) d=>d= .agg [.lit (.int .i64 a.cX),.lit (.int .i64 a.most),.lit (.bool a.cS),.lit (.bool a.cond),.lit (.bool a.scope),.lit (.bool a.span)]) l
 (k.map fun a=>.agg [.lit (.int .i64 a.cX),.lit (.int .i64 a.most),.lit (.bool a.cS),.lit (.bool a.cond),.lit (.bool a.scope),.lit (.bool a.span)]))→l=k
 |[],[],_=>rfl
 |[],_::_,h=>by have:=h.1;simp at this
 |_::_,[],h=>by have:=h.1;simp at this
 |a::l,b::k,h=>by
  have h0:=h.2 0 a _ rfl rfl;have h1:=VA l k ⟨by simpa using h.1,fun i a d hi hd=>h.2 (i+1) a d (by simpa using hi) (by simpa using hd)⟩;subst h1;obtain⟨a0,a1,a2,a3,a4,a5⟩:=a;obtain⟨b0,b1,b2,b3,b4,b5⟩:=b
  simp at h0
  simp[h0]
def ZN (h:laidMetH Tryz.prog Rows.derivationComparesRow.laid W):VR (g0 W) W (.pointer (some ⟨0,0,none⟩)) (O6.gl 0):=by
 have h':laidMet Tryz.prog Rows.derivationComparesRow.laid W:=h;obtain⟨ps,⟨g',t',cs,fuel,p,q,hg',ht',hvar,hd,_,_⟩,_⟩:=h';obtain rfl:g'=0:=Co (hg'.symm.trans (by kernel_rfl));obtain rfl:t'=220:=Co (ht'.symm.trans (by kernel_rfl));obtain⟨l,hr,ds,hds,hl⟩:=Zs u220 (by kernel_rfl) (by decide) (fun n=>Ai3 n) hd
 have e:ds=N2.map fun a=>.agg [.lit (.int .i64 a.cX),.lit (.int .i64 a.most),.lit (.bool a.cS),.lit (.bool a.cond),.lit (.bool a.scope),.lit (.bool a.span)]:=by
  have e2:(Rows.laid_tidegate_pattern_shapes:DataW Unit)= .agg ds:=hds;have e3:(Rows.laid_tidegate_pattern_shapes:DataW Unit)= .agg (N2.map fun a=>.agg [.lit (.int .i64 a.cX),.lit (.int .i64 a.most),.lit (.bool a.cS),.lit (.bool a.cond),.lit (.bool a.scope),.lit (.bool a.span)]):=rfl
  rw[e3]at e2
  exact(DataW.agg.inj e2).symm
 subst e;obtain rfl:=VA _ _ hl;exact ZR hg' hvar hr
def Bh2 (h:laidMetH Tryz.prog Rows.derivationComparesRow.laid W):∀n,VR (g0 W) W (.pointer (some ⟨n,0,none⟩)) (O6.gl n)
 |0=>ZN h
 |_+1=>.bad _
end
end Go.Ab
