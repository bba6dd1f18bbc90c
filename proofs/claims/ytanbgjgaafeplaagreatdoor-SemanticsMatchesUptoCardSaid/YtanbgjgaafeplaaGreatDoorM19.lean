/- GTX2 GTX3 GTIn GTPr -/
import Derived.Test.YtanbgjgaafeplaaGreatDoorM18
import Derived.Test.YtanbgjgaafeplaaGreatDoorRows
import Derived.WalkKit
import Derived.ProofKit
import Derived.OpenShut
import Derived.Deep.DeepHandedRow
import Derived.Carry
import Derived.Test.YtanbgjgaafeplaaGreatDoorTie
set_option linter.all false
open Go.Ab.Ar (ar cmp lst lst_eq nt)
namespace Go.Ab
open Classical
noncomputable section
def KJ (l:List A7)(i:Int):Hx:=match l[i.toNat]? with|some e=>⟨e.Time,e.Source,e.Seq⟩|none=>⟨0,0,0⟩
def Ap (l:List A7)(s:List PR):E4:=⟨s.map fun x=>⟨x.Var,KJ l x.At⟩⟩
theorem II (l:List A7)(s:List PR):(Ap l s).cO.length=s.length:=by simp[Ap]
theorem TJ {l:List A7}{i:Int}(h0:0≤i)(h1:i<l.length):∃e,B6 l i=some e∧(⟨e.Time,e.Source,e.Seq⟩:Hx)=KJ l i:=by
 obtain⟨i,rfl⟩:=Int.eq_ofNat_of_zero_le h0
 have hi:i<l.length:=by omega
 exact⟨l[i],Et hi,by simp[KJ,hi]⟩
theorem YM {l:List A7} (hl:l.length≤10) (hc:MN l=0) {i j:Int} (hi:0≤i∧i<l.length) (hj:0≤j∧j<l.length) (h:KJ l i=KJ l j):i=j:=by
 obtain⟨i,rfl⟩:=Int.eq_ofNat_of_zero_le hi.1;obtain⟨j,rfl⟩:=Int.eq_ofNat_of_zero_le hj.1
 have hi':i<l.length:=by omega
 have hj':j<l.length:=by omega
 have hk:Ac l[i]=Ac l[j]:=by
  simp only[KJ,Int.toNat_natCast,List.getElem?_eq_getElem hi',List.getElem?_eq_getElem hj',Hx.mk.injEq]at h
  simp[Ac,h.1,h.2.1,h.2.2]
 rcases Nat.lt_trichotomy i j with e|e|e
 ·obtain⟨d,rfl⟩:∃d,j=i+d+1:=⟨j - i - 1,by omega⟩;have:=Uq hl hc d i hj' hi' hj'
  rw[hk,Ft]at this;omega
 ·omega
 obtain⟨d,rfl⟩:∃d,i=j+d+1:=⟨i - j - 1,by omega⟩;have:=Uq hl hc d j hi' hj' hi'
 rw[hk,Ft]at this;omega
theorem Mr {l:List A7} (hl:l.length≤10) (hc:MN l=0):∀{a b:List PR},RI l a→RI l b→(Ap l a).cO=(Ap l b).cO→a=b
 |[],[],_,_,_=>rfl
 |[],_::_,_,_,h=>by simp[Ap]at h
 |_::_,[],_,_,h=>by simp[Ap]at h
 | x::a,y::b,ha,hb,h=>by
  simp only[Ap,List.map_cons,List.cons.injEq,E0.mk.injEq]at h
  have e:=YM hl hc (ha x (by simp)).2 (hb y (by simp)).2 h.1.2
  have hxy:x=y:=by
   cases x;cases y
   simp only[A2.mk.injEq]at *
   exact⟨h.1.1,e⟩
  rw[hxy,Mr hl hc (fun z hz=>ha z (by simp[hz])) (fun z hz=>hb z (by simp[hz])) h.2]
theorem QZ :∀{a b:List E0},Ng a=Ng b→a=b
 |[],[],_=>rfl
 |[],_::_,h=>by simp[Ng,BY]at h
 |_::_,[],h=>by simp[Ng,BY]at h
 | x::a,y::b,h=>by
  simp only[Ng,List.flatMap_cons,BY,List.cons_append,List.nil_append,List.cons.injEq]at h
  obtain⟨h1,h2,h3,h4,h5⟩:=h
  have hxy:x=y:=by
   obtain⟨v,t,s,q⟩:=x;obtain⟨v',t',s',q'⟩:=y
   simp only at h1 h2 h3 h4
   rw[h1,h2,h3,h4]
  rw[hxy,QZ h5]
theorem Zl {a b:List E0}(h:mO a b=0):a=b:=QZ (Ud (by rw[←NJ];exact h))
theorem TY (a:List E0):mO a a=0:=by rw[NJ,Ft]
theorem Xt (a b:List E0):mO b a= - mO a b:=by rw[NJ,NJ,QX]
theorem QR {a b c:List E0}(h1:mO a b<0)(h2:mO b c<0):mO a c<0:=by rw[NJ]at *;exact IL h1 h2
def Tr (r:List E4):Prop:=r.Pairwise fun a b=>mO a.cO b.cO<0
theorem Ac7 {N:Nat} (hN:40000000≤N) {L r:List E4} (hp:r.Perm L) (ha:Tr r) (hb:∀x∈r,x.cO.length≤1000000) (hl:L.length≤1000000):GL (fun y1 y2=>Am N y1 y2) L=some r:=by
 refine PV hp (BH.2 ⟨fun a h=>?_,?_⟩) (by omega)
 ·unfold Ys
  dsimp only
  rw[OT hN (hb a h) (hb a h),TY];rfl
 refine List.Pairwise.imp_of_mem (fun{x y} hx hy hlt=>?_) ha
 constructor
 ·unfold OU
  dsimp only
  rw[OT hN (hb x hx) (hb y hy)];exact decide_eq_true hlt
 unfold Ys
 dsimp only
 rw[OT hN (hb y hy) (hb x hx),Xt];exact decide_eq_true (by omega)
theorem IT {α:Type}{f:α→E0}:∀(s:List α) (m:E4),s.foldl (fun m x=>⟨m.cO++[f x]⟩) m=⟨m.cO++s.map f⟩
 |[],⟨a⟩=>by simp
 |x::s,m=>by rw[List.foldl_cons,IT s];simp
theorem Ve {N:Nat} (hN:40000000≤N) {l:List A7} {s:List PR} (hs:s.length≤1000000) (hw:RI l s):Z1 N l s=some (Ap l s):=by
 unfold Z1
 rw[(Fs (L:=s) (N:=N) (fun(m:E4) i=>(i,m)) (fun m x=>⟨m.cO++[⟨x.Var,KJ l x.At⟩]⟩) (fun m=>m) (fun i m=>m.cO.length=i) (by omega) (by omega) rfl (fun m i x hx hi hm e hl=>by
  obtain⟨e',h1,h2⟩:=TJ (hw x hm).2.1 (hw x hm).2.2;rw[if_pos (P3 hi),C7,hx];simp only[Option.bind_some];rw[h1];simp only[Option.bind_some,Ct];rw[M2 (by simp;omega),e,h2]
  exact⟨rfl,by simp[hl]⟩) (fun m=>by dsimp only;rw[if_neg S4])).1,IT]
 rfl
theorem XF {N:Nat} (hN:40000000≤N) {m:E4} (hm:m.cO.length≤1000000) {out:List E4} (ho:∀x∈out,x.cO.length≤1000000) (hl:out.length≤1000000) (ha:Tr out) (hn:∀x∈out,mO m.cO x.cO≠0):
 ∃ k, k≤out.length∧loopN
  (fun(s8:Int)=>
   (
    if cmp .gtr s8 0=true then
     (WT (Yr out (ar .sub .i64 s8 1))).bind fun _=>
     (B6 out (ar .sub .i64 s8 1)).bind fun x10=>
     (M6 N m x10).bind fun r11=>
     if cmp .lss r11 0=true then
      some (.inl (ar .sub .i64 s8 1))
     else
      some (.inr s8)
    else
     some (.inr s8)
    :Option ((Int) ⊕ (Int))))
  N (Ar.len out)=some (k:Int)∧Tr (out.take k++[m]++out.drop k):=by
 have key:∀(k M:Nat),k≤out.length→k<M→(∀x∈out.drop k,mO m.cO x.cO<0)→∃k',k'≤out.length∧loopN
  (fun(s8:Int)=>
   (
    if cmp .gtr s8 0=true then
     (WT (Yr out (ar .sub .i64 s8 1))).bind fun _=>
     (B6 out (ar .sub .i64 s8 1)).bind fun x10=>
     (M6 N m x10).bind fun r11=>
     if cmp .lss r11 0=true then
      some (.inl (ar .sub .i64 s8 1))
     else
      some (.inr s8)
    else
     some (.inr s8)
    :Option ((Int) ⊕ (Int))))
  M (k:Int)=some (k':Int)∧(∀x∈out.drop k',mO m.cO x.cO<0)∧(∀x∈out.take k',mO x.cO m.cO<0):=by
  intro k
  induction k with
  |zero=>
   intro M _ hM hd;obtain⟨M,rfl⟩:∃m,M=m+1:=⟨M - 1,by omega⟩;refine⟨0,by omega,rfl,hd,by simp⟩
  | succ k ih=>
   intro M hk hM hd;obtain⟨M,rfl⟩:∃m,M=m+1:=⟨M - 1,by omega⟩
   have hlt:k<out.length:=by omega
   have hmem:out[k]∈out:=List.getElem_mem hlt
   have e1:ar .sub .i64 ((k+1:Nat):Int) 1=(k:Int):=by rw[FN (by omega) (by omega)];omega
   have hr:WT (Yr out (k:Int))=some ():=by
    unfold WT Yr;rw[if_pos]
    simp;omega
   by_cases hc:mO m.cO out[k].cO<0
   ·obtain⟨k',h1,h2,h3⟩:=ih M (by omega) (by omega) (fun x hx=>by
     rw[List.drop_eq_getElem_cons hlt]at hx
     rcases List.mem_cons.1 hx with rfl|hx
     ·exact hc
     exact hd x hx)
    refine⟨k',h1,?_,h3⟩;unfold loopN;rw[if_pos (X0 (by omega)),e1,hr,C7,List.getElem?_eq_getElem hlt];simp only[Option.bind_some];rw[OH hN hm (ho _ hmem)];simp only[Option.bind_some];rw[if_pos (Av hc)];exact h2
   have hgt:mO out[k].cO m.cO<0:=by
    have:=hn _ hmem;rw[Xt];omega
   refine⟨k+1,hk,?_,hd,fun x hx=>?_⟩
   ·unfold loopN;rw[if_pos (X0 (by omega)),e1,hr,C7,List.getElem?_eq_getElem hlt];simp only[Option.bind_some];rw[OH hN hm (ho _ hmem)];simp only[Option.bind_some];rw[if_neg (W9 hc)]
   rw[List.take_succ_eq_append_getElem hlt]at hx
   rcases List.mem_append.1 hx with hx|hx
   ·obtain⟨j,hj,e⟩:=List.getElem_of_mem hx
    rw[List.length_take]at hj
    have hjk:j<k:=by omega
    rw[List.getElem_take]at e
    have:=List.pairwise_iff_getElem.1 ha j k (by omega) hlt hjk
    rw[e]at this
    exact QR this hgt
   rw[List.mem_singleton.1 hx];exact hgt
 obtain⟨k',h1,h2,h3,h4⟩:=key out.length N (Nat.le_refl _) (by omega) (by simp);refine⟨k',h1,h2,?_⟩
 unfold Tr at ha ⊢
 rw[List.pairwise_append,List.pairwise_append];refine⟨⟨ha.sublist (List.take_sublist _ _),by simp,fun a h b hb=>?_⟩,ha.sublist (List.drop_sublist _ _),fun a h b hb=>?_⟩
 ·rw[List.mem_singleton.1 hb];exact h4 a h
 rcases List.mem_append.1 h with h|h
 ·exact QR (h4 a h) (h3 b hb)
 rw[List.mem_singleton.1 h];exact h3 b hb
theorem Sb {α:Type}{l:List α}{k:Nat}(h:k≤l.length):N1 l none (some (k:Int)) none=some (l.take k):=by
 unfold N1;rw[if_pos (by simp;omega)];simp
theorem Tb {α:Type}{l:List α}{k:Nat}(h:k≤l.length):N1 l (some (k:Int)) none none=some (l.drop k):=by
 unfold N1;rw[if_pos (by simp;omega)];simp only[Option.getD_some,Option.getD_none,Int.toNat_natCast];rw[List.take_of_length_le (by simp)]
theorem YR {N :Nat} (hN:40000000≤N) {l:List A7} (hl:l.length≤10) (hc:MN l=0) {L:List (List PR)} (hL:L.length≤1500) (hn:L.Nodup) (hg:∀s∈L,Gd l s) {p:A1} (h:J9 N N p l [] 0=some L):
 ∃r,Fk N p l=some r∧Tr r∧r.Perm (L.map (Ap l)):=by
 unfold Fk;rw[h];simp only[Option.bind_some]
 rw [F5 L (by omega) (mk:=fun(m:List E4) i=>(i,m)) (body:=fun out x=>(Z1 N l x).bind fun m=>(loopN
  (fun(s8:Int)=>
   (
    if cmp .gtr s8 0=true then
     (WT (Yr out (ar .sub .i64 s8 1))).bind fun _=>
     (B6 out (ar .sub .i64 s8 1)).bind fun x10=>
     (M6 N m x10).bind fun r11=>
     if cmp .lss r11 0=true then
      some (.inl (ar .sub .i64 s8 1))
     else
      some (.inr s8)
    else
     some (.inr s8)
    :Option ((Int) ⊕ (Int))))
  N (Ar.len out)).bind fun s9=>
  (N1 out (some s9) none none).bind fun l13=>
  (H8 [] l13).bind fun l15=>
  (N1 out none (some s9) none).bind fun l17=>
  (H8 l17 ([m])).bind fun l19=>
  (H8 l19 l15).bind fun l21=>some (.inl l21)) (fin:=fun m=>m) (s:=[]) (by omega) ?_ ?_]
 ·obtain ⟨s', h1,p,h2,h3,h4⟩:=V9 (R:=List E4) (step:=fun(out:List E4) (x:List PR)=>(Z1 N l x).bind fun m=>(loopN
          (fun(s8:Int)=>
           (
            if cmp .gtr s8 0=true then
             (WT (Yr out (ar .sub .i64 s8 1))).bind fun _=>
             (B6 out (ar .sub .i64 s8 1)).bind fun x10=>
             (M6 N m x10).bind fun r11=>
             if cmp .lss r11 0=true then
              some (.inl (ar .sub .i64 s8 1))
             else
              some (.inr s8)
            else
             some (.inr s8)
            :Option ((Int) ⊕ (Int))))
          N (Ar.len out)).bind fun s9=>
   (N1 out (some s9) none none).bind fun l13=>
   (H8 [] l13).bind fun l15=>
   (N1 out none (some s9) none).bind fun l17=>
   (H8 l17 ([m])).bind fun l19=>
   (H8 l19 l15).bind fun l21=>some (.inl l21))
   (fun r m=>∃p,p++r=L∧Tr m∧m.Perm (p.map (Ap l))) (fun x r m ⟨p,e1,e2,e3⟩=>by
    have hx:x∈L:=by rw[←e1];simp
    have hxl:=(hg x hx).len
    have hpl:p.length≤1500:=by have:=congrArg List.length e1;simp at this;omega
    have hml:m.length≤1500:=by have:=e3.length_eq;rw[List.length_map]at this;omega
    have hmm:∀y∈m,∃t∈p,y=Ap l t:=fun y hy=>by
     obtain⟨t,ht,e⟩:=List.mem_map.1 (e3.mem_iff.1 hy);exact⟨t,ht,e.symm⟩
    have hpL:∀t∈p,t∈L:=fun t ht=>by rw[←e1];simp[ht]
    obtain⟨k,k1,k2,k3⟩:=XF hN (m:=Ap l x) (by rw[II];omega) (out:=m) (fun y hy=>by
     obtain⟨t,ht,rfl⟩:=hmm y hy;have:=(hg t (hpL t ht)).len
     rw[II];omega) (by omega) e2 (fun y hy e=>by
     obtain⟨t,ht,rfl⟩:=hmm y hy;have hxt:=Mr hl hc (hg x hx).wf (hg t (hpL t ht)).wf (Zl e);subst hxt
     rw[←e1,List.nodup_append]at hn
     exact hn.2.2 x ht x (by simp) rfl)
    refine⟨_,?_,p++[x],by simpa using e1,k3,?_⟩
    ·rw[Ve hN (by omega) (hg x hx).wf];simp only[Option.bind_some];rw[k2];simp only[Option.bind_some];rw[Tb k1,Sb k1];simp only[Option.bind_some];rw[M2 (by simp;omega),M2 (by simp;omega)];simp only[Option.bind_some];rw[M2 (by simp;omega)];rfl
    rw[List.map_append,List.map_cons,List.map_nil];refine List.Perm.trans ?_ (e3.append_right _);rw[List.append_assoc];refine(List.perm_append_comm.append_left _).trans ?_
    rw[←List.append_assoc,List.take_append_drop]) (l:=L) (s:=[]) ⟨[],rfl,List.Pairwise.nil,.refl _⟩
  rw[h1];simp only[Option.bind_some]
  rw[List.append_nil]at h2
  exact⟨s',rfl,h3,by rw[←h2];exact h4⟩
 ·intro m i x hx hi;have e:ar .add .i64 (i:Int) 1=i+1:=C4 (by omega) (by omega);have c1:cmp .lss (i:Int) (Ar.len L)=true:=Av (by rw[B1];exact hi);simp only[c1,if_true,C7,hx,Option.bind_some,e]
  cases Z1 N l x with
  |none=>rfl
  | some q=>
   simp only[Option.bind_some]
   generalize (loopN
    (fun(s8:Int)=>
     (
      if cmp .gtr s8 0=true then
       (WT (Yr m (ar .sub .i64 s8 1))).bind fun _=>
       (B6 m (ar .sub .i64 s8 1)).bind fun x10=>
       (M6 N q x10).bind fun r11=>
       if cmp .lss r11 0=true then
        some (.inl (ar .sub .i64 s8 1))
       else
        some (.inr s8)
      else
       some (.inr s8)
      :Option ((Int) ⊕ (Int))))
    N (Ar.len m))=lo
   cases lo with
   |none=>rfl
   | some s9=>
    simp only[Option.bind_some]
    cases N1 m (some s9) none none with
    |none=>rfl
    | some a=>
     simp only[Option.bind_some]
     cases H8 [] a with
     |none=>rfl
     | some b=>
      simp only[Option.bind_some]
      cases N1 m none (some s9) none with
      |none=>rfl
      | some c=>
       simp only[Option.bind_some]
       cases H8 c [q]with
       |none=>rfl
       |some d=>
        simp only[Option.bind_some];cases H8 d b<;>rfl
 intro s;simp[C2,B1]
end
end Go.Ab
namespace Go.Ab
open Classical
noncomputable section
theorem EW (p:A1):(A1.pres p.cL).length+1=p.pre.length:=by rw[A1.pre_eq p];simp
theorem VN {N:Nat} (hN:40000000≤N):∀(n:Nat) (p:A1),p.pre.length≤n→p.pre.length≤16777216→T5 N n p=some (EO p:Int):=by
 intro n
 induction n with
 |zero=>intro p h;have:=EW p;omega
 | succ n ih=>
  intro p h hb;have hp:=EW p;have hal:=Bw p;unfold T5
  have h0:((if cmp .eql p.Op 0=true then some 1 else some 0:Option Int))=some (if p.Op=0 then 1 else 0):=by
   rw[C0]
   by_cases h:p.Op=0<;>simp[h]
  rw[h0];simp only[Option.bind_some];rw[F5 p.cL (by omega) (mk:=fun(s:Int) i=>(s,i)) (body:=fun s q=>(T5 N n q).bind fun r=>some (.inl (ar .add .i64 s r))) (fin:=fun s=>s) (s:=if p.Op=0 then 1 else 0) (by omega) ?_ ?_]
  ·obtain⟨s',h1,q,h2,h3⟩:=V9 (R:=Int) (step:=fun(s:Int) q=>(T5 N n q).bind fun r=>some (.inl (ar .add .i64 s r)))
    (fun r s=>∃q,q++r=p.cL∧s=((if p.Op=0 then 1 else 0:Int)+((A1.pres q).countP fun y=>decide (y.Op=0):Nat))) (fun x r s ⟨q,e1,e2⟩=>by
     have hx:x∈p.cL:=by rw[←e1];simp
     have hxl:=O5 hx
     have hq:(A1.pres q).length≤(A1.pres p.cL).length:=by rw[←e1,BO];simp
     have hc:=List.countP_le_length (p:=fun y:A1=>decide (y.Op=0)) (l:=A1.pres q);have hc2:=List.countP_le_length (p:=fun y:A1=>decide (y.Op=0)) (l:=x.pre);rw[ih x (by omega) (by omega)];refine⟨_,rfl,q++[x],by simpa using e1,?_⟩;have he:(EO x:Int)=((x.pre.countP fun y=>decide (y.Op=0):Nat):Int):=rfl;rw[e2,BO,List.countP_append]
     have:A1.pres [x]=x.pre:=by simp[A1.pres]
     rw[this,he,C4 (by split<;>omega) (by split<;>omega)]
     omega) (l:=p.cL) (s:=if p.Op=0 then 1 else 0) ⟨[],rfl,by simp[A1.pres]⟩
   rw[h1];simp only[Option.bind_some]
   rw[List.append_nil]at h2
   rw[h3,h2,Fc]
   by_cases h:p.Op=0<;>simp[h]
  ·intro s i x hx hi;have e:ar .add .i64 (i:Int) 1=i+1:=C4 (by omega) (by omega);simp only[C2,B1,hi,decide_true,if_true,C7,hx,Option.bind_some,e];cases T5 N n x<;>rfl
  intro s;simp[C2,B1]
theorem QB (f:A1→Bool):∀r:List A1,(A1.pres r).any f=r.any fun x=>x.pre.any f
 |[]=>rfl
 |a::r=>by simp only[A1.pres,List.any_append,List.any_cons,QB f r]
theorem Zt {N:Nat} (hN:40000000≤N):∀(n:Nat) (p:A1),p.pre.length≤n→p.pre.length≤16777216→Y4 N n p=some (p.pre.any fun y=>decide (y.Op=4)):=by
 intro n
 induction n with
 |zero=>intro p h;have:=EW p;omega
 | succ n ih=>
  intro p h hb;have hp:=EW p;have hal:=Bw p;unfold Y4;rw[A1.pre_eq p,List.any_cons]
  by_cases h4:p.Op=4
  ·rw[if_pos (by rw[C0];exact decide_eq_true h4)];simp[h4]
  rw[if_neg (by rw[C0];simpa using h4)]
  rw [BQ (l:=p.cL) (fun x=>x.pre.any fun y=>decide (y.Op=4)) (by omega) (by omega) (fun i x hx hi=>by
      have hm:=List.mem_of_getElem? hx;have hxl:=O5 hm;have e:ar .add .i64 (i:Int) 1=i+1:=C4 (by omega) (by omega);simp only[C2,B1,hi,decide_true,if_true,C7,hx,Option.bind_some,e,ih x (by omega) (by omega)]
      split<;>rfl) (by simp[C2,B1])]
  rw[QB];simp only[h4,decide_false,Bool.false_or]
  by_cases ha:(p.cL.any fun x=>x.pre.any fun y=>decide (y.Op=4))=true
  ·rw[if_pos ha,ha];rfl
  rw[if_neg ha]
  rw[Bool.not_eq_true]at ha
  rw[ha];rfl
theorem QC {N:Nat} (hN:40000000≤N) {b n:Nat} (hb:b≤20000000) (hn:n≤20000000):∃r,BI N (b:Int) (n:Int) 1500=some r∧(r≤1500→r=((b ^ n:Nat):Int)):=by
 unfold BI
 have key:∀(k i M:Nat) (out:Int),i+k=n→k<M→out=((b ^ i:Nat):Int)→out≤30000000000→∃r,loopN
  (fun(s1:Int×Int)=>
   (
    if Ar.an (cmp .lss s1.2 (n:Int)) (cmp .leq s1.1 1500)=true then
     some (.inl (ar .mul .i64 s1.1 (b:Int),ar .add .i64 s1.2 1))
    else
     some (.inr s1.1)
    :Option ((Int×Int) ⊕ (Int))))
  M (out,(i:Int))=some r∧(r≤1500→r=((b ^ n:Nat):Int)):=by
  intro k
  induction k with
  |zero=>
   intro i M out hi hM ho _;obtain⟨M,rfl⟩:∃m,M=m+1:=⟨M - 1,by omega⟩;refine⟨out,?_,fun _=>by rw[ho,show i=n by omega]⟩;unfold loopN
   dsimp only
   rw[if_neg (by simp only[L7,C2];simp;omega)]
  | succ k ih=>
   intro i M out hi hM ho hs;obtain⟨M,rfl⟩:∃m,M=m+1:=⟨M - 1,by omega⟩
   have h0:0≤out:=by rw[ho];omega
   by_cases hle:out≤1500
   ·have hmul:out*(b:Int)≤1500*20000000:=Int.mul_le_mul hle (by omega) (by omega) (by omega);have hmul0:0≤out*(b:Int):=Int.mul_nonneg h0 (by omega);have em:ar .mul .i64 out (b:Int)=out*(b:Int):=AF (by omega) (by omega);have e:ar .add .i64 (i:Int) 1=i+1:=C4 (by omega) (by omega);obtain⟨r,h1,h2⟩:=ih (i+1) M (out*(b:Int)) (by omega) (by omega) (by rw[ho,Nat.pow_succ];simp) (by omega);refine⟨r,?_,h2⟩;unfold loopN
    dsimp only
    rw[if_pos (by simp only[L7,C2,Ce];simp;omega),em,e,show((i:Int)+1)=((i+1:Nat):Int) by omega];exact h1
   refine⟨out,?_,fun h=>absurd h hle⟩;unfold loopN
   dsimp only
   rw[if_neg (by simp only[L7,C2,Ce];simp;omega)]
 obtain⟨r,h1,h2⟩:=key n 0 N 1 (by omega) (by omega) (by simp) (by omega);have h0:((0:Nat):Int)=0:=rfl
 rw[h0]at h1
 exact⟨r,by rw[h1];rfl,h2⟩
theorem WE {N:Nat} (hN:40000000≤N) {p:A1} (hb:p.bulk≤16777216) {l:List A7} (hlb:l.length≤16777216):∃b,CR N p l=some b∧(b=true→l.length≤10∧((EO p+1) ^ l.length≤1500∨(CG p∧l.length ^ EO p≤1500))):=by
 obtain⟨few,hf⟩:=few9 hN hb;have hpb:=DY p;have hev:EO p≤p.pre.length:=List.countP_le_length;unfold CR;rw[hf];simp only[Option.bind_some]
 by_cases h1:Ar.or (nt few) (cmp .gtr (Ar.len l) 10)=true
 ·rw[if_pos h1];exact⟨false,rfl,fun h=>by cases h⟩
 rw[if_neg h1]
 have hl:l.length≤10:=by
  simp only[I8,Q3,Q6,B1]at h1
  simp at h1
  omega
 rw[BQ (l:=l) (fun x=>cmp .gtr (Ar.len x.Values) 9) (by omega) (by omega) (fun i x hx hi=>by
  have e:ar .add .i64 (i:Int) 1=i+1:=C4 (by omega) (by omega);rw[if_pos (P3 hi),C7,hx];simp only[Option.bind_some,e]
  split<;>rfl) (by rw[if_neg S4])]
 simp only[Option.bind_some]
 by_cases h2:(l.any fun x=>cmp .gtr (Ar.len x.Values) 9)=true
 ·rw[if_pos h2];exact⟨false,rfl,fun h=>by cases h⟩
 rw[if_neg h2]
 dsimp only
 rw[VN hN N p (by omega) (by omega),Zt hN N p (by omega) (by omega)];simp only[Option.bind_some];obtain⟨r1,h3,h4⟩:=QC hN (b:=EO p+1) (n:=l.length) (by omega) (by omega);obtain⟨r2,h5,h6⟩:=QC hN (b:=l.length) (n:=EO p) (by omega) (by omega);rw[C4 (a:=(EO p:Int)) (by omega) (by omega),show((EO p:Int)+1)=((EO p+1:Nat):Int) by omega,B1,h3];simp only[Option.bind_some]
 by_cases h7:r1≤1500
 ·rw[if_pos (show cmp .leq r1 1500=true from decide_eq_true h7)];exact⟨true,rfl,fun _=>⟨hl,.inl (by have:=h4 h7;omega)⟩⟩
 rw[if_neg (show¬(cmp .leq r1 1500=true) by rw[Ce];simpa using h7)]
 cases hp:p.pre.any fun y=>decide (y.Op=4)with
 |true=>
  rw[if_neg (show¬nt true=true by decide)];exact⟨false,rfl,fun h=>by cases h⟩
 | false=>
  rw[if_pos (show nt false=true from rfl),h5];refine⟨decide (r2≤1500),rfl,fun h=>⟨hl,.inr ⟨fun y hy e=>?_,?_⟩⟩⟩
  ·rw[List.any_eq_false]at hp
   exact hp y hy (decide_eq_true e)
  have h8:=of_decide_eq_true h;have:=h6 h8;omega
theorem Ac8 {p:A1}{l:List A7}(hp:p.pre.length≤64)(hs:(EO p+1) ^ l.length≤1500∨(CG p∧l.length ^ EO p≤1500)):Ja l.length p:=by
 rcases hs with h|⟨h1,h2⟩
 ·exact .inl h
 by_cases h3:2≤l.length
 ·exact .inr ⟨h1,h3,h2⟩
 left
 have hev:EO p≤p.pre.length:=List.countP_le_length
 have:l.length=0∨l.length=1:=by omega
 rcases this with h|h<;>rw[h]<;>simp<;>omega
theorem Xq {p:A1}{l:List A7}(hp:p.pre.length≤64)(hl:l.length≤10):mu l p 0≤1000:=by
 unfold mu;have:=Nat.mul_le_mul hp (show l.length+2≤12 by omega);omega
theorem Mg (l:List A7):Il l [] ((0:Nat):Int):=⟨Gd.nil l,fun _ h=>absurd h List.not_mem_nil,by omega,by omega⟩
theorem ZG {N:Nat} (hN:40000000≤N) {p:A1} (hb:p.bulk≤16777216) {l:List A7} (hl:l.length≤10) (hs:(EO p+1) ^ l.length≤1500∨(CG p∧l.length ^ EO p≤1500)):
 ∃r e,O1 N p l=some (r,e)∧Bn N p l=some (r,e)∧(∀x∈r,x.cO.length≤10)∧r.length≤1500∧(e=0→Rs N p=0∧MN l=0∧Tr r∧∃L:List (List PR),L.Nodup∧(∀s,s∈L↔Sm l p [] 0 s)∧r.Perm (L.map (Ap l)))∧(e≠0→r=[])∧CS N p l=some e:=by
 unfold O1 Bn CS;rw[Vo hN hb,Vj hN hb];simp only[Option.bind_some]
 by_cases h1:Rs N p=0
 ·rw [if_neg (J7 h1),if_neg (J7 h1),YI hN,YQ hN];simp only[Option.bind_some]
  by_cases h2:MN l=0
  ·rw[if_neg (J7 h2),if_neg (J7 h2)];obtain⟨hw,hp⟩:=UA hN hb h1;have hsm:=Ac8 hp hs;have hmu:=Xq hp hl;obtain⟨L1,a1,a2,a3⟩:=Vb hN hl 1000 p [] 0 N hmu (by omega) hp hw hsm (Mg l);obtain⟨L2,b1,b2,b3⟩:=(Ad0 hN hl 1000 p [] 0 N hmu (by omega) hp hw hsm (Mg l)).1;have hcL1:=Fe hw hsm (Mg l) a2 fun s h=>(a3 s).1 h;have hcL2:=Ku hw hsm (Mg l) ⟨b2,fun s h=>(b3 s).1 h⟩;have hres:∀s∈L2,JU l 0 s:=fun s h=>((b3 s).1 h).res hw (Mg l);obtain⟨r,r1,r2,r3⟩:=YR hN hl h2 hcL2 b2 (fun s h=>(hres s h).gd) b1
   have hperm:(L1.map G9).Perm L2:=by
    refine(List.perm_ext_iff_of_nodup ?_ b2).2 fun s=>?_
    ·rw[List.Nodup,List.pairwise_map];exact a2.imp fun hne e=>hne (HF e)
    rw[b3,List.mem_map]
    constructor
    ·rintro⟨t,ht,rfl⟩;exact(a3 t).1 ht
    intro h;exact⟨s.map Jm,(a3 _).2 (by rw[P1];exact h),P1 s⟩
   have hrl:r.length≤1500:=by have:=r3.length_eq;rw[List.length_map]at this;omega
   have hrb:∀x∈r,x.cO.length≤10:=fun x hx=>by
    obtain⟨t,ht,rfl⟩:=List.mem_map.1 (r3.mem_iff.1 hx);have:=(hres t ht).gd.len;rw[II];omega
   have h00:((0:Nat):Int)=0:=rfl
   rw[h00]at a1
   refine⟨r,0,?_,by rw[r1];rfl,hrb,hrl,fun _=>⟨h1,h2,r2,L2,b2,b3,r3⟩,fun h=>absurd rfl h,by rw[h2]⟩;rw[a1];simp only[Option.bind_some]
   rw[(Fs (L:=L1) (N:=N) (fun(m:List E4) i=>(i,m)) (fun m s=>m++[Ap l (G9 s)]) (fun m=>m) (fun i m=>m.length=i) (by omega) (by omega) rfl (fun m i s hs' hi hm e hl=>by
    have gs:=(((a3 s).1 hm).res hw (Mg l)).gd;have hsl:=gs.len
    rw[List.length_map]at hsl
    rw[if_pos (P3 hi),C7,hs'];simp only[Option.bind_some]
    rw[(Fs (L:=s) (N:=N) (fun(m:E4) i=>(i,m)) (fun m x=>⟨m.cO++[⟨x.cR,KJ l x.at_⟩]⟩) (fun m=>m) (fun i m=>m.cO.length=i) (by omega) (by omega) rfl (fun m i x hx hi hm e hl=>by
     have hw:=gs.wf (pr x) (List.mem_map.2 ⟨x,hm,rfl⟩);obtain⟨e',h1,h2⟩:=TJ (l:=l) (i:=x.at_) hw.2.1 hw.2.2;rw[if_pos (P3 hi),C7,hx];simp only[Option.bind_some];rw[h1];simp only[Option.bind_some,Cz];rw[M2 (by simp;omega),e,h2]
     exact⟨rfl,by simp[hl]⟩) (fun m=>by dsimp only;rw[if_neg S4])).1,IT]
    simp only[Option.bind_some,List.nil_append];rw[M2 (by simp;omega),e];refine⟨?_,by simp[hl]⟩;simp only[Option.bind_some,Ap,G9,List.map_map]
    rfl) (fun m=>by dsimp only;rw[if_neg S4])).1]
   have hf:∀(L:List (List BD)) (m:List E4),L.foldl (fun m s=>m++[Ap l (G9 s)]) m=m++L.map fun s=>Ap l (G9 s):=fun L=>by
    induction L with
    |nil=>intro m;simp
    |cons a L ih=>intro m;rw[List.foldl_cons,ih];simp
   rw[hf,List.nil_append];simp only[Option.bind_some];rw[Ac7 hN (r:=r) ?_ r2 (fun x hx=>by have:=hrb x hx;omega) (by simp;omega)]
   ·rfl
   have:=(hperm.map (Ap l))
   rw[List.map_map]at this
   exact r3.trans this.symm
  rw[if_pos (K1 h2),if_pos (K1 h2)];exact⟨[],_,rfl,rfl,by simp,by simp,fun h=>absurd h h2,fun _=>rfl,rfl⟩
 simp only[K1 h1,if_true,Option.bind_some];exact⟨[],_,rfl,rfl,by simp,by simp,fun h=>absurd h h1,fun _=>rfl,rfl⟩
theorem Vc {N:Nat} (hN:40000000≤N) {r:List E4} (hr:r.length≤1000000) (hb:∀x∈r,x.cO.length≤1000000):DR N r r=some true:=by
 unfold DR;rw[if_neg (by rw[F6];simp)]
 rw [BQ (l:=r) (fun _=>false) (by omega) (by omega) (fun i x hx hi=>by
     have e:ar .add .i64 (i:Int) 1=i+1:=C4 (by omega) (by omega);have hm:=List.mem_of_getElem? hx;rw[if_pos (P3 hi),C7,hx];simp only[Option.bind_some];rw[OH hN (hb x hm) (hb x hm),TY];simp only[Option.bind_some,e]
     rfl) (by rw[if_neg S4])]
 simp
theorem QQ {N:Nat} (hN:40000000≤N) (awake:BR N=some true) {p:A1} (hb:p.bulk≤1048576) {l:List A7} (hl:l.length≤1048576):T8 N p l=some true:=by
 unfold T8;obtain⟨b,h1,h2⟩:=WE hN (p:=p) (by omega) (l:=l) (by omega);rw[h1];simp only[Option.bind_some]
 cases b with
 |false=>rw[if_pos (show nt false=true from rfl),awake];rfl
 |true=>
  rw[if_neg (show¬nt true=true by decide)];obtain⟨hl10,hs⟩:=h2 rfl;obtain⟨r,e,k1,k2,k3,k4,_⟩:=ZG hN (show p.bulk≤16777216 by omega) hl10 hs;unfold W5;rw[k1,k2];simp only[Option.bind_some];rw[Vc hN (by omega) fun x hx=>by have:=k3 x hx;omega];simp only[Option.bind_some];rw[if_pos (by simp[L7,C0]),awake];rfl
end
end Go.Ab
namespace Go.Ab
open Go.RowKit Go.ChangeShapes Go.WideShapes Go.ChangeAt Go.Proofs Go.Proofs.YtanbgjgaafeplaaGreatDoor
set_option maxRecDepth 100000
mutual
def XY :B0→V
 |⟨op,args,var,field,kind,val⟩=>.agg [.int .i64 op,.sl (Rn args) .ro,.int .i64 var,.int .i64 field,.int .i64 kind,.int .i64 val.Kind,.int .i64 val.Num,.str val.Text]
def Rn :List B0→List V
 |[]=>[]
 |a::r=>XY a::Rn r
end
theorem NW :∀l:List B0,Rn l=l.map XY
 |[]=>by simp[Rn]
 |a::r=>by simp[Rn,NW r]
mutual
def ZD :A1→V
 |⟨op,args,typ,var,scope,span,c⟩=>.agg [.int .i64 op,.sl (Rm args) .ro,.int .i64 typ,.int .i64 var,.int .i64 scope,.int .i64 span,.int .i64 c.Op,.sl (c.cL.map XY) .ro,.int .i64 c.Var,.int .i64 c.Field,.int .i64 c.Kind,.int .i64 c.Value.Kind,.int .i64 c.Value.Num,.str c.Value.Text]
def Rm :List A1→List V
 |[]=>[]
 |a::r=>ZD a::Rm r
end
theorem NT :∀l:List A1,Rm l=l.map ZD
 |[]=>by simp[Rm]
 |a::r=>by simp[Rm,NT r]
noncomputable def NU (x:A4):V:=.agg [.int .i64 x.Kind,.int .i64 x.Num,.str x.Text]
noncomputable def NV (x:A7):V:=.agg [.int .i64 x.Source,.int .i64 x.Seq,.int .i64 x.Typ,.int .i64 x.Time,.sl (lst NU x.Values) .ro]
noncomputable def KT (x:E0):V:=.agg [.int .i64 x.Var,.int .i64 x.Ref.Time,.int .i64 x.Ref.Source,.int .i64 x.Ref.Seq]
noncomputable def VP (x:E4):V:=.agg [.sl (lst KT x.cO) .ro]
noncomputable def VQ (x:Pt):V:=.agg [.int .i64 x.cQ,.int .i64 x.Span]
noncomputable def Dl (x:A0):V:=.agg [.int .i64 x.cR,.int .i64 x.at_]
noncomputable def Cc (x:A2):V:=.agg [.int .i64 x.Var,.int .i64 x.At]
noncomputable def JH (x:J1):V:=.agg [.int .i64 x.cS,.int .i64 x.most,.bool x.cP,.bool x.cond,.bool x.scope,.bool x.span]
noncomputable def HW (x:D2):V:=.agg [.int .i64 x.source,.int .i64 x.seq]
noncomputable def Ta (x:List A7):V:=.sl (lst NV x) .ro
noncomputable def CZ (x:List A0):V:=.sl (lst Dl x) .ro
noncomputable def GA (x:List (List A0)):V:=.sl (lst CZ x) .ro
noncomputable def FC (x:List A2):V:=.sl (lst Cc x) .ro
noncomputable instance encsInst :I7 where
 eAm8:=NU
 eAm4:=fun _=>rfl
 eAn2:=XY
 eAn3:=fun⟨_,_,_,_,_,_⟩=>by simp only[XY,NW];rfl
 eAm3:=ZD
 eAm2:=fun⟨_,_,_,_,_,_,_⟩=>by simp only[ZD,NT];rfl
 eAl9:=NV
 eAm5:=fun _=>rfl
 eAn0:=KT
 eAn7:=fun _=>rfl
 eAm7:=VP
 eAn8:=fun _=>rfl
 eAo5:=VQ
 eAo7:=fun _=>rfl
 eAl8:=Dl
 eAn4:=fun _=>rfl
 eAm0:=Cc
 eAm9:=fun _=>rfl
 eAo4:=JH
 eAo6:=fun _=>rfl
 eAo0:=HW
 eAo1:=fun _=>rfl
 eAn9:=Ta
 eAo2:=fun _=>rfl
 eAn6:=GA
 eAo3:=fun _=>rfl
 eAm6:=CZ
 eAn5:=fun _=>rfl
 eAm1:=FC
 eAn1:=fun _=>rfl
def NH {α:Type}(f:α→Nat):List α→Nat
 |[]=>1
 |a::l=>f a+NH f l
theorem TU {α:Type}{f:α→Nat}(hf:∀a,1≤f a):∀l:List α,l.length+1≤NH f l
 |[]=>by simp[NH]
 |b::l=>by have:=hf b;have:=TU hf l;simp only[NH,List.length_cons];omega
section
variable [I6]{H:Type}{enc:TypeId×Value→H}{W:World}{base:Nat}{spare:Nat→Bool}{held:Bool}
abbrev bk (d:DataW H):Nat:=Rows.uptoBulk d
noncomputable def Pc (P:Program)(t:TypeId):Array Field:=match P.underlying t with|some (.struct fs)=>fs|_=> #[]
theorem I3 {P:Program} {t ty off sz:Nat} {xs:List (DataW H×List MemPlace)} {cs:List Value} {n:Nat} (hl:xs.length=(Pc P t).size)
 (hf:∀(i:Nat) (f:Field),(Pc P t)[i]? =some f→DataW.trod enc P W base spare held n f.type ((cs.drop f.offset).take (P.cellsOf f.type))=xs[i]?) (i:Nat)
 (h:((Pc P t)[i]?.map fun f=>(f.type,f.offset,P.cellsOf f.type))=some (ty,off,sz)):∃y,xs[i]? =some y∧DataW.trod enc P W base spare held n ty ((cs.drop off).take sz)=some y:=by
 cases hi:(Pc P t)[i]? with
 |none=>rw[hi]at h;cases h
 |some f=>
  rw[hi]at h
  simp only[Option.map_some,Option.some.injEq,Prod.mk.injEq]at h
  obtain⟨rfl,rfl,rfl⟩:=h;exact SV hl hf i hi
theorem Opens.down {α:Type}{P:Program}{t:TypeId}{f:α→V}{R:α→DataW H→Prop}{n:Nat}(h:Opens enc P W base spare held t f R (n+1)):Opens enc P W base spare held t f R n:=fun cs x hx=>h cs x (DataW.trod_le (Nat.le_succ n) hx)
theorem Opens.imp {α:Type}{P:Program}{t:TypeId}{f:α→V}{R R':α→DataW H→Prop}{n:Nat}(h:Opens enc P W base spare held t f R n)(hi:∀a d,R a d→R' a d):Opens enc P W base spare held t f R' n:=fun cs x hx=>by
 obtain⟨a,r,q⟩:=h cs x hx;exact⟨a,r,hi _ _ q⟩
theorem Opens.congr {α:Type}{P:Program}{t:TypeId}{f g:α→V}{R:α→DataW H→Prop}{n:Nat}(h:Opens enc P W base spare held t f R n)(hg:∀x,f x=g x):Opens enc P W base spare held t g R n:=fun cs x hx=>by
 obtain⟨a,r,q⟩:=h cs x hx;exact⟨a,by rw[←hg];exact r,q⟩
theorem Aa0 {α:Type} {f:α→Nat}:∀(l:List α) (ds:List (DataW H)),RL (fun a d=>f a≤bk d) l ds→NH f l≤Rows.uptoBulkAll ds+1
 |[],ds,h=>by simp[NH]
 |a::l,[],h=>by have:=h.1;simp at this
 |a::l,d::ds,h=>by
  have h1:f a≤bk d:=h.2 0 a d rfl rfl;have h2:=Aa0 l ds ⟨by simpa using h.1,fun i a d hi hd=>h.2 (i+1) a d (by simpa using hi) (by simpa using hd)⟩;simp only[NH,Rows.uptoBulkAll];have h3:bk d=Rows.uptoBulk d:=rfl;omega
theorem TG {α:Type}{f:α→Nat}{l:List α}{d:DataW H}(h:RS (fun a d=>f a≤bk d) l d):NH f l≤bk d:=by
 obtain⟨_,h⟩:=h
 rcases h with⟨rfl,rfl⟩|⟨es,sp,rfl,h⟩
 ·simp[bk,Rows.uptoBulk,NH]
 have:=Aa0 l es h;simp only[bk,Rows.uptoBulk];omega
theorem Rv :∀l:List B0,B0.bulks l=NH B0.bulk l
 |[]=>by simp[B0.bulks,NH]
 |a::l=>by simp[B0.bulks,NH,Rv l]
theorem Yb {l:List B0}{d:DataW H}(h:RS (fun a d=>B0.bulk a≤bk d) l d):B0.bulks l≤bk d:=by rw[Rv];exact TG h
theorem Oc :∀l:List A1,A1.bulks l=NH A1.bulk l
 |[]=>by simp[A1.bulks,NH]
 |a::l=>by simp[A1.bulks,NH,Oc l]
theorem Rx {l:List A1}{d:DataW H}(h:RS (fun a d=>A1.bulk a≤bk d) l d):A1.bulks l≤bk d:=by rw[Oc];exact TG h
theorem Ae8 {β:Type}{xs:List β}{a b c:β}(hl:xs.length=3)(h0:xs[0]? =some a)(h1:xs[1]? =some b)(h2:xs[2]? =some c):xs=[a,b,c]:=by
 match xs,hl with
 |[x0,x1,x2],_=>simp at h0 h1 h2;rw[h0,h1,h2]
theorem Ae7 {β:Type}{xs:List β}{a b c d e:β}(hl:xs.length=5)(h0:xs[0]? =some a)(h1:xs[1]? =some b)(h2:xs[2]? =some c)(h3:xs[3]? =some d)(h4:xs[4]? =some e):xs=[a,b,c,d,e]:=by
 match xs,hl with
 |[x0,x1,x2,x3,x4],_=>simp at h0 h1 h2 h3 h4;rw[h0,h1,h2,h3,h4]
theorem Ae6 {β:Type}{xs:List β}{a b c d e f:β}(hl:xs.length=6)(h0:xs[0]? =some a)(h1:xs[1]? =some b)(h2:xs[2]? =some c)(h3:xs[3]? =some d)(h4:xs[4]? =some e)(h5:xs[5]? =some f):xs=[a,b,c,d,e,f]:=by
 match xs,hl with
 |[x0,x1,x2,x3,x4,x5],_=>simp at h0 h1 h2 h3 h4 h5;rw[h0,h1,h2,h3,h4,h5]
theorem Ae5 {β:Type}{xs:List β}{a b c d e f g:β}(hl:xs.length=7)(h0:xs[0]? =some a)(h1:xs[1]? =some b)(h2:xs[2]? =some c)(h3:xs[3]? =some d)(h4:xs[4]? =some e)(h5:xs[5]? =some f)(h6:xs[6]? =some g):xs=[a,b,c,d,e,f,g]:=by
 match xs,hl with
 |[x0,x1,x2,x3,x4,x5,x6],_=>simp at h0 h1 h2 h3 h4 h5 h6;rw[h0,h1,h2,h3,h4,h5,h6]
theorem u27 :Tryz.prog.underlying 27=some (.struct (Pc Tryz.prog 27)):=by kernel_rfl
theorem u23 :Tryz.prog.underlying 23=some (.slice 27):=by kernel_rfl
theorem u3 :Tryz.prog.underlying 3=some (.int .i64):=by kernel_rfl
theorem BA (n:Nat):Opens enc Tryz.prog W base spare held 3 (V.int .i64) (fun a d=>(fun _:Int=>1) a≤bk d) n:=(Ki u3).imp fun a d h=>by subst h;simp[bk,Rows.uptoBulk]
theorem u25 :Tryz.prog.underlying 25=some (.struct (Pc Tryz.prog 25)):=by kernel_rfl
theorem u9 :Tryz.prog.underlying 9=some .string:=by kernel_rfl
theorem Ad5 (n:Nat):Opens enc Tryz.prog W base spare held 9 V.str (fun a d=>(fun s:ByteArray=>s.size+1) a≤bk d) n:=(Vp u9).imp fun a d h=>by obtain⟨rfl,_⟩:=h;simp[bk,Rows.uptoBulk]
def A4.mu (x:A4):Nat:=(fun _:Int=>1) x.Kind+(fun _:Int=>1) x.Num+(fun s:ByteArray=>s.size+1) x.Text+1
theorem TN (n:Nat):Opens enc Tryz.prog W base spare held 25 I7.eAm8 (fun(a:A4) d=>A4.mu a≤bk d) n:=by
 intro cs x h;obtain⟨xs,m,hm,rfl,hcl,hl,hf⟩:=DataW.trod_struct u25 h;subst hm;obtain⟨y0,k0,t0⟩:=I3 hl hf 0 (ty:=3) (off:=0) (sz:=1) (by kernel_rfl);obtain⟨y1,k1,t1⟩:=I3 hl hf 1 (ty:=3) (off:=1) (sz:=1) (by kernel_rfl);obtain⟨y2,k2,t2⟩:=I3 hl hf 2 (ty:=9) (off:=2) (sz:=1) (by kernel_rfl);have hxs:=Ae8 (hl.trans (by kernel_rfl)) k0 k1 k2;obtain⟨a0,r0,q0⟩:=BA _ _ _ t0;obtain⟨a1,r1,q1⟩:=BA _ _ _ t1;obtain⟨a2,r2,q2⟩:=Ad5 _ _ _ t2;refine⟨⟨a0,a1,a2⟩,?_,?_⟩
 ·have hc3:cs.length=3:=hcl.trans (by kernel_rfl);have:=(r0.join r1).join r2;rw[I7.eAm4]
  simp only[lst_eq]at this ⊢
  simpa[List.take_of_length_le,hc3,V.cells]using this
 simp only[bk]at q0 q1 q2
 rw[hxs];simp only[List.map_cons,List.map_nil,bk,Rows.uptoBulk,Rows.uptoBulkAll,A4.mu];omega
theorem Zd :∀n:Nat,Opens enc Tryz.prog W base spare held 27 I7.eAn2 (fun(a:B0) d=>B0.bulk a≤bk d) n:=by
 intro n
 induction n with
 |zero=>intro cs x h;simp[DataW.trod]at h
 |succ n ih=>
 intro cs x h;obtain⟨xs,m,hm,rfl,hcl,hl,hf⟩:=DataW.trod_struct u27 h;cases hm;obtain⟨y0,k0,t0⟩:=I3 hl hf 0 (ty:=3) (off:=0) (sz:=1) (by kernel_rfl);obtain⟨y1,k1,t1⟩:=I3 hl hf 1 (ty:=23) (off:=1) (sz:=1) (by kernel_rfl);obtain⟨y2,k2,t2⟩:=I3 hl hf 2 (ty:=3) (off:=2) (sz:=1) (by kernel_rfl);obtain⟨y3,k3,t3⟩:=I3 hl hf 3 (ty:=3) (off:=3) (sz:=1) (by kernel_rfl);obtain⟨y4,k4,t4⟩:=I3 hl hf 4 (ty:=3) (off:=4) (sz:=1) (by kernel_rfl);obtain⟨y5,k5,t5⟩:=I3 hl hf 5 (ty:=25) (off:=5) (sz:=3) (by kernel_rfl);have hxs:=Ae6 (hl.trans (by kernel_rfl)) k0 k1 k2 k3 k4 k5;obtain⟨a0,r0,q0⟩:=BA _ _ _ t0
 obtain⟨a1,r1,q1⟩:∃a:List B0,Dk (g0 W) W ((cs.drop 1).take 1) (V.sl (a.map I7.eAn2) .ro).cells∧B0.bulks a≤bk y1.1:=by
  cases n with
  |zero=>simp[DataW.trod]at t1
  |succ n=>
   obtain⟨a,r,q⟩:=EJ u23 (show 0<Tryz.prog.cellsOf 27 by rw[show Tryz.prog.cellsOf 27=8 by kernel_rfl];decide) ih.down _ _ t1;exact⟨a,r,Yb q⟩
 obtain⟨a2,r2,q2⟩:=BA _ _ _ t2;obtain⟨a3,r3,q3⟩:=BA _ _ _ t3;obtain⟨a4,r4,q4⟩:=BA _ _ _ t4;obtain⟨a5,r5,q5⟩:=TN _ _ _ t5;refine⟨⟨a0,a1,a2,a3,a4,a5⟩,?_,?_⟩
 ·have hc3:cs.length=8:=hcl.trans (by kernel_rfl)
  rw[I7.eAm4]at r5
  have:=((((r0.join r1).join r2).join r3).join r4).join r5;rw[I7.eAn3]
  simp only[lst_eq]at this ⊢
  simpa[List.take_of_length_le,hc3,V.cells]using this
 simp only[bk]at q0 q1 q2 q3 q4 q5
 rw[hxs]
 simp only[List.map_cons,List.map_nil,bk,Rows.uptoBulk,Rows.uptoBulkAll,B0.bulk,A4.mu]at *
 omega
theorem u29 :Tryz.prog.underlying 29=some (.struct (Pc Tryz.prog 29)):=by kernel_rfl
theorem u22 :Tryz.prog.underlying 22=some (.slice 29):=by kernel_rfl
theorem Zc :∀n:Nat,Opens enc Tryz.prog W base spare held 29 I7.eAm3 (fun(a:A1) d=>A1.bulk a≤bk d) n:=by
 intro n
 induction n with
 |zero=>intro cs x h;simp[DataW.trod]at h
 |succ n ih=>
 intro cs x h;obtain⟨xs,m,hm,rfl,hcl,hl,hf⟩:=DataW.trod_struct u29 h;cases hm;obtain⟨y0,k0,t0⟩:=I3 hl hf 0 (ty:=3) (off:=0) (sz:=1) (by kernel_rfl);obtain⟨y1,k1,t1⟩:=I3 hl hf 1 (ty:=22) (off:=1) (sz:=1) (by kernel_rfl);obtain⟨y2,k2,t2⟩:=I3 hl hf 2 (ty:=3) (off:=2) (sz:=1) (by kernel_rfl);obtain⟨y3,k3,t3⟩:=I3 hl hf 3 (ty:=3) (off:=3) (sz:=1) (by kernel_rfl);obtain⟨y4,k4,t4⟩:=I3 hl hf 4 (ty:=3) (off:=4) (sz:=1) (by kernel_rfl);obtain⟨y5,k5,t5⟩:=I3 hl hf 5 (ty:=3) (off:=5) (sz:=1) (by kernel_rfl);obtain⟨y6,k6,t6⟩:=I3 hl hf 6 (ty:=27) (off:=6) (sz:=8) (by kernel_rfl);have hxs:=Ae5 (hl.trans (by kernel_rfl)) k0 k1 k2 k3 k4 k5 k6;obtain⟨a0,r0,q0⟩:=BA _ _ _ t0
 obtain⟨a1,r1,q1⟩:∃a:List A1,Dk (g0 W) W ((cs.drop 1).take 1) (V.sl (a.map I7.eAm3) .ro).cells∧A1.bulks a≤bk y1.1:=by
  cases n with
  |zero=>simp[DataW.trod]at t1
  |succ n=>
   obtain⟨a,r,q⟩:=EJ u22 (show 0<Tryz.prog.cellsOf 29 by rw[show Tryz.prog.cellsOf 29=14 by kernel_rfl];decide) ih.down _ _ t1;exact⟨a,r,Rx q⟩
 obtain⟨a2,r2,q2⟩:=BA _ _ _ t2;obtain⟨a3,r3,q3⟩:=BA _ _ _ t3;obtain⟨a4,r4,q4⟩:=BA _ _ _ t4;obtain⟨a5,r5,q5⟩:=BA _ _ _ t5;obtain⟨a6,r6,q6⟩:=Zd _ _ _ t6;refine⟨⟨a0,a1,a2,a3,a4,a5,a6⟩,?_,?_⟩
 ·have hc3:cs.length=14:=hcl.trans (by kernel_rfl)
  rw[I7.eAn3]at r6
  have:=(((((r0.join r1).join r2).join r3).join r4).join r5).join r6;rw[I7.eAm2]
  simp only[lst_eq]at this ⊢
  simpa[List.take_of_length_le,hc3,V.cells]using this
 simp only[bk]at q0 q1 q2 q3 q4 q5 q6
 rw[hxs]
 simp only[List.map_cons,List.map_nil,bk,Rows.uptoBulk,Rows.uptoBulkAll,A1.bulk,A4.mu]at *
 omega
theorem u62 :Tryz.prog.underlying 62=some (.struct (Pc Tryz.prog 62)):=by kernel_rfl
theorem u60 :Tryz.prog.underlying 60=some (.slice 25):=by kernel_rfl
theorem Za (n:Nat):Opens enc Tryz.prog W base spare held 60 (fun l:List A4=>.sl (lst I7.eAm8 l) .ro) (fun a d=>(NH A4.mu) a≤bk d) n:=
 Opens.down (((EJ u60 (show 0<Tryz.prog.cellsOf 25 by rw[show Tryz.prog.cellsOf 25=3 by kernel_rfl];decide) (TN n)).imp fun a d h=>TG h).congr fun x=>by rw[lst_eq])
def A7.mu (x:A7):Nat:=(fun _:Int=>1) x.Source+(fun _:Int=>1) x.Seq+(fun _:Int=>1) x.Typ+(fun _:Int=>1) x.Time+(NH A4.mu) x.Values+1
theorem YZ (n:Nat):Opens enc Tryz.prog W base spare held 62 I7.eAl9 (fun(a:A7) d=>A7.mu a≤bk d) n:=by
 intro cs x h;obtain⟨xs,m,hm,rfl,hcl,hl,hf⟩:=DataW.trod_struct u62 h;subst hm;obtain⟨y0,k0,t0⟩:=I3 hl hf 0 (ty:=3) (off:=0) (sz:=1) (by kernel_rfl);obtain⟨y1,k1,t1⟩:=I3 hl hf 1 (ty:=3) (off:=1) (sz:=1) (by kernel_rfl);obtain⟨y2,k2,t2⟩:=I3 hl hf 2 (ty:=3) (off:=2) (sz:=1) (by kernel_rfl);obtain⟨y3,k3,t3⟩:=I3 hl hf 3 (ty:=3) (off:=3) (sz:=1) (by kernel_rfl);obtain⟨y4,k4,t4⟩:=I3 hl hf 4 (ty:=60) (off:=4) (sz:=1) (by kernel_rfl);have hxs:=Ae7 (hl.trans (by kernel_rfl)) k0 k1 k2 k3 k4;obtain⟨a0,r0,q0⟩:=BA _ _ _ t0;obtain⟨a1,r1,q1⟩:=BA _ _ _ t1;obtain⟨a2,r2,q2⟩:=BA _ _ _ t2;obtain⟨a3,r3,q3⟩:=BA _ _ _ t3;obtain⟨a4,r4,q4⟩:=Za _ _ _ t4;refine⟨⟨a0,a1,a2,a3,a4⟩,?_,?_⟩
 ·have hc3:cs.length=5:=hcl.trans (by kernel_rfl);have:=(((r0.join r1).join r2).join r3).join r4;rw[I7.eAm5]
  simp only[lst_eq]at this ⊢
  simpa[List.take_of_length_le,hc3,V.cells]using this
 simp only[bk]at q0 q1 q2 q3 q4
 rw[hxs];simp only[List.map_cons,List.map_nil,bk,Rows.uptoBulk,Rows.uptoBulkAll,A7.mu];omega
theorem u30 :Tryz.prog.underlying 30=some (.slice 62):=by kernel_rfl
theorem Zb (n:Nat):Opens enc Tryz.prog W base spare held 30 (fun l:List A7=>.sl (lst I7.eAl9 l) .ro) (fun a d=>(NH A7.mu) a≤bk d) n:=
 Opens.down (((EJ u30 (show 0<Tryz.prog.cellsOf 62 by rw[show Tryz.prog.cellsOf 62=5 by kernel_rfl];decide) (YZ n)).imp fun a d h=>TG h).congr fun x=>by rw[lst_eq])
theorem Pn {v:Value}{d:DataW H}{p:List MemPlace}(hv:Value.okWide Tryz.prog W .any base 29 v)(h:DataW.Trod enc Tryz.prog W 0 (fun _=>true) true 29 v d p):∃x:A1,VR (g0 W) W v (I7.eAm3 x)∧A1.bulk x≤Rows.uptoBulk d:=by
 obtain⟨fuel,ht⟩:=h;obtain⟨cs,rfl,hcs⟩:=okWide_struct u29 hv;obtain⟨x,hr,hb⟩:=Zc fuel _ _ ht;have hr':Dk (g0 W) W cs.toList (I7.eAm3 x).cells:=hr;refine⟨x,?_,hb⟩;have:=hr'.agg
 rw[I7.eAm2]at this ⊢
 exact this
theorem Rz {v:Value}{d:DataW H}{p:List MemPlace}(hv:Value.okWide Tryz.prog W .any base 30 v)(h:DataW.Trod enc Tryz.prog W 0 (fun _=>true) true 30 v d p):∃x:List A7,VR (g0 W) W v (.sl (lst I7.eAl9 x) .ro)∧(NH A7.mu) x≤Rows.uptoBulk d:=by
 obtain⟨fuel,ht⟩:=h;obtain⟨a,len,cap,rfl⟩:=okWide_slice u30 hv;obtain⟨x,hr,hb⟩:=Zb fuel _ _ ht;exact⟨x,(hr.2 0 (by simp[V.cells])).2,hb⟩
theorem u4 :Tryz.prog.underlying 4=some .bool:=by kernel_rfl
theorem Zr {f:FuncId}{vals:Array Value}{args:List V}(hg:∀n,VR (g0 W) W (.pointer (some ⟨n,0,none⟩)) (I6.gl n))(hcall:∀vals w,(callFunc f vals).run Tryz.prog w= .ok (.enter f vals) w)(law:B4 Tryz.prog f args (.bool true))(hA:Args (g0 W) W vals args):
 Calls Tryz.prog f vals W fun e W'=>e= .returned (.bool true)∧Below W.heap.size W W':=by
 have hc:=law (fun _=>none) (g0 W) W vals (rl0 hg) hA
 rw[hcall]at hc
 refine(callsIn_wide.1 hc).mono fun e W' ⟨v,he,g',y,H',hs,hR,hvy,hy,_⟩=>?_;subst hy;cases hvy;exact⟨he,hs.low⟩
theorem Al4 {v0 v1:Value}{x0 x1:V}(h0:VR (g0 W) W v0 x0)(h1:VR (g0 W) W v1 x1):Args (g0 W) W #[v0,v1] [x0,x1]:=⟨rfl,fun i hi=>by
 match i,hi with
 |0,_=>exact h0
 |1,_=>exact h1⟩
end
end Go.Ab
namespace Go.Ab
open Go.RowKit Go.ChangeShapes Go.WideShapes Go.ChangeAt Go.Proofs Go.Proofs.YtanbgjgaafeplaaGreatDoor
set_option maxRecDepth 100000
section
variable {H:Type}{enc:TypeId×Value→H}{W:World}{base:Nat}{spare:Nat→Bool}{held:Bool}
theorem u196 :Tryz.prog.underlying 196=some (.array G1.length 195):=by kernel_rfl
theorem u195 :Tryz.prog.underlying 195=some (.struct (Pc Tryz.prog 195)):=by kernel_rfl
theorem SC (n:Nat):Opens enc Tryz.prog W base spare held 195 I7.eAo4 (fun(a:J1) d=>d= .agg [.lit (.int .i64 a.cS),.lit (.int .i64 a.most),.lit (.bool a.cP),.lit (.bool a.cond),.lit (.bool a.scope),.lit (.bool a.span)]) n:=by
 intro cs x h;obtain⟨xs,m,rfl,rfl,hcl,hl,hf⟩:=DataW.trod_struct u195 h;obtain⟨y0,k0,t0⟩:=I3 hl hf 0 (ty:=3) (off:=0) (sz:=1) (by kernel_rfl);obtain⟨y1,k1,t1⟩:=I3 hl hf 1 (ty:=3) (off:=1) (sz:=1) (by kernel_rfl);obtain⟨y2,k2,t2⟩:=I3 hl hf 2 (ty:=4) (off:=2) (sz:=1) (by kernel_rfl);obtain⟨y3,k3,t3⟩:=I3 hl hf 3 (ty:=4) (off:=3) (sz:=1) (by kernel_rfl);obtain⟨y4,k4,t4⟩:=I3 hl hf 4 (ty:=4) (off:=4) (sz:=1) (by kernel_rfl);obtain⟨y5,k5,t5⟩:=I3 hl hf 5 (ty:=4) (off:=5) (sz:=1) (by kernel_rfl)
 have hxs:xs=[y0,y1,y2,y3,y4,y5]:=match xs,hl.trans (show _=6 by kernel_rfl),k0,k1,k2,k3,k4,k5 with|[_,_,_,_,_,_],_,rfl,rfl,rfl,rfl,rfl,rfl=>rfl
 obtain⟨a0,r0,q0⟩:=Ki u3 _ _ t0;obtain⟨a1,r1,q1⟩:=Ki u3 _ _ t1;obtain⟨a2,r2,q2⟩:=FT u4 _ _ t2;obtain⟨a3,r3,q3⟩:=FT u4 _ _ t3;obtain⟨a4,r4,q4⟩:=FT u4 _ _ t4;obtain⟨a5,r5,q5⟩:=FT u4 _ _ t5;refine⟨⟨a0,a1,a2,a3,a4,a5⟩,?_,?_⟩
 ·have hc3:cs.length=6:=hcl.trans (by kernel_rfl);have:=((((r0.join r1).join r2).join r3).join r4).join r5;rw[I7.eAo6]
  simpa[List.take_of_length_le,hc3,V.cells]using this
 rw[hxs];simp only[List.map_cons,List.map_nil,q0,q1,q2,q3,q4,q5]
theorem Nv :∀(l k:List J1),(RL (H:=H) (fun(a:J1) d=>d= .agg [.lit (.int .i64 a.cS),.lit (.int .i64 a.most),.lit (.bool a.cP),.lit (.bool a.cond),.lit (.bool a.scope),.lit (.bool a.span)]) l
 (k.map fun a=>.agg [.lit (.int .i64 a.cS),.lit (.int .i64 a.most),.lit (.bool a.cP),.lit (.bool a.cond),.lit (.bool a.scope),.lit (.bool a.span)]))→l=k
 |[],[],_=>rfl
 |[],_::_,h=>by have:=h.1;simp at this
 |_::_,[],h=>by have:=h.1;simp at this
 |a::l,b::k,h=>by
  have h0:=h.2 0 a _ rfl rfl;have h1:=Nv l k ⟨by simpa using h.1,fun i a d hi hd=>h.2 (i+1) a d (by simpa using hi) (by simpa using hd)⟩;subst h1;obtain⟨a0,a1,a2,a3,a4,a5⟩:=a;obtain⟨b0,b1,b2,b3,b4,b5⟩:=b
  simp at h0
  simp[h0]
theorem QY (h:laidMetH Tryz.prog Rows.semanticsMatchesRow.laid W):VR (g0 W) W (.pointer (some ⟨0,0,none⟩)) (I6.gl 0):=by
 have h':laidMet Tryz.prog Rows.semanticsMatchesRow.laid W:=h;obtain⟨ps,⟨_,_,_,_,_,q1,_,_,_,_,L1,_⟩,_⟩:=h';obtain⟨_,_,_,_,_,q2,_,_,_,_,L2,_⟩:=L1;obtain⟨_,_,_,_,_,q3,_,_,_,_,L3,_⟩:=L2;obtain⟨g',t',cs,fuel,p,q,hg',ht',hvar,hd,_,_⟩:=L3;obtain rfl:g'=0:=Option.some.inj (hg'.symm.trans (by kernel_rfl));obtain rfl:t'=196:=Option.some.inj (ht'.symm.trans (by kernel_rfl));obtain⟨l,hr,ds,hds,hl⟩:=QI u196 (by kernel_rfl) (by decide) (fun n=>SC n) hd
 have e:ds=G1.map fun a=>.agg [.lit (.int .i64 a.cS),.lit (.int .i64 a.most),.lit (.bool a.cP),.lit (.bool a.cond),.lit (.bool a.scope),.lit (.bool a.span)]:=by
  have e2:(Rows.laid_tidegate_pattern_shapes:DataW Unit)= .agg ds:=hds;have e3:(Rows.laid_tidegate_pattern_shapes:DataW Unit)= .agg (G1.map fun a=>.agg [.lit (.int .i64 a.cS),.lit (.int .i64 a.most),.lit (.bool a.cP),.lit (.bool a.cond),.lit (.bool a.scope),.lit (.bool a.span)]):=rfl
  rw[e3]at e2
  exact(DataW.agg.inj e2).symm
 subst e;obtain rfl:=Nv _ _ hl;exact Rd hg' hvar hr
theorem Af0 (h:laidMetH Tryz.prog Rows.semanticsMatchesRow.laid W):∀n,VR (g0 W) W (.pointer (some ⟨n,0,none⟩)) (I6.gl n)
 |0=>QY h
 |_+1=>.bad _
end
end Go.Ab
