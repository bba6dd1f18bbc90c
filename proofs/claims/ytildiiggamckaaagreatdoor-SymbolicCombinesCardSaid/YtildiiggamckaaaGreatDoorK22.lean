/- . -/
import Derived.Test.YtildiiggamckaaaGreatDoorK21
import Derived.Test.YtildiiggamckaaaGreatDoorRows
import Derived.WalkKit
import Derived.ProofKit
import Derived.OpenShut
import Derived.Deep.DeepHandedRow
import Derived.Carry
import Derived.Test.YtildiiggamckaaaGreatDoorTie
set_option linter.all false
open Go.Ab.Ar (ar cmp lst lst_eq)
namespace Go.Ab
abbrev RPs:=List C2×Int×A0
noncomputable def rpI (N:Nat) (a b:A0) (i j:Int) (F:List Bool) (s19:RPs):Option (RPs⊕(List C2×A0)):=
 if cmp .lss s19.2.1 (Ar.len b.cU)=true then
  (C6 a.cU j).bind fun x23=>
  (C6 b.cU s19.2.1).bind fun x24=>
  (C6 s19.1 i).bind fun x25=>
  if cmp .neq x23.cW x25.a=true then
   some (.inl (s19.1,ar .add .i64 s19.2.1 1,{s19.2.2 with cT:=F}))
  else
   (C6 s19.1 i).bind fun x26=>
   if cmp .neq x24.cW x26.b=true then
    some (.inl (s19.1,ar .add .i64 s19.2.1 1,{s19.2.2 with cT:=F}))
   else
    (DC N x23.On x24.On).bind fun r27=>
    (S0 N r27).bind fun r28=>
    if r28=true then
     some (.inl (s19.1,ar .add .i64 s19.2.1 1,{s19.2.2 with cT:=F}))
    else
     (AC N s19.1 (⟨x23.To,x24.To⟩:C2)).bind fun l29=>
     (I1 s19.2.2.cU ([(⟨i,l29.1,r27⟩:B5)])).bind fun l33=>
     some (.inl (l29.2,ar .add .i64 s19.2.1 1,{s19.2.2 with cT:=F,cU:=l33}))
 else
  some (.inr (s19.1,{s19.2.2 with cT:=F}))
noncomputable def rpO (N:Nat) (a b:A0) (i:Int) (F:List Bool) (s15:RPs):Option (RPs⊕(List C2×A0)):=
 if cmp .lss s15.2.1 (Ar.len a.cU)=true then
  (loopN (fun s19=>rpI N a b i s15.2.1 F s19) N (s15.1,0,{s15.2.2 with cT:=F})).bind fun s22=>
  some (.inl (s22.1,ar .add .i64 s15.2.1 1,{s22.2 with cT:=F}))
 else
  some (.inr (s15.1,{s15.2.2 with cT:=F}))
noncomputable def rpR (N:Nat)(a b:A0)(s4:RPs)(F:List Bool):Option (RPs⊕(List C2×A0)):=
 (loopN (fun s15=>rpO N a b s4.2.1 F s15) N (s4.1,0,{s4.2.2 with cT:=F})).bind fun s18=>
 some (.inl (s18.1,ar .add .i64 s4.2.1 1,{s18.2 with cT:=F}))
noncomputable def rpQ (N:Nat) (a b:A0) (s4:RPs):Option (RPs⊕(List C2×A0)):=
 if Ar.an (cmp .lss s4.2.1 (Ar.len s4.1)) (cmp .leq (Ar.len s4.1) 256)=true then
  (C6 s4.1 s4.2.1).bind fun x9=>
  (C6 a.cT x9.a).bind fun x10=>
  if x10=true then
   (C6 s4.1 s4.2.1).bind fun x11=>
   (C6 b.cT x11.b).bind fun x12=>
   (I1 s4.2.2.cT ([x12])).bind fun l14=>rpR N a b s4 l14
  else
   (I1 s4.2.2.cT ([false])).bind fun l39=>rpR N a b s4 l39
 else
  some (.inr (s4.1,s4.2.2))
def Rj (N:Nat) (a b:A0):BS N a b=(EY N a b).bind fun r2=>
 if cmp .neq r2 0=true then
  some ((⟨0,[],[]⟩:A0),r2)
 else
  (loopN (fun s4=>rpQ N a b s4) N ([(⟨0,0⟩:C2)],0,(⟨a.cV,[],[]⟩:A0))).bind fun s8=>
  if cmp .gtr (Ar.len s8.1) 256=true then
   some ((⟨0,[],[]⟩:A0),5)
  else
   (S9 N s8.2).bind fun r66=>
   some (r66.1,r66.2):=rfl
noncomputable def IY (t:PS)(k:Nat):RPs:=(t.2.1.map Ie,(k:Int),t.1)
def rpF {G:A0}{F:List Bool}(h:G.cT=F):({G with cT:=F}:A0)=G:=by subst h;rfl
def MN {l:List B5}{k:Nat}{n:B5}{e:Int}(h:l[k]? =some n)(hn:n.cW≠e):cm (l.take (k+1)) e=cm (l.take k) e:=by
 rw[Cn,h];unfold cm;simp[hn]
def Ow {l:List B5}{k:Nat}{n:B5}{e:Int}(h:l[k]? =some n)(hn:n.cW=e):cm (l.take (k+1)) e=cm (l.take k) e++[n]:=by
 rw[Cn,h];unfold cm;simp[hn]
def Ov {l:List B5}{k:Nat}{m:B5}{e:Int}(h:m∈cm (l.take k) e):m∈l∧m.cW=e:=by
 rw[Nw]at h
 exact⟨List.mem_of_mem_take h.1,h.2⟩
def Kg {α σ R:Type} {step:σ→α→Option (σ⊕R)} {x:α} {t r:σ}:∀(l:List α) (s:σ),J2 step l s=some (.inl t)→step t x=some (.inl r)→J2 step (l++[x]) s=some (.inl r)
 |[],s,h,h2=>by
  rw[J2]at h
  cases h;simp only[N1,J2,h2]
 | y::l,s,h,h2=>by
  simp only[DT,J2]at h ⊢
  cases hs:step s y with
  |none=>rw[hs]at h;cases h
  |some o=>
   rw[hs]at h
   cases o with
   |inr z=>cases h
   |inl s'=>exact Kg l s' h h2
section
variable {a b:A0}{i:Nat}{q:D4}{F:List Bool}
def WY {s:PS}{j k:Nat}(hk0:k<1000)(hi:s.2.1[i]? =some q){m n:B5}(hm:a.cU[j]? =some m)(hn:b.cU[k]? =some n)(h:¬(m.cW=q.E0∧n.cW=q.E1))(hF:s.1.cT=F):rpI 40000000 a b (i:Int) (j:Int) F (IY s k)=some (.inl (IY s (k+1))):=by
 have hk:=(List.getElem?_eq_some_iff.1 hn).1
 have hp:(s.2.1.map Ie)[i]? =some (Ie q):=by rw[V8,hi];rfl
 unfold rpI IY
 dsimp only
 rw[A1 (by simp only[C8,C9,B2];omega),E7,hm];simp only[A5];rw[E7,hn];simp only[A5];rw[E7,hp];simp only[A5];rw[I6 hk0 (by omega),rpF hF]
 by_cases h1:m.cW=q.E0
 ·rw[A3 (by simpa[N8,Ie]using h1),A1 (by simp only[N8,Ie,V7,Cs];exact fun h2=>h ⟨h1,h2⟩)]
 rw[A1 (by simpa[N8,Ie]using h1)]
def Ab5 {s:PS}{j:Int}(hF:s.1.cT=F):rpI 40000000 a b (i:Int) j F (IY s b.cU.length)=some (.inr (s.2.1.map Ie,s.1)):=by
 unfold rpI IY
 dsimp only
 rw[A3 (by simp[C8,C9]),rpF hF]
def Aw2 (hab:AB a b) {s:PS} {j k:Nat} (hk0:k<1000) (hw:PW a b s) (hi:s.2.1[i]? =some q) (hl:s.1.cU.length≤100000) {m n:B5} (hm:a.cU[j]? =some m) (hn:b.cU[k]? =some n) (h1:m.cW=q.E0) (h2:n.cW=q.E1) (hF:s.1.cT=F):
 ∃t,prI 40000000 (i:Int) m s n=some (.inl t)∧rpI 40000000 a b (i:Int) (j:Int) F (IY s k)=some (.inl (IY t (k+1))):=by
 have hk:=(List.getElem?_eq_some_iff.1 hn).1
 have hp:(s.2.1.map Ie)[i]? =some (Ie q):=by rw[V8,hi];rfl
 have hmm:=G1 hm;have hnm:=G1 hn;obtain⟨pm1,pm2⟩:=hab.oa.each m hmm;obtain⟨pn1,pn2⟩:=hab.ob.each n hnm
 have pn3:Jf a.cV n.On=0:=by rw[hab.ty];exact pn2
 obtain⟨r,e1,e2,e3⟩:=Xd pm2 pn3 (hab.sa m hmm) (hab.sb n hnm);have er:=Ab1 pm2 pn3 e2 (hab.sa m hmm) (hab.sb n hnm) e3;have hql:=hw.len;have hab2:a.cT.length*b.cT.length≤8*8:=V3 hab.fa hab.fb;unfold prI;rw[e1];simp only[A5];rw[A3 (show¬cmp .neq (0:Int) 0=true by decide),JU (by omega) e2];simp only[A5];unfold rpI IY
 dsimp only
 rw[A1 (show cmp .lss (k:Int) (Ar.len b.cU)=true by simp only[C8,C9,B2];omega),E7,hm];simp only[A5];rw[E7,hn];simp only[A5];rw[E7,hp];simp only[A5];rw[A3 (show¬cmp .neq m.cW (Ie q).a=true by simpa[N8,Ie]using h1),A3 (show¬cmp .neq n.cW (Ie q).b=true by simpa[N8,Ie]using h2),er];simp only[A5];rw[Mn (by omega) e2,I6 hk0 (by omega)];simp only[A5]
 by_cases hv:vd r=true
 ·rw[A1 hv,A1 hv,rpF hF];exact⟨_,rfl,rfl⟩
 rw[A3 hv,A3 hv,show(⟨m.To,n.To⟩:C2)=Ie ⟨m.To,n.To⟩from rfl]
 rcases XD hw.mp ⟨m.To,n.To⟩with⟨c,hc,eg⟩|⟨hnq,eg⟩
 ·rw[eg];simp only[A5,Ao,M5,E2,D7];rw[L1 (by simp;omega),Ys (by omega) hw.nd hc];simp only[A5];rw[L1 (by simp;omega)];simp only[A5];refine⟨_,rfl,?_⟩
  dsimp only
  rw[←hF]
 rw[eg];simp only[A5,Ao,V4,D1];obtain⟨M',em,hM'⟩:=WU hw.mp hnq;rw[C9,em];simp only[A5];rw[L1 (by simp;omega)];simp only[A5];rw[L1 (by simp;omega),VT (by omega) hnq];simp only[A5];rw[L1 (by simp;omega)];simp only[A5];refine⟨_,rfl,?_⟩
 dsimp only
 rw[←hF]
def Wf (hab:AB a b) {s:PS} {j:Nat} (hi:s.2.1[i]? =some q) {m:B5} (hm:a.cU[j]? =some m) (h:m.cW≠q.E0) (hF:s.1.cT=F):loopN (fun s19=>rpI 40000000 a b (i:Int) (j:Int) F s19) 40000000 (IY s 0)=some (s.2.1.map Ie,s.1):=by
 have hmb:=hab.mb
 obtain⟨r,e1,e2⟩:=Y7 (N:=40000000) (l:=b.cU) (Q:=fun r=>r=(s.2.1.map Ie,s.1)) (I:=fun k st=>st=IY s k) (s0:=IY s 0) (step:=fun s19=>rpI 40000000 a b (i:Int) (j:Int) F s19)
  (fun k n st hn hk e=>by
   subst e
   exact⟨_,WY (by omega) hi hm hn (fun h'=>h h'.1) hF,rfl⟩)
  (fun st e=>by
   subst e
   exact⟨_,Ab5 hF,rfl⟩) rfl (by omega)
 rw[e1,e2]
def YK (hab:AB a b) {s:PS} {j:Nat} (hw:PW a b s) (hi:s.2.1[i]? =some q) (hl:s.1.cU.length≤50000) {m:B5} (hm:a.cU[j]? =some m) (h:m.cW=q.E0) (hF:s.1.cT=F):
 ∃t,J2 (fun(s37:PS) (y36:B5)=>prI 40000000 (i:Int) m s37 y36) (cm b.cU q.E1) s=some (.inl t)∧loopN (fun s19=>rpI 40000000 a b (i:Int) (j:Int) F s19) 40000000 (IY s 0)=some (t.2.1.map Ie,t.1):=by
 have hmb:=hab.mb;have hmm:=G1 hm
 have runk:∀k,∀t,J2 (fun(s37:PS) (y36:B5)=>prI 40000000 (i:Int) m s37 y36) (cm (b.cU.take k) q.E1) s=some (.inl t)→PW a b t∧XQ s t∧t.1.cU.length≤100000:=fun k t ht=>by
  have hcl:=Nx (b.cU.take k) q.E1
  rw[Y4]at hcl
  obtain⟨t',g1,g2,g3,g4,_⟩:=OM hab hmm h (cm (b.cU.take k) q.E1) s (fun n hn=>Ov hn) hw hi (by omega)
  rw[ht]at g1
  cases g1;exact⟨g2,g3,by omega⟩
 obtain⟨r,e1,t,e2,e3⟩:=Y7 (N:=40000000) (l:=b.cU) (Q:=fun r=>∃t,J2 (fun(s37:PS) (y36:B5)=>prI 40000000 (i:Int) m s37 y36) (cm b.cU q.E1) s=some (.inl t)∧r=(t.2.1.map Ie,t.1))
  (I:=fun k st=>∃t,J2 (fun(s37:PS) (y36:B5)=>prI 40000000 (i:Int) m s37 y36) (cm (b.cU.take k) q.E1) s=some (.inl t)∧st=IY t k) (s0:=IY s 0) (step:=fun s19=>rpI 40000000 a b (i:Int) (j:Int) F s19)
  (fun k n st hn hk ⟨t,ht,e⟩=>by
   subst e;obtain⟨w,x,l⟩:=runk k t ht;obtain⟨v,hv⟩:=x.q
   have hti:t.2.1[i]? =some q:=by rw[hv];exact Ha hi
   have hF':t.1.cT=F:=x.fi.trans hF
   by_cases h2:n.cW=q.E1
   ·obtain⟨u,u1,u2⟩:=Aw2 hab (k:=k) (by omega) w hti l hm hn h h2 hF';refine⟨_,u2,u,?_,rfl⟩;rw[Ow hn h2];exact Kg _ s ht u1
   refine⟨_,WY (by omega) hti hm hn (fun h'=>h2 h'.2) hF',t,?_,rfl⟩
   rw[MN hn h2];exact ht)
  (fun st ⟨t,ht,e⟩=>by
   subst e;obtain⟨w,x,l⟩:=runk _ t ht;have hF':t.1.cT=F:=x.fi.trans hF
   rw[Cl]at ht
   exact⟨_,Ab5 hF',t,ht,rfl⟩) ⟨s,by simp[cm,J2],rfl⟩ (by omega)
 exact⟨t,e2,by rw[e1,e3]⟩
def Am6 (hab:AB a b){s:PS}{j:Nat}(hi:s.2.1[i]? =some q){m:B5}(hm:a.cU[j]? =some m)(h:m.cW≠q.E0)(hF:s.1.cT=F):rpO 40000000 a b (i:Int) F (IY s j)=some (.inl (IY s (j+1))):=by
 have hj:=(List.getElem?_eq_some_iff.1 hm).1;have hma:=hab.ma;have e:=Wf hab hi hm h hF;unfold rpO
 unfold IY at e ⊢
 dsimp only at e ⊢
 rw[A1 (by simp only[C8,C9,B2];omega),rpF hF]
 rw[show((0:Nat):Int)=0 from rfl]at e
 rw[e];simp only[A5];rw[I6 (n:=100) (by omega) (by omega),rpF hF]
def Aw0 (hab:AB a b) {s:PS} {j:Nat} (hw:PW a b s) (hi:s.2.1[i]? =some q) (hl:s.1.cU.length≤50000) {m:B5} (hm:a.cU[j]? =some m) (h:m.cW=q.E0) (hF:s.1.cT=F):
 ∃t,prO 40000000 b (i:Int) q.E1 s m=some (.inl t)∧rpO 40000000 a b (i:Int) F (IY s j)=some (.inl (IY t (j+1))):=by
 have hj:=(List.getElem?_eq_some_iff.1 hm).1;have hma:=hab.ma;have hmb:=hab.mb;have hmm:=G1 hm;obtain⟨t,e1,e2⟩:=YK hab hw hi hl hm h hF;have hcl:=Nx b.cU q.E1
 have hx:t.1.cT=F:=by
  obtain⟨t',g1,_,g3,_⟩:=OM hab hmm h (cm b.cU q.E1) s (fun n hn=>Nw.1 hn) hw hi (by omega)
  rw[e1]at g1
  cases g1;exact g3.fi.trans hF
 refine⟨t,?_,?_⟩
 ·have ef:K2 40000000 b q.E1=some (cm b.cU q.E1):=OR (by omega) (by omega);unfold prO;rw[ef];simp only[A5];rw[e1];rfl
 unfold rpO
 unfold IY at e2 ⊢
 dsimp only at e2 ⊢
 rw[A1 (by simp only[C8,C9,B2];omega),rpF hF]
 rw[show((0:Nat):Int)=0 from rfl]at e2
 rw[e2];simp only[A5];rw[I6 (n:=100) (by omega) (by omega),rpF hx]
def Aw1 {s:PS}(hF:s.1.cT=F):rpO 40000000 a b (i:Int) F (IY s a.cU.length)=some (.inr (s.2.1.map Ie,s.1)):=by
 unfold rpO IY
 dsimp only
 rw[A3 (by simp[C8,C9]),rpF hF]
def AB8 (hab:AB a b) {s:PS} (hw:PW a b s) (hi:s.2.1[i]? =some q) (hl:s.1.cU.length≤2000) (hF:s.1.cT=F):
 ∃t,J2 (fun(s27:PS) (y26:B5)=>prO 40000000 b (i:Int) q.E1 s27 y26) (cm a.cU q.E0) s=some (.inl t)∧t.1.cT=F∧loopN (fun s15=>rpO 40000000 a b (i:Int) F s15) 40000000 (IY s 0)=some (t.2.1.map Ie,t.1):=by
 have hma:=hab.ma;have hmb:=hab.mb
 have runk:∀k,∀t,J2 (fun(s27:PS) (y26:B5)=>prO 40000000 b (i:Int) q.E1 s27 y26) (cm (a.cU.take k) q.E0) s=some (.inl t)→PW a b t∧XQ s t∧t.1.cU.length≤50000:=fun k t ht=>by
  have hcl:=Nx (a.cU.take k) q.E0;have hcl2:=Nx b.cU q.E1
  rw[Y4]at hcl
  obtain⟨t',g1,g2,g3,g4,_⟩:=SB hab (i:=i) (q:=q) (cm (a.cU.take k) q.E0) s (fun n hn=>Ov hn) hw hi (by omega)
  rw[ht]at g1
  cases g1;have:(cm (a.cU.take k) q.E0).length*(cm b.cU q.E1).length≤16*16:=V3 (by omega) (by omega);exact⟨g2,g3,by omega⟩
 obtain⟨r,e1,t,e2,e4,e3⟩:=Y7 (N:=40000000) (l:=a.cU) (Q:=fun r=>∃t,J2 (fun(s27:PS) (y26:B5)=>prO 40000000 b (i:Int) q.E1 s27 y26) (cm a.cU q.E0) s=some (.inl t)∧t.1.cT=F∧r=(t.2.1.map Ie,t.1))
  (I:=fun k st=>∃t,J2 (fun(s27:PS) (y26:B5)=>prO 40000000 b (i:Int) q.E1 s27 y26) (cm (a.cU.take k) q.E0) s=some (.inl t)∧st=IY t k) (s0:=IY s 0) (step:=fun s15=>rpO 40000000 a b (i:Int) F s15)
  (fun k m st hm hk ⟨t,ht,e⟩=>by
   subst e;obtain⟨w,x,l⟩:=runk k t ht;obtain⟨v,hv⟩:=x.q
   have hti:t.2.1[i]? =some q:=by rw[hv];exact Ha hi
   have hF':t.1.cT=F:=x.fi.trans hF
   by_cases h2:m.cW=q.E0
   ·obtain⟨u,u1,u2⟩:=Aw0 hab w hti l hm h2 hF';refine⟨_,u2,u,?_,rfl⟩;rw[Ow hm h2];exact Kg _ s ht u1
   refine⟨_,Am6 hab hti hm h2 hF',t,?_,rfl⟩
   rw[MN hm h2];exact ht)
  (fun st ⟨t,ht,e⟩=>by
   subst e;obtain⟨w,x,l⟩:=runk _ t ht;have hF':t.1.cT=F:=x.fi.trans hF
   rw[Cl]at ht
   exact⟨_,Aw1 hF',t,ht,hF',rfl⟩) ⟨s,by simp[cm,J2],rfl⟩ (by omega)
 exact⟨t,e2,e4,by rw[e1,e3]⟩
end
def MI.mvl {a b:A0}(hab:AB a b){i:Nat}{s:PS}(h:MI a b i s):s.1.cU.length≤256:=by
 have:=SX hab h.w.nd i;have:=h.mv;omega
def MI.fnl {a b:A0}(hab:AB a b){i:Nat}{s:PS}(h:MI a b i s):s.1.cT.length≤64∧s.2.1.length≤64:=by
 have:=h.w.len;have hab2:a.cT.length*b.cT.length≤8*8:=V3 hab.fa hab.fb
 have:s.1.cT.length≤s.2.1.length:=by rw[h.fi,N2,Y4];omega
 omega
def XY {a b:A0} (hab:AB a b) {i:Nat} {s:PS} (h:MI a b i s) (hi:i<s.2.1.length):∃t,pqS 40000000 a b ((i:Int),s)=some (.inl (((i+1:Nat):Int),t))∧rpQ 40000000 a b (IY s i)=some (.inl (IY t (i+1)))∧MI a b (i+1) t:=by
 have hq:=D5 hi
 generalize s.2.1[i]=q at hq
 obtain⟨t,⟨e1,e2⟩,h1⟩:=Aw4 hab h hq;have hmv:=h.mvl hab;obtain⟨hfl,hql⟩:=h.fnl hab;obtain⟨t',f1,f3,f2⟩:=AB8 (F:=s.1.cT++[QS a b q]) hab (i:=i) (q:=q) (s:=({s.1 with cT:=s.1.cT++[QS a b q]},s.2.1,s.2.2)) ⟨h.w.nd,h.w.rg,h.w.mp,h.w.snd⟩ hq (by dsimp only;omega) rfl
 rw[e2]at f1
 cases f1
 have hp:(s.2.1.map Ie)[i]? =some (Ie q):=by rw[V8,hq];rfl
 have eR:rpR 40000000 a b (IY s i) (s.1.cT++[QS a b q])=some (.inl (IY t (i+1))):=by
  unfold rpR
  unfold IY at f2 ⊢
  dsimp only at f2 ⊢
  rw[show((0:Nat):Int)=0 from rfl]at f2
  rw[f2];simp only[A5];rw[I6 (n:=100) (by omega) (by omega),rpF f3]
 obtain⟨r0,r1⟩:=h.w.rg q (G1 hq);obtain⟨k0,hk0⟩:∃k:Nat,q.E0=k:=⟨q.E0.toNat,by omega⟩;obtain⟨k1,hk1⟩:∃k:Nat,q.E1=k:=⟨q.E1.toNat,by omega⟩;have ga:a.cT[k0]? =some (a.cT[k0]'(by omega)):=D5 _;have gb:b.cT[k1]? =some (b.cT[k1]'(by omega)):=D5 _
 have ef:QS a b q=(a.cT[k0]'(by omega)&&b.cT[k1]'(by omega)):=by
  unfold QS;rw[hk0,hk1,K0,K0,ga,gb];cases a.cT[k0]'(by omega)<;>cases b.cT[k1]'(by omega)<;>rfl
 have pa:(Ie q).a=(k0:Int):=hk0;have pb:(Ie q).b=(k1:Int):=hk1;refine⟨t,?_,?_,h1⟩
 ·rw[pqS,A1 (by simp[C8,C9];omega)]
  dsimp only
  rw[E7,hq];simp only[A5];rw[hk0,E7,ga];simp only[A5]
  cases hfa:a.cT[k0]'(by omega)with
  |true=>
   rw[A1 rfl,hk1,E7,gb];simp only[A5];rw[L1 (by simp;omega)];simp only[A5]
   rw[hfa,Jj]at ef
   rw[←ef];exact e1
  |false=>
   rw[A3 (by simp),L1 (by simp;omega)];simp only[A5]
   rw[hfa,Hn]at ef
   rw[←ef];exact e1
 unfold rpQ;rw[A1 (by simp only[IY,CQ,C8,GB,C9,N2,H7,B2,V7,Cs];omega)];rw[show(IY s i).1=s.2.1.map Ie from rfl,show(IY s i).2.1=(i:Int)from rfl,show(IY s i).2.2=s.1 from rfl,E7,hp];simp only[A5];rw[pa,E7,ga];simp only[A5]
 cases hfa:a.cT[k0]'(by omega)with
 |true=>
  rw[A1 rfl,pb,E7,gb];simp only[A5];rw[L1 (by simp;omega)];simp only[A5]
  rw[hfa,Jj]at ef
  rw[←ef];exact eR
 |false=>
  rw[A3 (by simp),L1 (by simp;omega)];simp only[A5]
  rw[hfa,Hn]at ef
  rw[←ef];exact eR
def Ah7 {a b:A0} (hab:AB a b):∀(d i N:Nat) (s:PS),64≤i+d→d<N→MI a b i s→∃j t,loopN (fun s12=>pqS 40000000 a b s12) N ((i:Int),s)=some (.inl (j,t))∧loopN (fun s4=>rpQ 40000000 a b s4) N (IY s i)=some (t.2.1.map Ie,t.1)∧MI a b t.2.1.length t:=by
 have fin:∀(i N:Nat) (s:PS),0<N→MI a b i s→i=s.2.1.length→∃j t,loopN (fun s12=>pqS 40000000 a b s12) N ((i:Int),s)=some (.inl (j,t))∧loopN (fun s4=>rpQ 40000000 a b s4) N (IY s i)=some (t.2.1.map Ie,t.1)∧MI a b t.2.1.length t:=fun i N s hN h e=>by
  obtain⟨N,rfl⟩:∃m,N=m+1:=⟨N-1,by omega⟩;rw[loopN,pqS,A3 (by simp[C8,C9];omega)];refine⟨_,_,rfl,?_,e▸h⟩;rw[loopN,rpQ,A3 (by simp only[IY,CQ,C8,C9,N2,H7,B2];omega)];rfl
 intro d
 induction d with
 |zero=>
  intro i N s hd hN h;have:=(h.fnl hab).2;have:=h.le;exact fin i N s (by omega) h (by omega)
 | succ d ih=>
  intro i N s hd hN h
  by_cases hi:i<s.2.1.length
  ·obtain⟨N,rfl⟩:∃m,N=m+1:=⟨N-1,by omega⟩;obtain⟨t,e1,e2,h1⟩:=XY hab h hi;obtain⟨j,r,g1,g2,g3⟩:=ih (i+1) N t (by omega) (by omega) h1;refine⟨j,r,?_,?_,g3⟩
   ·rw[loopN,e1];exact g1
   rw[loopN,e2];exact g2
  have:=h.le;exact fin i N s (by omega) h (by omega)
def SA {a b:A0} (hab:AB a b) (ha:DV a=0) (hb:DV b=0):∃c,Ac 40000000 a b=some (c,0)∧BS 40000000 a b=some (c,0)∧Jc c:=by
 have es:BC ([]:List (D4×Int)) (⟨0,0⟩:D4) 0=some [(⟨0,0⟩,0)]:=rfl;have hfa:=hab.oa.fi;have hfb:=hab.ob.fi
 obtain⟨j,t,e,f,h⟩:=Ah7 hab 64 0 40000000 ((⟨a.cV,[],[]⟩:A0),[(⟨0,0⟩:D4)],[(⟨0,0⟩,0)]) (by omega) (by omega)
  ⟨⟨by simp,fun q hq=>by rw[List.mem_singleton.1 hq];dsimp only;omega,fun q v=>by
   rw[M6]
   constructor
   ·intro e;cases e;exact⟨0,rfl,rfl⟩
   rintro⟨k,rfl,hk⟩
   cases k with
   |zero=>simp at hk;rw[←hk];rfl
   |succ k=>simp at hk,fun z hz=>by cases hz⟩,rfl,rfl,by simp,by simp,rfl,fun i' h=>absurd h (Jr _)⟩
 refine⟨t.1,?_,?_,Xc hab h⟩
 ·rw[Uk,SE,A1 ha,A1 hb,A1 hab.ty];simp only[A5];rw[A3 (show¬cmp .neq (0:Int) 0=true by decide),es];simp only[A5];rw[show((0:Int),(⟨a.cV,[],[]⟩:A0),[(⟨0,0⟩:D4)],[((⟨0,0⟩:D4),(0:Int))])=(((0:Nat):Int),(⟨a.cV,[],[]⟩:A0),[(⟨0,0⟩:D4)],[((⟨0,0⟩:D4),(0:Int))])from rfl,e];rfl
 rw[Rj,Se,A1 ha,A1 hb,A1 hab.ty];simp only[A5];rw[A3 (show¬cmp .neq (0:Int) 0=true by decide)];rw[show([(⟨0,0⟩:C2)],(0:Int),(⟨a.cV,[],[]⟩:A0))=IY ((⟨a.cV,[],[]⟩:A0),[(⟨0,0⟩:D4)],[((⟨0,0⟩:D4),(0:Int))]) 0 from rfl,f];simp only[A5];have hl:=(h.fnl hab).2;rw[A3 (by simp[U5,C9];omega),Ka (by rw[Wc (Xc hab h)];decide)];rfl
def OT {α:Type}:∀{l:List α} {i:Nat},fb (fun _ _=>(0:Int)) i l=0:=EG.2 fun _ _ _=>rfl
def Wm {N:Nat}{a:List A2}(hl:a.length≤100000)(hN:a.length<N):GR N a a=some true:=by
 unfold GR;rw[A3 (by simp[N8]),Bi (l:=a) (f:=fun _ _=>0) (e:=.inl ()) (b:=fun _=>.inr ()) (N:=N) ?_ ?_ hN]
 ·simp only[A5,OT,D1]
 ·intro i x hx hi;simp only[C8,Z8,CQ,Ao,C9,E7,hx,A5,U9,Jl,M5,E2,D7,B2];rw[A1 (by omega),I6 hi (by omega)];rfl
 simp[C8,C9]
def VY {p:B3}{t:Int}(h:Jf t p=0):GQ 40000000 p p=some true:=by
 obtain⟨h1,h2⟩:=DZ (Gy h).2;unfold GQ;rw[A3 (by simp[N8]),Bi (l:=p.cX) (f:=fun _ _=>0) (e:=.inl ()) (b:=fun _=>.inr ()) (N:=40000000) ?_ ?_ (by omega)]
 ·simp only[A5,OT,D1]
 ·intro i x hx hi;have:=(h2 x (G1 hx)).1;simp only[C8,Ao,C9,E7,hx,A5,B2,Wm (N:=40000000) (a:=x) (by omega) (by omega),M5,E2,D7];rw[A1 (by omega),I6 hi (by omega)];rfl
 simp[C8,C9]
def QA {s:A0} (hf:s.cT.length≤1000) (hm:s.cU.length≤10000) (hp:∀m∈s.cU,∃t,Jf t m.On=0):W4 40000000 s s=some true:=by
 unfold W4;rw[A3 (by simp[N8,GT]),Bi (l:=s.cT) (f:=fun _ _=>0) (e:=.inl ()) (b:=fun _=>.inr ()) (N:=40000000) ?_ ?_ (by omega)]
 ·simp only[A5,OT,D1];rw[Bi (l:=s.cU) (f:=fun _ _=>0) (e:=.inl ()) (b:=fun _=>.inr ()) (N:=40000000) ?_ ?_ (by omega)]
  ·simp only[A5,OT,D1]
  ·intro i m hx hi;obtain⟨t,ht⟩:=hp m (G1 hx);simp only[C8,N8,GT,Ao,C9,E7,hx,A5,B2,VY ht,U9,M5,Bool.or_self,E2,D7];rw[A1 (by omega),I6 hi (by omega)];rfl
  simp[C8,C9]
 ·intro i x hx hi;simp only[C8,Ao,C9,E7,hx,A5,B2,Ai0,M5,E2,D7];rw[A1 (by omega),I6 hi (by omega)];rfl
 simp[C8,C9]
def MU {s:A0}(h:Jc s):W4 40000000 s s=some true:=QA (by have:=h.fi;omega) (by have:=h.mv;omega) fun m hm=>⟨_,(h.each m hm).2⟩
def Ms:W4 40000000 ⟨0,[],[]⟩ ⟨0,[],[]⟩=some true:=QA (by simp) (by simp) fun m hm=>by cases hm
def XR (p r:Option (A0×Int)):Prop:=∃c e,p=some (c,e)∧r=some (c,e)∧W4 40000000 c c=some true
section
variable {a b:A0}(hfa:a.cT.length≤8)(hma:a.cU.length≤16)(sa:∀m∈a.cU,Ra m.On)(hfb:b.cT.length≤8)(hmb:b.cU.length≤16)(sb:∀m∈b.cU,Ra m.On)
include hfa hma sa
theorem Aa6:XR (S3 40000000 a) (AR 40000000 a):=by
 by_cases ha:DV a=0
 ·exact⟨Aa8 a,0,VU ha (by omega) (by omega),TS ha (by omega) (by omega),MU (Aa5 (Cy ha) (by omega) (by omega))⟩
 refine⟨⟨0,[],[]⟩,DV a,?_,?_,Ms⟩
 ·unfold S3;rw[DX (by omega)];simp only[A5];rw[A1 (by simpa[N8]using ha)]
 unfold AR;rw[Dz (by omega)];simp only[A5];rw[A1 (by simpa[N8]using ha)]
theorem XV:XR (AO 40000000 a) (DA 40000000 a):=by
 by_cases ha:DV a=0
 ·obtain⟨S,T,e,hS,hc,hz,hT⟩:=XU ha;exact⟨XW a S T,0,e,Aa3 ha hfa hma hS hc hz hT,MU (Av4 (Cy ha) hT)⟩
 refine⟨⟨0,[],[]⟩,DV a,?_,?_,Ms⟩
 ·unfold AO;rw[DX (by omega)];simp only[A5];rw[A1 (by simpa[N8]using ha)]
 unfold DA;rw[Dz (by omega)];simp only[A5];rw[A1 (by simpa[N8]using ha)]
include hfb hmb sb
theorem ZK:XR (Al 40000000 a b) (CD 40000000 a b):=by
 by_cases h:DV a=0∧DV b=0∧a.cV=b.cV
 ·obtain⟨ha,hb,ht⟩:=h;obtain⟨c,e1,i1⟩:=ZI ha hb ht (by omega) (by omega) (by omega) (by omega);obtain⟨d,e2,i2⟩:=Yp ha hb ht (by omega) (by omega) (by omega) (by omega);have:c=d:=Ah8 i1 i2;subst this;exact⟨_,0,e1,e2,MU (ZJ (Cy ha) (Cy hb) ht (by omega) (by omega) (by omega) (by omega))⟩
 have hc:(if DV a=0 then(if DV b=0 then(if a.cV=b.cV then(0:Int)else 15)else DV b)else DV a)≠0:=by
  by_cases ha:DV a=0
  ·by_cases hb:DV b=0
   ·by_cases ht:a.cV=b.cV
    ·exact absurd ⟨ha,hb,ht⟩ h
    simp[ha,hb,ht]
   simp[ha,hb]
  simp[ha]
 refine⟨⟨0,[],[]⟩,(if DV a=0 then(if DV b=0 then(if a.cV=b.cV then(0:Int)else 15)else DV b)else DV a),?_,?_,Ms⟩
 ·unfold Al;rw[SE];simp only[A5];rw[A1 (by simpa[N8]using hc)]
 unfold CD;rw[Se];simp only[A5];rw[A1 (by simpa[N8]using hc)]
theorem Yz:XR (Ac 40000000 a b) (BS 40000000 a b):=by
 by_cases h:DV a=0∧DV b=0∧a.cV=b.cV
 ·obtain⟨ha,hb,ht⟩:=h;obtain⟨c,e1,e2,k⟩:=SA (a:=a) (b:=b) ⟨Cy ha,Cy hb,ht,hfa,hfb,hma,hmb,sa,sb⟩ ha hb;exact⟨c,0,e1,e2,MU k⟩
 have hc:(if DV a=0 then(if DV b=0 then(if a.cV=b.cV then(0:Int)else 15)else DV b)else DV a)≠0:=by
  by_cases ha:DV a=0
  ·by_cases hb:DV b=0
   ·by_cases ht:a.cV=b.cV
    ·exact absurd ⟨ha,hb,ht⟩ h
    simp[ha,hb,ht]
   simp[ha,hb]
  simp[ha]
 refine⟨⟨0,[],[]⟩,(if DV a=0 then(if DV b=0 then(if a.cV=b.cV then(0:Int)else 15)else DV b)else DV a),?_,?_,Ms⟩
 ·rw[Uk,SE];simp only[A5];rw[A1 (by simpa[N8]using hc)]
 rw[Rj,Se];simp only[A5];rw[A1 (by simpa[N8]using hc)]
end
def SY (aw:CI 40000000=some true) (a b:A0):Z6 40000000 a b=some true:=by
 obtain⟨f,e1,h1⟩:=WT (N:=40000000) (s:=a) (by omega);obtain⟨g,e2,h2⟩:=WT (N:=40000000) (s:=b) (by omega);unfold Z6;rw[e1,e2,aw];simp only[A5]
 cases f with
 |false=>rfl
 | true=>
  cases g with
  |false=>rfl
  |true=>
   obtain⟨fa,ma,sa⟩:=h1 rfl;obtain⟨fb,mb,sb⟩:=h2 rfl;have sa':∀m∈a.cU,Ra m.On:=fun m hm=>(sa m hm).2;have sb':∀m∈b.cU,Ra m.On:=fun m hm=>(sb m hm).2;obtain⟨c1,v1,p1,r1,s1⟩:=Yz fa ma sa' fb mb sb';obtain⟨c2,v2,p2,r2,s2⟩:=ZK fa ma sa' fb mb sb';obtain⟨c3,v3,p3,r3,s3⟩:=Aa6 fa ma sa';obtain⟨c4,v4,p4,r4,s4⟩:=XV fa ma sa';have hn:Ar.nt true=false:=rfl
   have ht:∀v:Int,Ar.an true (cmp .eql v v)=true:=fun v=>by simp[CQ,Z8]
   simp only[hn,E2,D7,p1,r1,s1,p2,r2,s2,p3,r3,s3,p4,r4,s4,A5,ht,D1]
end Go.Ab
namespace Go.Ab
open Go.RowKit Go.ChangeShapes Go.WideShapes Go.ChangeAt Go.Proofs Go.Proofs.YtildiiggamckaaaGreatDoor
set_option maxRecDepth 100000
mutual
def Nv:M4→V
 |⟨op,args,var,field,kind,val⟩=>.agg [.int .i64 op,.sl (UY args) .ro,.int .i64 var,.int .i64 field,.int .i64 kind,.int .i64 val.Kind,.int .i64 val.Num,.str val.Text]
def UY:List M4→List V
 |[]=>[]
 |a::r=>Nv a::UY r
end
def RN:∀l:List M4,UY l=l.map Nv
 |[]=>by simp[UY]
 |a::r=>by simp[UY,RN r]
mutual
def YZ:B1→V
 |⟨op,args,typ,var,scope,span,c⟩=>.agg [.int .i64 op,.sl (UV args) .ro,.int .i64 typ,.int .i64 var,.int .i64 scope,.int .i64 span,.int .i64 c.Op,.sl (c.dA.map Nv) .ro,.int .i64 c.Var,.int .i64 c.Field,.int .i64 c.Kind,.int .i64 c.Value.Kind,.int .i64 c.Value.Num,.str c.Value.Text]
def UV:List B1→List V
 |[]=>[]
 |a::r=>YZ a::UV r
end
def RI:∀l:List B1,UV l=l.map YZ
 |[]=>by simp[UV]
 |a::r=>by simp[UV,RI r]
noncomputable def MK (x:A2):V:=.agg [.int .i64 x.Low,.int .i64 x.cZ]
noncomputable def HZ (x:List A2):V:=.sl (lst MK x) .ro
noncomputable def QU (x:B3):V:=.agg [.sl (lst HZ x.cX) .ro]
noncomputable def Qk (x:B5):V:=.agg [.int .i64 x.cW,.int .i64 x.To,.sl (lst HZ x.On.cX) .ro]
noncomputable def SV (x:A0):V:=.agg [.int .i64 x.cV,.sl (lst V.bool x.cT) .ro,.sl (lst Qk x.cU) .ro]
noncomputable def Qi (x:H9):V:=.agg [.int .i64 x.Typ,.int .i64 x.Num]
noncomputable def RM (x:Ic):V:=.agg [.str x.Name,.int .i64 x.Kind]
noncomputable def Qj (x:Ch):V:=.agg [.str x.Name,.sl (lst RM x.Fields) .ro]
noncomputable def Zc (x:X8):V:=.agg [.int .i64 x.Kind,.int .i64 x.Num,.str x.Text]
noncomputable def RK (x:Gq):V:=.agg [.int .i64 x.dC,.int .i64 x.Typ,.int .i64 x.Var,.int .i64 x.cY.Op,.sl (lst Nv x.cY.dA) .ro,.int .i64 x.cY.Var,.int .i64 x.cY.Field,.int .i64 x.cY.Kind,.int .i64 x.cY.Value.Kind,.int .i64 x.cY.Value.Num,.str x.cY.Value.Text]
noncomputable def RJ (x:Mc):V:=.agg [.sl (lst RK x.dL) .ro]
noncomputable def Le (x:BJ):V:=.agg [.int .i64 x.dC,.int .i64 x.Span]
noncomputable def UX (x:E4):V:=.agg [.int .i64 x.cW,.int .i64 x.To,.int .i64 x.Var,.int .i64 x.Typ,.int .i64 x.cY.Op,.sl (lst Nv x.cY.dA) .ro,.int .i64 x.cY.Var,.int .i64 x.cY.Field,.int .i64 x.cY.Kind,.int .i64 x.cY.Value.Kind,.int .i64 x.cY.Value.Num,.str x.cY.Value.Text,.sl (lst (V.int .i64) x.dH) .ro,.sl (lst (V.int .i64) x.dG) .ro,.sl (lst Nv x.dF) .ro,.sl (lst Le x.dI) .ro,.sl (lst (V.int .i64) x.dJ) .ro]
noncomputable def QV (x:P7):V:=.agg [.int .i64 x.Vars,.int .i64 x.dK,.sl (lst RJ x.dD) .ro,.sl (lst UX x.dE) .ro]
noncomputable def Ah0 (x:D4):V:=.agg [.int .i64 x.E0,.int .i64 x.E1]
noncomputable def IQ (x:C2):V:=.agg [.int .i64 x.a,.int .i64 x.b]
noncomputable def MJ (x:S7):V:=.agg [.str x.Name,.int .i64 x.Typ]
noncomputable def Qh (x:Bp):V:=.agg [.sl (lst Qj x.types) .ro,.sl (lst MJ x.vars) .ro]
noncomputable def LU (x:G4):V:=.agg [.int .i64 x.times,.int .i64 x.plus]
noncomputable def IR (x:Gv):V:=.agg [.int .i64 x.Edge.cW,.int .i64 x.Edge.To,.int .i64 x.Edge.Var,.int .i64 x.Edge.Typ,.int .i64 x.Edge.cY.Op,.sl (lst Nv x.Edge.cY.dA) .ro,.int .i64 x.Edge.cY.Var,.int .i64 x.Edge.cY.Field,.int .i64 x.Edge.cY.Kind,.int .i64 x.Edge.cY.Value.Kind,.int .i64 x.Edge.cY.Value.Num,.str x.Edge.cY.Value.Text,.sl (lst (V.int .i64) x.Edge.dH) .ro,.sl (lst (V.int .i64) x.Edge.dG) .ro,.sl (lst Nv x.Edge.dF) .ro,.sl (lst Le x.Edge.dI) .ro,.sl (lst (V.int .i64) x.Edge.dJ) .ro,.bool x.Done,.int .i64 x.Rest.Op,.sl (lst YZ x.Rest.dA) .ro,.int .i64 x.Rest.Typ,.int .i64 x.Rest.Var,.int .i64 x.Rest.dC,.int .i64 x.Rest.Span,.int .i64 x.Rest.cY.Op,.sl (lst Nv x.Rest.cY.dA) .ro,.int .i64 x.Rest.cY.Var,.int .i64 x.Rest.cY.Field,.int .i64 x.Rest.cY.Kind,.int .i64 x.Rest.cY.Value.Kind,.int .i64 x.Rest.cY.Value.Num,.str x.Rest.cY.Value.Text]
noncomputable def Lj (x:A6):V:=.agg [.bool x.done,.int .i64 x.p.Op,.sl (lst YZ x.p.dA) .ro,.int .i64 x.p.Typ,.int .i64 x.p.Var,.int .i64 x.p.dC,.int .i64 x.p.Span,.int .i64 x.p.cY.Op,.sl (lst Nv x.p.cY.dA) .ro,.int .i64 x.p.cY.Var,.int .i64 x.p.cY.Field,.int .i64 x.p.cY.Kind,.int .i64 x.p.cY.Value.Kind,.int .i64 x.p.cY.Value.Num,.str x.p.cY.Value.Text]
noncomputable def MH (x:X7):V:=.agg [.int .i64 x.least,.int .i64 x.most,.bool x.typed,.bool x.cond,.bool x.scope,.bool x.span]
noncomputable def AC4 (x:List Bool):V:=.sl (lst V.bool x) .ro
noncomputable def Za (x:List B5):V:=.sl (lst Qk x) .ro
noncomputable def UW (x:List H9):V:=.sl (lst Qi x) .ro
noncomputable def Zb (x:List M4):V:=.sl (lst Nv x) .ro
noncomputable def AC3 (x:List Int):V:=.sl (lst (V.int .i64) x) .ro
noncomputable def Wy (x:List BJ):V:=.sl (lst Le x) .ro
noncomputable instance encsInst :K8 where
 eAD7:=MK
 eAE2:=fun _=>rfl
 eAH1:=QU
 eAG0:=fun _=>rfl
 eAD6:=Qk
 eAD9:=fun _=>rfl
 eAG4:=SV
 eAH2:=fun _=>rfl
 eAE7:=Qi
 eAG3:=fun _=>rfl
 eAG5:=RM
 eAH8:=fun _=>rfl
 eAF4:=Qj
 eAH3:=fun _=>rfl
 eAI3:=Zc
 eAJ0:=fun _=>rfl
 eAE4:=Nv
 eAF1:=fun⟨_,_,_,_,_,_⟩=>by simp only[Nv,RN];rfl
 eAD8:=YZ
 eAE6:=fun⟨_,_,_,_,_,_,_⟩=>by simp only[YZ,RI];rfl
 eAF7:=RK
 eAI1:=fun _=>rfl
 eAF5:=RJ
 eAI2:=fun _=>rfl
 eAE9:=Le
 eAH4:=fun _=>rfl
 eAE0:=UX
 eAF8:=fun _=>rfl
 eAI4:=QV
 eAJ1:=fun _=>rfl
 eAE1:=Ah0
 eAF2:=fun _=>rfl
 eAE8:=IQ
 eAF9:=fun _=>rfl
 eAF0:=MJ
 eAH0:=fun _=>rfl
 eAI5:=Qh
 eAJ2:=fun _=>rfl
 eAI6:=LU
 eAJ3:=fun _=>rfl
 eAI7:=IR
 eAJ4:=fun _=>rfl
 eAI8:=Lj
 eAJ5:=fun _=>rfl
 eAH9:=MH
 eAI9:=fun _=>rfl
 eLB:=AC4
 eAG1:=fun _=>rfl
 eAF6:=Za
 eAF3:=fun _=>rfl
 eAI0:=UW
 eAH5:=fun _=>rfl
 eAG7:=Zb
 eAH6:=fun _=>rfl
 eLI:=AC3
 eAG2:=fun _=>rfl
 eAG9:=Wy
 eAH7:=fun _=>rfl
 eAE3:=HZ
 eAE5:=fun _=>rfl
section
variable [L6]{H:Type}{enc:TypeId×Value→H}{W:World}{base:Nat}{spare:Nat→Bool}{held:Bool}
abbrev bk (d:DataW H):Nat:=Rows.uptoBulk d
noncomputable def ST (P:Program)(t:TypeId):Array Field:=match P.underlying t with|some (.struct fs)=>fs|_=> #[]
def An {P:Program} {t ty off sz:Nat} {xs:List (DataW H×List MemPlace)} {cs:List Value} {n:Nat} (hl:xs.length=(ST P t).size)
 (hf:∀(i:Nat) (f:Field),(ST P t)[i]? =some f→DataW.trod enc P W base spare held n f.type ((cs.drop f.offset).take (P.cellsOf f.type))=xs[i]?) (i:Nat)
 (h:((ST P t)[i]?.map fun f=>(f.type,f.offset,P.cellsOf f.type))=some (ty,off,sz)):∃y,xs[i]? =some y∧DataW.trod enc P W base spare held n ty ((cs.drop off).take sz)=some y:=by
 cases hi:(ST P t)[i]? with
 |none=>rw[hi]at h;cases h
 |some f=>
  rw[hi]at h
  simp only[J4,E8,AJ]at h
  obtain⟨rfl,rfl,rfl⟩:=h;exact Wu hl hf i hi
def Opens.down {α:Type}{P:Program}{t:TypeId}{f:α→V}{R:α→DataW H→Prop}{n:Nat}(h:Opens enc P W base spare held t f R (n+1)):Opens enc P W base spare held t f R n:=fun cs x hx=>h cs x (DataW.trod_le (Nat.le_succ n) hx)
def Opens.imp {α:Type}{P:Program}{t:TypeId}{f:α→V}{R R':α→DataW H→Prop}{n:Nat}(h:Opens enc P W base spare held t f R n)(hi:∀a d,R a d→R' a d):Opens enc P W base spare held t f R' n:=fun cs x hx=>by
 obtain⟨a,r,q⟩:=h cs x hx;exact⟨a,r,hi _ _ q⟩
def Opens.congr {α:Type}{P:Program}{t:TypeId}{f g:α→V}{R:α→DataW H→Prop}{n:Nat}(h:Opens enc P W base spare held t f R n)(hg:∀x,f x=g x):Opens enc P W base spare held t g R n:=fun cs x hx=>by
 obtain⟨a,r,q⟩:=h cs x hx;exact⟨a,by rw[←hg];exact r,q⟩
def u25:Tryz.prog.underlying 25=some (.struct (ST Tryz.prog 25)):=by kernel_rfl
def u3:Tryz.prog.underlying 3=some (.int .i64):=by kernel_rfl
def PI (n:Nat):Opens enc Tryz.prog W base spare held 3 (V.int .i64) (fun _ _=>True) n:=(Nj u3).imp fun _ _ _=>trivial
def u22:Tryz.prog.underlying 22=some (.slice 4):=by kernel_rfl
def u4:Tryz.prog.underlying 4=some .bool:=by kernel_rfl
def Aw5 (n:Nat):Opens enc Tryz.prog W base spare held 4 V.bool (fun _ _=>True) n:=(GU u4).imp fun _ _ _=>trivial
def Ao1 (n:Nat):Opens enc Tryz.prog W base spare held 22 (fun l:List Bool=>.sl (lst V.bool l) .ro) (fun _ _=>True) n:=
 Opens.down (((HE u22 (show 0<Tryz.prog.cellsOf 4 by rw[show Tryz.prog.cellsOf 4=1 by kernel_rfl];decide) (Aw5 n)).imp fun _ _ _=>trivial).congr fun x=>by rw[lst_eq])
def u23:Tryz.prog.underlying 23=some (.slice 73):=by kernel_rfl
def u73:Tryz.prog.underlying 73=some (.struct (ST Tryz.prog 73)):=by kernel_rfl
def u71:Tryz.prog.underlying 71=some (.struct (ST Tryz.prog 71)):=by kernel_rfl
def u69:Tryz.prog.underlying 69=some (.slice 147):=by kernel_rfl
def u147:Tryz.prog.underlying 147=some (.slice 149):=by kernel_rfl
def u149:Tryz.prog.underlying 149=some (.struct (ST Tryz.prog 149)):=by kernel_rfl
def Ac3 (n:Nat):Opens enc Tryz.prog W base spare held 149 K8.eAD7 (fun _ _=>True) n:=by
 intro cs x h;obtain⟨xs,m,hm,rfl,hcl,hl,hf⟩:=FJ u149 h;subst hm;obtain⟨y0,k0,t0⟩:=An hl hf 0 (ty:=3) (off:=0) (sz:=1) (by kernel_rfl);obtain⟨y1,k1,t1⟩:=An hl hf 1 (ty:=3) (off:=1) (sz:=1) (by kernel_rfl);obtain⟨a0,r0,q0⟩:=PI _ _ _ t0;obtain⟨a1,r1,q1⟩:=PI _ _ _ t1;refine⟨⟨a0,a1⟩,?_,?_⟩
 ·have hc3:cs.length=2:=hcl.trans (by kernel_rfl);have:=r0.join r1;rw[K8.eAE2]
  simp only[lst_eq]at this ⊢
  simpa[P2,hc3,V.cells]using this
 trivial
def Ac4 (n:Nat):Opens enc Tryz.prog W base spare held 147 (fun l:List A2=>.sl (lst K8.eAD7 l) .ro) (fun _ _=>True) n:=
 Opens.down (((HE u147 (show 0<Tryz.prog.cellsOf 149 by rw[show Tryz.prog.cellsOf 149=2 by kernel_rfl];decide) (Ac3 n)).imp fun _ _ _=>trivial).congr fun x=>by rw[lst_eq])
def An8 (n:Nat):Opens enc Tryz.prog W base spare held 69 (fun l:List (List A2)=>.sl (lst K8.eAE3 l) .ro) (fun _ _=>True) n:=
 Opens.down (((HE u69 (show 0<Tryz.prog.cellsOf 147 by rw[show Tryz.prog.cellsOf 147=1 by kernel_rfl];decide) ((Ac4 n).congr fun x=>(K8.eAE5 x).symm)).imp fun _ _ _=>trivial).congr fun x=>by rw[lst_eq])
def An7 (n:Nat):Opens enc Tryz.prog W base spare held 71 K8.eAH1 (fun _ _=>True) n:=by
 intro cs x h;obtain⟨xs,m,hm,rfl,hcl,hl,hf⟩:=FJ u71 h;subst hm;obtain⟨y0,k0,t0⟩:=An hl hf 0 (ty:=69) (off:=0) (sz:=1) (by kernel_rfl);obtain⟨a0,r0,q0⟩:=An8 _ _ _ t0;refine⟨⟨a0⟩,?_,?_⟩
 ·have hc3:cs.length=1:=hcl.trans (by kernel_rfl);have:=r0;rw[K8.eAG0]
  simp only[lst_eq]at this ⊢
  simpa[P2,hc3,V.cells]using this
 trivial
def An6 (n:Nat):Opens enc Tryz.prog W base spare held 73 K8.eAD6 (fun _ _=>True) n:=by
 intro cs x h;obtain⟨xs,m,hm,rfl,hcl,hl,hf⟩:=FJ u73 h;subst hm;obtain⟨y0,k0,t0⟩:=An hl hf 0 (ty:=3) (off:=0) (sz:=1) (by kernel_rfl);obtain⟨y1,k1,t1⟩:=An hl hf 1 (ty:=3) (off:=1) (sz:=1) (by kernel_rfl);obtain⟨y2,k2,t2⟩:=An hl hf 2 (ty:=71) (off:=2) (sz:=1) (by kernel_rfl);obtain⟨a0,r0,q0⟩:=PI _ _ _ t0;obtain⟨a1,r1,q1⟩:=PI _ _ _ t1;obtain⟨a2,r2,q2⟩:=An7 _ _ _ t2;refine⟨⟨a0,a1,a2⟩,?_,?_⟩
 ·have hc3:cs.length=3:=hcl.trans (by kernel_rfl)
  rw[K8.eAG0]at r2
  have:=(r0.join r1).join r2;rw[K8.eAD9]
  simp only[lst_eq]at this ⊢
  simpa[P2,hc3,V.cells]using this
 trivial
def Ao0 (n:Nat):Opens enc Tryz.prog W base spare held 23 (fun l:List B5=>.sl (lst K8.eAD6 l) .ro) (fun _ _=>True) n:=
 Opens.down (((HE u23 (show 0<Tryz.prog.cellsOf 73 by rw[show Tryz.prog.cellsOf 73=3 by kernel_rfl];decide) (An6 n)).imp fun _ _ _=>trivial).congr fun x=>by rw[lst_eq])
def An9 (n:Nat):Opens enc Tryz.prog W base spare held 25 K8.eAG4 (fun _ _=>True) n:=by
 intro cs x h;obtain⟨xs,m,hm,rfl,hcl,hl,hf⟩:=FJ u25 h;subst hm;obtain⟨y0,k0,t0⟩:=An hl hf 0 (ty:=3) (off:=0) (sz:=1) (by kernel_rfl);obtain⟨y1,k1,t1⟩:=An hl hf 1 (ty:=22) (off:=1) (sz:=1) (by kernel_rfl);obtain⟨y2,k2,t2⟩:=An hl hf 2 (ty:=23) (off:=2) (sz:=1) (by kernel_rfl);obtain⟨a0,r0,q0⟩:=PI _ _ _ t0;obtain⟨a1,r1,q1⟩:=Ao1 _ _ _ t1;obtain⟨a2,r2,q2⟩:=Ao0 _ _ _ t2;refine⟨⟨a0,a1,a2⟩,?_,?_⟩
 ·have hc3:cs.length=3:=hcl.trans (by kernel_rfl);have:=(r0.join r1).join r2;rw[K8.eAH2]
  simp only[lst_eq]at this ⊢
  simpa[P2,hc3,V.cells]using this
 trivial
def Lr {v:Value}{d:DataW H}{p:List MemPlace}(hv:Value.okWide Tryz.prog W .any base 25 v)(h:DataW.Trod enc Tryz.prog W 0 (fun _=>true) true 25 v d p):∃x:A0,VR (g0 W) W v (K8.eAG4 x):=by
 obtain⟨fuel,ht⟩:=h;obtain⟨cs,rfl,hcs⟩:=okWide_struct u25 hv;obtain⟨x,hr,hb⟩:=An9 fuel _ _ ht;have hr':Gn (g0 W) W cs.toList (K8.eAG4 x).cells:=hr;refine⟨x,?_⟩;have:=hr'.agg
 rw[K8.eAH2]at this ⊢
 exact this
def Ap1 {f:FuncId}{vals:Array Value}{args:List V}(hg:∀n,VR (g0 W) W (.pointer (some ⟨n,0,none⟩)) (L6.gl n))(hcall:∀vals w,(callFunc f vals).run Tryz.prog w= .ok (.enter f vals) w)(law:C7 Tryz.prog f args (.bool true))(hA:Args (g0 W) W vals args):
 Calls Tryz.prog f vals W fun e W'=>e= .returned (.bool true)∧Below W.heap.size W W':=by
 have hc:=law (fun _=>none) (g0 W) W vals (rl0 hg) hA
 rw[hcall]at hc
 refine(callsIn_wide.1 hc).mono fun e W' ⟨v,he,g',y,H',hs,hR,hvy,hy,_⟩=>?_;subst hy;cases hvy;exact⟨he,hs.low⟩
def AC8 {v0 v1:Value}{x0 x1:V}(h0:VR (g0 W) W v0 x0)(h1:VR (g0 W) W v1 x1):Args (g0 W) W #[v0,v1] [x0,x1]:=⟨rfl,fun i hi=>by
 match i,hi with
 |0,_=>exact h0
 |1,_=>exact h1⟩
end
end Go.Ab
namespace Go.Ab
open Go.RowKit Go.ChangeShapes Go.WideShapes Go.ChangeAt Go.Proofs Go.Proofs.YtildiiggamckaaaGreatDoor
set_option maxRecDepth 100000
section
variable {H:Type}{enc:TypeId×Value→H}{W:World}{base:Nat}{spare:Nat→Bool}{held:Bool}
def u294:Tryz.prog.underlying 294=some (.array R8.length 293):=by kernel_rfl
def u293:Tryz.prog.underlying 293=some (.struct (ST Tryz.prog 293)):=by kernel_rfl
def Wb (n:Nat):Opens enc Tryz.prog W base spare held 293 K8.eAH9 (fun(a:X7) d=>d= .agg [.lit (.int .i64 a.least),.lit (.int .i64 a.most),.lit (.bool a.typed),.lit (.bool a.cond),.lit (.bool a.scope),.lit (.bool a.span)]) n:=by
 intro cs x h;obtain⟨xs,m,rfl,rfl,hcl,hl,hf⟩:=FJ u293 h;obtain⟨y0,k0,t0⟩:=An hl hf 0 (ty:=3) (off:=0) (sz:=1) (by kernel_rfl);obtain⟨y1,k1,t1⟩:=An hl hf 1 (ty:=3) (off:=1) (sz:=1) (by kernel_rfl);obtain⟨y2,k2,t2⟩:=An hl hf 2 (ty:=4) (off:=2) (sz:=1) (by kernel_rfl);obtain⟨y3,k3,t3⟩:=An hl hf 3 (ty:=4) (off:=3) (sz:=1) (by kernel_rfl);obtain⟨y4,k4,t4⟩:=An hl hf 4 (ty:=4) (off:=4) (sz:=1) (by kernel_rfl);obtain⟨y5,k5,t5⟩:=An hl hf 5 (ty:=4) (off:=5) (sz:=1) (by kernel_rfl)
 have hxs:xs=[y0,y1,y2,y3,y4,y5]:=match xs,hl.trans (show _=6 by kernel_rfl),k0,k1,k2,k3,k4,k5 with|[_,_,_,_,_,_],_,rfl,rfl,rfl,rfl,rfl,rfl=>rfl
 obtain⟨a0,r0,q0⟩:=Nj u3 _ _ t0;obtain⟨a1,r1,q1⟩:=Nj u3 _ _ t1;obtain⟨a2,r2,q2⟩:=GU u4 _ _ t2;obtain⟨a3,r3,q3⟩:=GU u4 _ _ t3;obtain⟨a4,r4,q4⟩:=GU u4 _ _ t4;obtain⟨a5,r5,q5⟩:=GU u4 _ _ t5;refine⟨⟨a0,a1,a2,a3,a4,a5⟩,?_,?_⟩
 ·have hc3:cs.length=6:=hcl.trans (by kernel_rfl);have:=((((r0.join r1).join r2).join r3).join r4).join r5;rw[K8.eAI9]
  simpa[P2,hc3,V.cells]using this
 rw[hxs];simp only[G2,J3,q0,q1,q2,q3,q4,q5]
def Rh:∀(l k:List X7),(RL (H:=H) (fun(a:X7) d=>d= .agg [.lit (.int .i64 a.least),.lit (.int .i64 a.most),.lit (.bool a.typed),.lit (.bool a.cond),.lit (.bool a.scope),.lit (.bool a.span)]) l
 (k.map fun a=>.agg [.lit (.int .i64 a.least),.lit (.int .i64 a.most),.lit (.bool a.typed),.lit (.bool a.cond),.lit (.bool a.scope),.lit (.bool a.span)]))→l=k
 |[],[],_=>rfl
 |[],_::_,h=>by have:=h.1;simp at this
 |_::_,[],h=>by have:=h.1;simp at this
 |a::l,b::k,h=>by
  have h0:=h.2 0 a _ rfl rfl;have h1:=Rh l k ⟨by simpa using h.1,fun i a d hi hd=>h.2 (i+1) a d (by simpa using hi) (by simpa using hd)⟩;subst h1;obtain⟨a0,a1,a2,a3,a4,a5⟩:=a;obtain⟨b0,b1,b2,b3,b4,b5⟩:=b
  simp at h0
  simp[h0]
def UE (h:laidMetH Tryz.prog Rows.symbolicChecksRow.laid W):VR (g0 W) W (.pointer (some ⟨0,0,none⟩)) (L6.gl 0):=by
 have h':laidMet Tryz.prog Rows.symbolicChecksRow.laid W:=h;obtain⟨ps,⟨g',t',cs,fuel,p,q,hg',ht',hvar,hd,_,_⟩,_⟩:=h';obtain rfl:g'=0:=Ck (hg'.symm.trans (by kernel_rfl));obtain rfl:t'=294:=Ck (ht'.symm.trans (by kernel_rfl));obtain⟨l,hr,ds,hds,hl⟩:=Ur u294 (by kernel_rfl) (by decide) (fun n=>Wb n) hd
 have e:ds=R8.map fun a=>.agg [.lit (.int .i64 a.least),.lit (.int .i64 a.most),.lit (.bool a.typed),.lit (.bool a.cond),.lit (.bool a.scope),.lit (.bool a.span)]:=by
  have e2:(Rows.laid_tidegate_pattern_shapes:DataW Unit)= .agg ds:=hds;have e3:(Rows.laid_tidegate_pattern_shapes:DataW Unit)= .agg (R8.map fun a=>.agg [.lit (.int .i64 a.least),.lit (.int .i64 a.most),.lit (.bool a.typed),.lit (.bool a.cond),.lit (.bool a.scope),.lit (.bool a.span)]):=rfl
  rw[e3]at e2
  exact(DataW.agg.inj e2).symm
 subst e;obtain rfl:=Rh _ _ hl;exact UK hg' hvar hr
def Ax4 (h:laidMetH Tryz.prog Rows.symbolicChecksRow.laid W):∀n,VR (g0 W) W (.pointer (some ⟨n,0,none⟩)) (L6.gl n)
 |0=>UE h
 |_+1=>.bad _
end
end Go.Ab
