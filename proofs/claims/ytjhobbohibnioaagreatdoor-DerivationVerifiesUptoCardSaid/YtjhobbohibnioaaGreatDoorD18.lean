/- GVR1 GVR2 GVV0 GVV1 GVV2 GVV3 GVV5 GVV6 GVV7 GVW0 GVW1 -/
import Derived.Test.YtjhobbohibnioaaGreatDoorD17
set_option linter.all false
open List (append_nil concat_eq_append)
open Go.Ab.Ar (an ar cmp nt scmp)
namespace Go.Ab
mutual
theorem Od :∀x:B4,(∀y∈x.pre,y.Value.Text.size≤64)→x.bulk≤74*x.pre.length
 |⟨op,args,var,field,kind,v⟩,h=>by
  have h1:=Ma args fun y hy=>h y (by rw[B4.pre];exact List.mem_cons_of_mem _ hy);have h2:v.Text.size≤64:=h ⟨op,args,var,field,kind,v⟩ (by rw[B4.pre];exact List.mem_cons_self ..);simp only[B4.bulk,B4.pre,List.length_cons];omega
theorem Ma :∀l:List B4,(∀y∈B4.pres l,y.Value.Text.size≤64)→B4.bulks l≤1+74*(B4.pres l).length
 |[],_=>by simp[B4.bulks]
 |a::l,h=>by
  have h1:=Od a fun y hy=>h y (by rw[B4.pres];exact List.mem_append_left _ hy);have h2:=Ma l fun y hy=>h y (by rw[B4.pres];exact List.mem_append_right _ hy);simp only[B4.bulks,B4.pres,List.length_append];omega
end
theorem Ju :(⟨#[]⟩:ByteArray).size=0:=rfl
theorem TH {v:A6}(h:OE v=true):v.Text.size≤64:=by
 simp only[OE,H6,C5,DC,Bool.and_eq_true,decide_eq_true_eq]at h
 rw[h.2.2.1,Ju];omega
theorem Ro {v:A6} (h:J3 v=0):v.Text.size≤64:=by
 unfold J3 at h
 by_cases h1:v.Kind=0∨v.Kind=1
 ·rw[if_pos h1]at h
  by_cases h2:v.Text≠⟨#[]⟩
  ·rw[if_pos h2]at h;cases h
  have:v.Text=⟨#[]⟩:=Classical.not_not.1 h2;rw[this,Ju];omega
 rw[if_neg h1]at h
 by_cases h2:v.Kind=2
 ·rw[if_pos h2]at h
  by_cases h3:v.Num≠0
  ·rw[if_pos h3]at h;cases h
  rw[if_neg h3]at h
  by_cases h4:64<(v.Text.size:Int)
  ·rw[if_pos h4]at h;cases h
  omega
 rw[if_neg h2]at h;cases h
theorem QK {x:B4} (h:Y9 x=0):x.Value.Text.size≤64:=by
 unfold Y9 at h
 by_cases h0:x.Op<0∨12<x.Op
 ·rw[if_pos h0]at h;cases h
 rw[if_neg h0]at h
 by_cases h1:(x.cK.length:Int)≠(if x.Op<5 then 0 else if x.Op=12 then 1 else 2)
 ·rw[if_pos h1]at h;cases h
 rw[if_neg h1]at h
 by_cases h2:Qp x=true
 ·rw[if_pos h2]at h;cases h
 rw[if_neg h2]at h
 by_cases h3:Ny x=true
 ·rw[if_pos h3]at h;cases h
 rw[if_neg h3]at h
 by_cases h4:x.Op=4∨x.Op=0
 ·by_cases h5:J3 x.Value=0
  ·exact Ro h5
  rw[if_pos ⟨h4,h5⟩]at h;exact absurd h h5
 rw[if_neg (fun e=>h4 e.1),if_neg (fun e=>h4 (.inl e.1))]at h
 by_cases h6:EN x=true
 ·rw[if_pos h6]at h;cases h
 have h7:OE x.Value=true:=by
  have n4:¬x.Op=4:=fun e=>h4 (.inl e);have n0:¬x.Op=0:=fun e=>h4 (.inr e)
  cases hz:OE x.Value with
  |true=>rfl
  |false=>
   refine absurd ?_ h6;simp[EN,G9,H6,K6,C5,n4,n0,hz]
 exact TH h7
theorem Mi {c:B4}(h:L8 c=0):c.bulk≤4736:=by
 have hp:¬64<c.pre.length:=fun e=>by rw[L8,if_pos e]at h;cases h
 have hd:¬12<c.dep:=fun e=>by rw[L8,if_neg hp,if_pos e]at h;cases h
 rw[L8,if_neg hp,if_neg hd]at h
 have:=Od c fun y hy=>QK (Dp.1 h y hy);omega
theorem Np {N:Nat} (hN:40000000≤N) {y:A0} (hb:y.bulk≤16777216) (hl:y.cK.length≤64) (h:Bw N y=0):(0≤y.Op∧y.Op≤10)∧∃s ng,KW N y s ng∧y.cL.bulk≤4736:=by
 have hc:y.cL.bulk≤16777216:=by have:=A0.bulk_eq y;omega
 have hop:0≤y.Op∧y.Op≤10:=by
  by_cases ho:0≤y.Op∧y.Op≤10
  ·exact ho
  have h1:=(El hN hb hl).1
  unfold R6 at h1
  rw[if_pos (Ak5 ho).1,h]at h1
  cases h1
 obtain⟨s,ng,hs⟩:=MX N y hop.1 hop.2 hl;have hz:=Ak2 hN N y.cL (⟨0,[],0,0,0,(⟨0,0,⟨#[]⟩⟩:A6)⟩:B4) (by omega) hc;have h1:=GR hN hc hop.1 hop.2 hs hz
 rw[(El hN hb hl).2,h]at h1
 have h1:=Option.some.inj h1;refine⟨hop,s,ng,hs,?_⟩
 by_cases ha:s.cR≤y.cK.length∧(y.cK.length:Int)≤s.most
 ·rw[if_pos ha]at h1
  unfold JF at h1
  by_cases e1:DM s.cN y.Typ 15=true
  ·rw[if_pos e1]at h1;cases h1
  rw[if_neg e1]at h1
  by_cases e2:DM s.cN y.Var 15=true
  ·rw[if_pos e2]at h1;cases h1
  rw[if_neg e2]at h1
  by_cases e3:DM s.scope y.cO 63=true
  ·rw[if_pos e3]at h1;cases h1
  rw[if_neg e3]at h1
  by_cases e4:DM s.span y.Span 1099511627776=true
  ·rw[if_pos e4]at h1;cases h1
  rw[if_neg e4]at h1
  by_cases e5:s.cond=true
  ·by_cases e6:L8 y.cL=0
   ·exact Mi e6
   rw[if_pos ⟨e5,e6⟩]at h1;exact absurd h1.symm e6
  rw[if_neg (fun e=>e5 e.1)]at h1
  by_cases e6:y.cL=(⟨0,[],0,0,0,(⟨0,0,⟨#[]⟩⟩:A6)⟩:B4)
  ·rw[e6];simp only[B4.bulk,B4.bulks,Ju];omega
  rw[if_neg (fun e=>by
   have:=e.1
   rw[decide_eq_false e6]at this
   simp[e5]at this)]at h1
  cases h1
 rw[if_neg ha]at h1;cases h1
end Go.Ab
namespace Go.Ab
def cnt :List (Bool×Bool×A0)→Int→Int→Bool
 |[],_,_=>true
 |y::l,v,s=>(if y.1=true then decide (y.2.2.Var=v)else true)&&(if y.2.1=true then decide (y.2.2.cO=s)else true)&&cnt l (if y.1=true then v+1 else v) (if y.2.1=true then s+1 else s)
noncomputable def Fh (y:A0):Bool:=match B9 H7 y.Op with|some s=>s.cN|none=>false
noncomputable def Fi (y:A0):Bool:=match B9 H7 y.Op with|some s=>s.scope|none=>false
noncomputable def QM (l:List A0):Bool:=cnt (l.map fun y=>(Fh y,Fi y,y)) 0 0
def ZW (N:Nat)(y:A0):Prop:=∃s ng,KW N y s ng
theorem NG {N:Nat}(hN:40000000≤N){x:A0}(hb:x.bulk≤16777216)(hz:Q5 N x=0):∀y∈x.pre,ZW N y:=fun y hy=>by
 obtain⟨hp,hd,hg⟩:=Iv hz;have h1:=Fp x y hy;have h2:=EY y;obtain⟨_,s,ng,h,_⟩:=Np hN (by omega) (by omega) (hg y hy);exact⟨s,ng,h⟩
theorem W4 {a b:Int}(h:a<b):cmp .lss a b=true:=by rw[C4];exact decide_eq_true h
theorem Q6 {a b:Int}(h:¬a<b):¬(cmp .lss a b=true):=by rw[C4];simpa using h
noncomputable def NT (s7:Bool×Int×Int)(y6:A0):Option ((Bool×Int×Int) ⊕ Unit):=
 (B9 H7 y6.Op).bind fun x11=>((if x11.cN=true then some (an s7.1 (cmp .eql y6.Var s7.2.2),ar .add .i64 s7.2.2 1)else some (s7.1,s7.2.2)):Option (Bool×Int)).bind fun s12=>if x11.scope=true then some (.inl (an s12.1 (cmp .eql y6.cO s7.2.1),ar .add .i64 s7.2.1 1,s12.2))else some (.inl (s12.1,s7.2.1,s12.2))
theorem PA {N:Nat}:∀(l:List A0),(∀y∈l,ZW N y)→∀(b:Bool) (v s:Int),0≤v→0≤s→v+l.length≤1000000→s+l.length≤1000000→
 ∃v' s',G5 NT l (b,s,v)=some (.inl (b&&cnt (l.map fun y=>(Fh y,Fi y,y)) v s,s',v'))
 |[],_,b,v,s,_,_,_,_=>⟨v,s,by simp[G5,cnt]⟩
 |y::l,h,b,v,s,hv,hs,hv2,hs2=>by
  simp only[List.length_cons]at hv2 hs2
  obtain⟨sh,ng,ok⟩:=h y (by simp)
  have et:Fh y=sh.cN:=by unfold Fh;rw[ok.tab]
  have es:Fi y=sh.scope:=by unfold Fi;rw[ok.tab]
  have ev:ar .add .i64 v 1=v+1:=D2 (by omega) (by omega);have ess:ar .add .i64 s 1=s+1:=D2 (by omega) (by omega);have hr:=fun b v' s' h1 h2 h3 h4=>PA l (fun z hz=>h z (by simp[hz])) b v' s' h1 h2 h3 h4;simp only[List.map_cons,cnt,et,es]
  have step:∀b' v2 s2,NT (b,s,v) y=some (.inl (b',s2,v2))→G5 NT (y::l) (b,s,v)=G5 NT l (b',s2,v2):=fun b' v2 s2 h=>by simp only[G5,h]
  have hst:∀b' v2 s2,(some (.inl (b',s2,v2)):Option ((Bool×Int×Int) ⊕ Unit))=(((if sh.cN=true then some (an b (cmp .eql y.Var v),ar .add .i64 v 1)else some (b,v)):Option (Bool×Int)).bind fun s12=>if sh.scope=true then some (.inl (an s12.1 (cmp .eql y.cO s),ar .add .i64 s 1,s12.2))else some (.inl (s12.1,s,s12.2)))→G5 NT (y::l) (b,s,v)=G5 NT l (b',s2,v2):=fun b' v2 s2 h=>step b' v2 s2 (by rw[h];unfold NT;rw[ok.tab];rfl);cases ht:sh.cN<;>cases hc:sh.scope
  ·obtain⟨v',s',h1⟩:=hr b v s hv hs (by omega) (by omega);exact⟨v',s',by rw[hst b v s (by rw[ht,hc];rfl)];simpa using h1⟩
  ·obtain⟨v',s',h1⟩:=hr (b&&decide (y.cO=s)) v (s+1) hv (by omega) (by omega) (by omega);exact⟨v',s',by rw[hst (b&&decide (y.cO=s)) v (s+1) (by simp[ht,hc,ess,C5,H6])];simpa[Bool.and_assoc]using h1⟩
  ·obtain⟨v',s',h1⟩:=hr (b&&decide (y.Var=v)) (v+1) s (by omega) hs (by omega) (by omega);exact⟨v',s',by rw[hst (b&&decide (y.Var=v)) (v+1) s (by rw[ht,hc,ev,C5,H6];rfl)];simpa[Bool.and_assoc]using h1⟩
  obtain⟨v',s',h1⟩:=hr (b&&decide (y.Var=v)&&decide (y.cO=s)) (v+1) (s+1) (by omega) (by omega) (by omega) (by omega);exact⟨v',s',by rw[hst (b&&decide (y.Var=v)&&decide (y.cO=s)) (v+1) (s+1) (by rw[ht,hc,ev,ess,C5,C5,H6];rfl)];simpa[Bool.and_assoc]using h1⟩
theorem WX {N:Nat}(hN:40000000≤N){x:A0}(hb:x.bulk≤16777216)(hz:Q5 N x=0):∃v s,BV N x=some (v,s,QM x.pre):=by
 obtain⟨hp,hd,hg⟩:=Iv hz;obtain⟨v,s,h⟩:=PA (N:=N) x.pre (NG hN hb hz) true 0 0 (by omega) (by omega) (by omega) (by omega);unfold BV;rw[HF hN hb];simp only[Option.bind_some];refine⟨v,s,Wn h ?_⟩;simp[QM]
noncomputable def Mn (N:Nat)(x:A0):Int:=if Q5 N x≠0 then Q5 N x else if x.pre.any (fun y=>cmp .geq y.Op 8)=true then 1 else if QM x.pre=true then 0 else 14
theorem WY {N:Nat} (hN:40000000≤N) {x:A0} (hb:x.bulk≤16777216):Y4 N x=some (Mn N x):=by
 unfold Y4 Mn;rw[XX hN hb];simp only[Option.bind_some]
 by_cases h:Q5 N x=0
 ·rw[if_neg (show¬(Q5 N x≠0) by simpa using h),if_neg (show¬(Q5 N x≠0) by simpa using h)]
  by_cases h2:x.pre.any (fun y=>cmp .geq y.Op 8)=true
  ·rw[if_pos h2,if_pos h2,if_pos (J5 (by omega))]
  rw[if_neg h2,if_neg h2,if_neg (J6 rfl)];obtain⟨v,s,hr⟩:=WX hN hb h;rw[hr];simp only[Option.bind_some];cases QM x.pre<;>simp[K6]
 rw[if_pos h,if_pos (J5 h),if_pos h]
theorem WW {N:Nat}(l:List A0)(hl:l.length<N)(hs:l.length≤1000000):CD N l=some (!(l.any fun y=>cmp .geq y.Op 8)):=by
 unfold CD;rw[G4 l (by omega) (mk:=fun(_:Unit) i=>i) (body:=fun(_:Unit) a=>if cmp .geq a.Op 8=true then some (.inr (.inr ()))else some (.inl ())) (fin:=fun _=>.inl ()) (s:=()) (by omega) ?_ ?_]
 ·rw[JA (fun y:A0=>cmp .geq y.Op 8) (Sum.inr ():Unit ⊕ Unit) l];cases h:l.any fun y=>cmp .geq y.Op 8<;>simp
 ·intro s i a ha hi;have e:ar .add .i64 (i:Int) 1=i+1:=D2 (by omega) (by omega);simp only[C4,B5,hi,decide_true,if_true,E2,ha,Option.bind_some,e];cases cmp .geq a.Op 8<;>rfl
 intro s;simp[C4,B5]
theorem WU {N:Nat} (hN:40000000≤N) {x:A0} (hb:x.bulk≤16777216):DF N x=some (Mn N x):=by
 unfold DF Mn;rw[Yw hN hb];simp only[Option.bind_some]
 by_cases h:Q5 N x=0
 ·rw [if_neg (show¬(Q5 N x≠0) by simpa using h),if_neg (J6 h),No hN N x (by omega) hb];have hpb:=GC x;obtain⟨hp,hd,hg⟩:=Iv h;simp only[Option.bind_some];rw[WW x.pre (by omega) (by omega)];simp only[Option.bind_some]
  by_cases h2:x.pre.any (fun y=>cmp .geq y.Op 8)=true
  ·rw[if_pos h2,h2,if_pos (show nt (!true)=true from rfl)]
  rw[if_neg h2,if_neg (by simp[K6,h2])];have hk:=NG hN hb h
  obtain ⟨r,k1,k2⟩:=Nw (S:=Int×Int×Int) (R:=Unit ⊕ Unit) (step:=fun(s4:Int×Int×Int)=>((if cmp .lss s4.2.2 (Ar.len x.pre)=true then(B9 x.pre s4.2.2).bind fun x6=>(V9 N x6).bind fun r7=>((if r7=true then(B9 x.pre s4.2.2).bind fun x9=>if cmp .neq x9.Var s4.1=true then some (.inr ())else some (.inl (ar .add .i64 s4.1 1))else some (.inl s4.1)):Option (Int ⊕ Unit)).bind fun s8=>match s8 with
          | .inl y10=>(B9 x.pre s4.2.2).bind fun x11=>(Y2 N x11).bind fun r12=>if r12=true then(B9 x.pre s4.2.2).bind fun x13=>if cmp .neq x13.cO s4.2.1=true then some (.inr (.inr ()))else some (.inl (y10,ar .add .i64 s4.2.1 1,ar .add .i64 s4.2.2 1))else(B9 x.pre s4.2.2).bind fun x14=>(U8 N x14).bind fun r15=>if r15=true then(B9 x.pre s4.2.2).bind fun x16=>if cmp .neq x16.cO s4.2.1=true then some (.inr (.inr ()))else some (.inl (y10,ar .add .i64 s4.2.1 1,ar .add .i64 s4.2.2 1))else some (.inl (y10,s4.2.1,ar .add .i64 s4.2.2 1))
          | .inr y17=>some (.inr (.inr ()))
   else some (.inr (.inl ())))
   :Option ((Int×Int×Int) ⊕ (Unit ⊕ Unit))))
   (fun j s=>s.2.2=(j:Int)∧0≤s.1∧s.1≤j∧0≤s.2.1∧s.2.1≤j∧QM x.pre=cnt ((x.pre.drop j).map fun y=>(Fh y,Fi y,y)) s.1 s.2.1)
   (fun r=>r=if QM x.pre=true then .inl ()else .inr ()) x.pre.length 0 (0,0,0) N (by omega) ⟨rfl,by simp,by simp,by simp,by simp,rfl⟩
   (fun j s _ hj ⟨e,b1,b2,b3,b4,hc⟩=>by
    obtain⟨v,sc,i⟩:=s
    simp only at e b1 b2 b3 b4 hc
    subst e
    simp only[Nat.zero_add]at hj
    have e1:B9 x.pre (j:Int)=some x.pre[j]:=by rw[E2,List.getElem?_eq_getElem hj]
    obtain⟨sh,ng,ok⟩:=hk _ (List.getElem_mem hj)
    have et:Fh x.pre[j]=sh.cN:=by unfold Fh;rw[ok.tab]
    have es:Fi x.pre[j]=sh.scope:=by unfold Fi;rw[ok.tab]
    have ev:ar .add .i64 v 1=v+1:=D2 (by omega) (by omega);have ess:ar .add .i64 sc 1=sc+1:=D2 (by omega) (by omega);have ei:ar .add .i64 (j:Int) 1=((j+1:Nat):Int):=VX (by omega)
    rw[List.drop_eq_getElem_cons hj,List.map_cons,cnt]at hc
    simp only[et,es]at hc
    have sco:=ok.sco;rw[if_pos (W4 (by simp only[B5];omega))];simp only[e1,Option.bind_some,ok.var,ok.neg,ok.tim,ev,ess,ei]
    by_cases hv:sh.cN=true∧x.pre[j].Var≠v
    ·rw[if_pos hv.1,if_pos (J5 hv.2)];refine⟨_,rfl,?_⟩;rw[hc];simp[hv.1,hv.2]
    have hv1:((if sh.cN=true then if cmp .neq x.pre[j].Var v=true then some (.inr ())else some (.inl (v+1))else some (.inl v)):Option (Int ⊕ Unit))=some (.inl (if sh.cN=true then v+1 else v)):=by
     by_cases ht:sh.cN=true
     ·rw[if_pos ht,if_pos ht,if_neg (J6 (Classical.not_not.1 fun e=>hv ⟨ht,e⟩))]
     rw[if_neg ht,if_neg ht]
    rw[hv1];simp only[Option.bind_some]
    have hcv:(if sh.cN=true then decide (x.pre[j].Var=v)else true)=true:=by
     by_cases ht:sh.cN=true
     ·rw[if_pos ht];exact decide_eq_true (Classical.not_not.1 fun e=>hv ⟨ht,e⟩)
     rw[if_neg ht]
    rw[hcv,Bool.true_and]at hc
    have hvb:0≤(if sh.cN=true then v+1 else v)∧(if sh.cN=true then v+1 else v)≤((j+1:Nat):Int):=by split<;>omega
    generalize (if sh.cN=true then v+1 else v)=v' at hc hvb ⊢
    by_cases hs:sh.scope=true
    ·rw[if_pos hs,if_pos hs]at hc
     by_cases hsc:x.pre[j].cO=sc
     ·have hgo:0≤sc+1∧sc+1≤((j+1:Nat):Int)∧QM x.pre=cnt ((x.pre.drop (j+1)).map fun y=>(Fh y,Fi y,y)) v' (sc+1):=by
       refine⟨?_,?_,?_⟩
       ·omega
       ·omega
       rw[hc,decide_eq_true hsc,Bool.true_and]
      by_cases hng:ng=true
      ·rw[if_pos hng,if_neg (J6 hsc)];exact⟨_,rfl,rfl,hvb.1,hvb.2,hgo⟩
      have hsp:sh.span=true:=by rw[hs]at sco;simpa[hng]using sco.symm
      rw[if_neg hng,if_pos hsp,if_neg (J6 hsc)];exact⟨_,rfl,rfl,hvb.1,hvb.2,hgo⟩
     have hno:QM x.pre=false:=by rw[hc,decide_eq_false hsc,Bool.false_and]
     by_cases hng:ng=true
     ·rw[if_pos hng,if_pos (J5 hsc)];exact⟨_,rfl,by rw[hno];rfl⟩
     have hsp:sh.span=true:=by rw[hs]at sco;simpa[hng]using sco.symm
     rw[if_neg hng,if_pos hsp,if_pos (J5 hsc)];exact⟨_,rfl,by rw[hno];rfl⟩
    rw[if_neg hs,if_neg hs,Bool.true_and]at hc
    have hs0:sh.scope=false:=by simpa using hs
    rw[hs0]at sco
    have hng:¬ng=true:=fun e=>by rw[e]at sco;cases sco
    have hsp:¬sh.span=true:=fun e=>by rw[e]at sco;simp at sco
    rw[if_neg hng,if_neg hsp];refine⟨_,rfl,rfl,hvb.1,hvb.2,b3,?_,hc⟩
    show sc≤_;omega)
   (fun s ⟨e,_,_,_,_,hc⟩=>by
    obtain⟨v,sc,i⟩:=s
    simp only[Nat.zero_add]at e hc
    subst e
    rw[List.drop_length]at hc
    rw[if_neg (Q6 (by simp only[B5];omega))];refine⟨_,rfl,?_⟩
    rw[hc];rfl)
  refine Wn k1 ?_;subst k2;cases QM x.pre<;>rfl
 rw[if_pos h,if_pos (J5 h)]
end Go.Ab
namespace Go.Ab
theorem NP :∀{l:List B4} {a:B4},a∈l→a.dep≤B4.deps l
 |b::l,a,h=>by
  simp only[B4.deps]
  rcases List.mem_cons.1 h with rfl|h
  ·exact Nat.le_max_left _ _
  exact Nat.le_trans (NP h) (Nat.le_max_right _ _)
theorem Lv :∀{l:List B4} {a y:B4},a∈l→y∈a.pre→y∈B4.pres l
 |b::l,a,y,h,hy=>by
  simp only[B4.pres,List.mem_append]
  rcases List.mem_cons.1 h with rfl|h
  ·exact .inl hy
  exact .inr (Lv h hy)
theorem JD {α R:Type} {body:Unit→α→Option (Unit ⊕ R)} {p:α→Bool} {r:R}:∀{l:List α},(∀x∈l,body () x=some (if p x=true then .inl ()else .inr r))→G5 body l ()=some (if l.all p=true then .inl ()else .inr r)
 |[],_=>rfl
 | x::l,h=>by
  unfold G5;rw[h x (by simp),List.all_cons]
  by_cases hx:p x=true
  ·rw[if_pos hx,hx]
   dsimp only
   rw[JD fun y hy=>h y (by simp[hy])];rfl
  rw[if_neg hx]
  dsimp only
  rw[Bool.not_eq_true]at hx
  rw[hx];rfl
theorem Al4 {x:B4} (h:Y9 x=0):(x.Op=1∨x.Op=4→0≤x.Field∧x.Field<8)∧(1≤x.Op∧x.Op≤4→0≤x.Var∧x.Var<16):=by
 have h3:Qp x=false:=by
  cases hh:Qp x with
  |false=>rfl
  |true=>
   exfalso
   unfold Y9 at h
   by_cases a:x.Op<0∨12<x.Op
   ·rw[if_pos a]at h;cases h
   rw[if_neg a]at h
   by_cases b:(x.cK.length:Int)≠(if x.Op<5 then 0 else if x.Op=12 then 1 else 2)
   ·rw[if_pos b]at h;cases h
   rw[if_neg b,if_pos hh]at h
   cases h
 unfold Qp at h3
 simp only[G9,H6,C4,L3,Bool.or_eq_false_iff,Bool.and_eq_false_iff,decide_eq_false_iff_not]at h3
 obtain⟨hv,hf⟩:=h3
 constructor
 ·intro e
  rcases hf with hf|hf
  ·exfalso
   unfold Ya at hf
   rcases e with e|e<;>simp[e,C5,G9]at hf
  omega
 intro e
 rcases hv with hv|hv
 ·exfalso
  have h4:x.Op=1∨x.Op=2∨x.Op=3∨x.Op=4:=by omega
  unfold XZ at hv
  rcases h4 with e|e|e|e<;>simp[e,C5,G9]at hv
 omega
end Go.Ab
namespace Go.Ab
noncomputable section
def X1 :A6:=⟨0,0,⟨#[]⟩⟩
def M3 (k:Int)(v:A6):Int:=if J3 v≠0 then J3 v else if v.Kind=0∨(k≠1∧k≠2∧k≠3)then 0 else 9
def Jg (k:Int)(a b:A6):A6:=
 if k=1 then⟨0,ar .add .i64 a.Num b.Num,⟨#[]⟩⟩else if k=2 then⟨0,Ar.mn a.Num b.Num,⟨#[]⟩⟩else if k=3 then⟨0,Ar.mx a.Num b.Num,⟨#[]⟩⟩else if k=4 then a else if k=5 then b else X1
def BS (k:Int)(v:A6):A6:=if k=0 then X1 else v
def Z5 (k:Int):List A6→A6
 |[]=>X1
 |v::l=>l.foldl (fun a b=>Jg k a (BS k b)) (BS k v)
def ZT (k:Int)(l:List A6)(o:A6):A6×Int:=
 if k<0∨5<k then(X1,1)else if 4096<l.length then(X1,5)else if S9 (M3 k) l≠0 then(X1,S9 (M3 k) l)else if M3 k o≠0 then(X1,M3 k o)
 else if k=0 then(⟨0,l.length,⟨#[]⟩⟩,0)else if l=[]∧k≠1 then(o,0)else(Z5 k l,0)
theorem MN (N:Nat)(k:Int)(v:A6):T7 N k v=some (decide (v.Kind=0∨(k≠1∧k≠2∧k≠3))):=by
 unfold T7;simp only[G9,H6,C5,I9,Option.some.injEq]
 by_cases h0:v.Kind=0<;>by_cases h1:k=1<;>by_cases h2:k=2<;>by_cases h3:k=3<;>simp[h0,h1,h2,h3]
theorem Rj (N:Nat) (k:Int) (v:A6):O1 N k v=some (M3 k v):=by
 unfold O1 M3;rw[Kj,MN];simp only[Option.bind_some]
 by_cases h:J3 v=0
 ·rw[if_neg (J6 h),if_neg (show¬J3 v≠0 by simpa using h)]
  by_cases h2:v.Kind=0∨(k≠1∧k≠2∧k≠3)
  ·rw[if_neg (by rw[K6,decide_eq_true h2];decide),if_pos h2]
  rw[if_pos (by rw[K6,decide_eq_false h2];rfl),if_neg h2]
 rw[if_pos (J5 h),if_pos h]
theorem Ri {k:Int}{v:A6}(h:M3 k v=0):J3 v=0∧(v.Kind=0∨(k≠1∧k≠2∧k≠3)):=by
 unfold M3 at h
 split at h
 ·rename_i h1;exact absurd h h1
 rename_i h1
 split at h
 ·rename_i h2;exact⟨by simpa using h1,h2⟩
 cases h
theorem Io {v:A6}(h:J3 v=0)(hk:v.Kind=0):v.Text=⟨#[]⟩∧ -1099511627776≤v.Num∧v.Num≤1099511627776:=by
 unfold J3 at h
 rw[if_pos (.inl hk)]at h
 split at h
 ·cases h
 rename_i h1
 split at h
 ·cases h
 rename_i h2;refine⟨by simpa using h1,?_⟩
 simp only[hk,true_and]at h2
 omega
theorem VH {n:Int}(h0: -1099511627776≤n)(h1:n≤1099511627776):J3 ⟨0,n,⟨#[]⟩⟩=0:=by
 unfold J3;simp only[true_or,if_true,ne_eq,not_true_eq_false,if_false];rw[if_neg (by simp;omega)]
structure Wv (k:Int) (n:Nat) (v:A6):Prop where
 c:k=0→v=X1
 s:k=1→v.Kind=0∧v.Text=⟨#[]⟩∧ -(1099511627776*(n:Int))≤v.Num∧v.Num≤1099511627776*(n:Int)
 m:k=2∨k=3→J3 v=0∧v.Kind=0
 f:k=4∨k=5→J3 v=0
theorem Zr {k:Int}{v:A6}(h:M3 k v=0):Wv k 1 (BS k v):=by
 obtain⟨h1,h2⟩:=Ri h;unfold BS
 by_cases k0:k=0
 ·rw[if_pos k0];exact⟨fun _=>rfl,by omega,by omega,by omega⟩
 rw[if_neg k0];refine⟨by omega,fun e=>?_,fun e=>⟨h1,by omega⟩,fun _=>h1⟩
 have hk:v.Kind=0:=by omega
 obtain⟨a,b,c⟩:=Io h1 hk;exact⟨hk,a,by omega,by omega⟩
theorem Xp {k:Int} {n:Nat} {a v:A6} (ha:Wv k n a) (hn:n≤4096) (h:M3 k v=0):Wv k (n+1) (Jg k a (BS k v)):=by
 obtain⟨h1,h2⟩:=Ri h;unfold Jg
 by_cases k1:k=1
 ·rw[if_pos k1]
  have hk:v.Kind=0:=by omega
  obtain⟨_,b,c⟩:=Io h1 hk;obtain⟨_,_,d,e⟩:=ha.s k1;have e1:BS k v=v:=if_neg (by omega);rw[e1];have e2:ar .add .i64 a.Num v.Num=a.Num+v.Num:=D2 (by omega) (by omega);rw[e2];exact⟨by omega,fun _=>⟨rfl,rfl,by simp only;omega,by simp only;omega⟩,by omega,by omega⟩
 rw[if_neg k1]
 by_cases k2:k=2
 ·rw[if_pos k2]
  have hk:v.Kind=0:=by omega
  obtain⟨_,b,c⟩:=Io h1 hk;obtain⟨d,e⟩:=ha.m (.inl k2);obtain⟨_,d1,d2⟩:=Io d e;have e1:BS k v=v:=if_neg (by omega);rw[e1];refine⟨by omega,by omega,fun _=>⟨?_,rfl⟩,by omega⟩
  show J3 ⟨0,if v.Num<a.Num then v.Num else a.Num,⟨#[]⟩⟩=0
  split<;>exact VH (by omega) (by omega)
 rw[if_neg k2]
 by_cases k3:k=3
 ·rw[if_pos k3]
  have hk:v.Kind=0:=by omega
  obtain⟨_,b,c⟩:=Io h1 hk;obtain⟨d,e⟩:=ha.m (.inr k3);obtain⟨_,d1,d2⟩:=Io d e;have e1:BS k v=v:=if_neg (by omega);rw[e1];refine⟨by omega,by omega,fun _=>⟨?_,rfl⟩,by omega⟩
  show J3 ⟨0,if a.Num<v.Num then v.Num else a.Num,⟨#[]⟩⟩=0
  split<;>exact VH (by omega) (by omega)
 rw[if_neg k3]
 by_cases k4:k=4
 ·rw[if_pos k4];exact⟨by omega,by omega,by omega,fun _=>ha.f (.inl k4)⟩
 rw[if_neg k4]
 by_cases k5:k=5
 ·rw[if_pos k5];have e1:BS k v=v:=if_neg (by omega);rw[e1];exact⟨by omega,by omega,by omega,fun _=>h1⟩
 rw[if_neg k5];exact⟨fun _=>rfl,by omega,by omega,by omega⟩
theorem Ve {N:Nat}{k:Int}(h0:0≤k)(h5:k≤5)(a b:A6):X9 N k a b=some (Jg k a b):=by
 have h:k=0∨k=1∨k=2∨k=3∨k=4∨k=5:=by omega
 rcases h with rfl|rfl|rfl|rfl|rfl|rfl<;>rfl
theorem WD (N:Nat)(k:Int)(v:A6):Z8 N k v=some (BS k v):=by
 unfold Z8 BS;rw[C5]
 by_cases h:k=0
 ·rw[if_pos (decide_eq_true h),if_pos h];rfl
 rw[if_neg (by simpa using h),if_neg h]
def O8 (k:Int)(l:List A6):C2:=⟨k,l.length,Z5 k l⟩
theorem JR (k:Int)(l:List A6)(v:A6):Z5 k (l++[v])=if l=[]then BS k v else Jg k (Z5 k l) (BS k v):=by
 cases l with
 |nil=>rfl
 |cons a l=>simp[Z5,List.foldl_append]
theorem Ab3 {N:Nat} {k:Int} (h0:0≤k) (h5:k≤5) (l:List A6) (hl:l.length≤4096) (v:A6):N8 N (O8 k l) v k=some (O8 k (l++[v])):=by
 unfold N8;rw[WD];simp only[Option.bind_some];unfold BE;rw[C5,C5]
 have e:O8 k (l++[v])=⟨k,(l.length:Int)+1,if l=[]then BS k v else Jg k (Z5 k l) (BS k v)⟩:=by
  unfold O8;rw[JR];simp
 rw[e]
 cases l with
 |nil=>rfl
 | cons a l=>
  have hc:¬(decide ((O8 k (a::l)).Count=0)=true):=by
   show¬decide (((a::l).length:Int)=0)=true
   simp only[List.length_cons,decide_eq_true_eq];omega
  rw[if_neg hc,if_neg (by simp)]
  show((X9 N k (Z5 k (a::l)) (BS k v)).bind _).bind _=_
  rw[Ve h0 h5];simp only[Option.bind_some,O8,reduceCtorEq,if_false];rw[D2 (by simp at hl ⊢;omega) (by simp at hl ⊢;omega)]
theorem KD {k:Int}:∀(n:Nat) {l:List A6},l.length=n→l≠[]→l.length≤4096→(∀v∈l,M3 k v=0)→Wv k l.length (Z5 k l):=by
 intro n
 induction n with
 |zero=>intro l h0 h;exact absurd (List.eq_nil_of_length_eq_zero h0) h
 |succ n ih=>
  intro l h0 h hn hv
  rcases List.eq_nil_or_concat l with rfl|⟨q,v,rfl⟩
  ·exact absurd rfl h
  rw[concat_eq_append]at *
  rw[JR,List.length_append];have hw:=hv v (by simp)
  simp only[List.length_append,List.length_cons,List.length_nil]at hn h0
  by_cases h:q=[]
  ·subst h;rw[if_pos rfl];exact Zr hw
  rw[if_neg h];exact Xp (ih (by omega) h (by omega) fun x hx=>hv x (by simp[hx])) (by omega) hw
theorem TB {N:Nat} {k:Int} (h0:0≤k) (h5:k≤5) {l:List A6} (hl:l.length≤4096) (hv:∀v∈l,M3 k v=0):AD N (O8 k l)=some 0:=by
 unfold AD X0;simp only[Option.bind_some]
 have e1:¬(nt (an (cmp .geq (O8 k l).Kind 0) (cmp .leq (O8 k l).Kind 5))=true):=by
  show¬((!(decide (0≤k)&&decide (k≤5)))=true)
  simp;omega
 have e2:¬(Ar.or (cmp .lss (O8 k l).Count 0) (cmp .gtr (O8 k l).Count 4096)=true):=by
  show¬((decide ((l.length:Int)<0)||decide (4096<(l.length:Int)))=true)
  simp;omega
 rw[if_neg e1,if_neg e2]
 by_cases hz:l=[]∨k=0
 ·have e3:Ar.or (cmp .eql (O8 k l).Count 0) (cmp .eql (O8 k l).Kind 0)=true:=by
   show(decide ((l.length:Int)=0)||decide (k=0))=true
   rcases hz with rfl|h
   ·rfl
   simp[h]
  have e4:(O8 k l).Value=X1:=by
   by_cases hn:l=[]
   ·subst hn;rfl
   exact(KD _ rfl hn hl hv).c (hz.resolve_left hn)
  rw[if_pos e3,e4];exact if_neg (by simp[K6,H6,C5,DC,X1])
 have hn:l≠[]:=fun h=>hz (.inl h);have hk:k≠0:=fun h=>hz (.inr h);have hlen:l.length≠0:=fun h=>hn (List.eq_nil_of_length_eq_zero h)
 have e3:¬(Ar.or (cmp .eql (O8 k l).Count 0) (cmp .eql (O8 k l).Kind 0)=true):=by
  show¬((decide ((l.length:Int)=0)||decide (k=0))=true)
  simp[hk,hn]
 rw[if_neg e3];have g:=KD _ rfl hn hl hv
 by_cases k1:k=1
 ·rw[if_pos (show cmp .eql (O8 k l).Kind 1=true from decide_eq_true k1)];obtain⟨a,b,c,d⟩:=g.s k1;have ev:(O8 k l).Value=Z5 k l:=rfl;have ec:(O8 k l).Count=(l.length:Int):=rfl;have em:ar .mul .i64 (l.length:Int) 1099511627776=(l.length:Int)*1099511627776:=Ba (by omega) (by omega)
  have en:Ar.neg .i64 ((l.length:Int)*1099511627776)= - ((l.length:Int)*1099511627776):=by
   show IntKind.wrap .i64 (0 - (l.length:Int)*1099511627776)=_
   rw[Ba (by omega) (by omega)];omega
  rw[ev,ec,em,en];rw[if_neg];simp only[K6,H6,C5,L3,AU,DC];rw[decide_eq_true a,decide_eq_true b,decide_eq_true (show -((l.length:Int)*1099511627776)≤(Z5 k l).Num by omega),decide_eq_true (show(Z5 k l).Num≤(l.length:Int)*1099511627776 by omega)]
  decide
 rw[if_neg (show¬(cmp .eql (O8 k l).Kind 1=true)from(by show¬decide (k=1)=true;simpa using k1))]
 have hvb:J3 (Z5 k l)=0:=by
  by_cases h23:k=2∨k=3
  ·exact(g.m h23).1
  exact g.f (by omega)
 have hsu:(Z5 k l).Kind=0∨(k≠1∧k≠2∧k≠3):=by
  by_cases h23:k=2∨k=3
  ·exact .inl (g.m h23).2
  exact .inr (by omega)
 show((U5 N (Z5 k l)).bind _)=_
 rw[Kj,hvb];simp only[Option.bind_some];rw[if_pos (show cmp .eql 0 0=true from rfl)]
 show((T7 N k (Z5 k l)).bind _)=_
 rw[MN,decide_eq_true hsu];rfl
theorem Ap3 {N:Nat} (hN:40000000≤N) (k:Int) {l:List A6} (hl:l.length<1000000) (o:A6):CQ N k l o=some (ZT k l o):=by
 unfold CQ ZT X0;simp only[Option.bind_some]
 by_cases h0:k<0∨5<k
 ·rw[if_pos (by show(!(decide (0≤k)&&decide (k≤5)))=true;simp;omega),if_pos h0];rfl
 rw[if_neg (by show¬((!(decide (0≤k)&&decide (k≤5)))=true);simp;omega),if_neg h0]
 by_cases h1:4096<l.length
 ·rw[if_pos (W5 (by rw[B5];omega)),if_pos h1];rfl
 rw[if_neg (U1 (by rw[B5];omega)),if_neg h1];rw[G4 l (by omega) (mk:=fun(_:Unit) i=>i) (body:=AM fun v=>O1 N k v) (fin:=fun _=>.inl ()) (s:=()) (by omega) ?_ ?_]
 ·rw [Y3 (f:=M3 k) fun v _=>Rj N k v]
  by_cases h2:S9 (M3 k) l=0
  ·rw [if_pos h2,if_neg (show¬S9 (M3 k) l≠0 by simpa using h2)];have hv:=Dp.1 h2;simp only[Option.bind_some]
   have hf:H8 N (⟨k,0,⟨0,0,⟨#[]⟩⟩⟩:C2) l (fun y1 y2=>N8 N y1 y2 k)=some (O8 k l):=by
    unfold H8;rw[G4 l (by omega) (mk:=fun(s:C2) i=>(i,s)) (body:=fun s v=>(N8 N s v k).bind fun r=>some (.inl r)) (fin:=fun s=>s) (s:=⟨k,0,⟨0,0,⟨#[]⟩⟩⟩) (by omega) ?_ ?_]
    ·obtain⟨s',k1,p,k2,k3⟩:=Cw (R:=C2) (step:=fun s v=>(N8 N s v k).bind fun r=>some (.inl r)) (fun r s=>∃p,p++r=l∧s=O8 k p) (fun v r s ⟨p,e1,e2⟩=>by
      subst e2
      refine⟨_,by rw[Ab3 (by omega) (by omega) p (by have:=congrArg List.length e1;simp at this;omega)];rfl,p++[v],by simpa using e1,rfl⟩) (l:=l) (s:=⟨k,0,⟨0,0,⟨#[]⟩⟩⟩) ⟨[],rfl,rfl⟩
     simp only[k1,Option.bind_some]
     rw[append_nil]at k2
     rw[k3,k2]
    ·intro s i a ha hi;have e:ar .add .i64 (i:Int) 1=i+1:=D2 (by omega) (by omega);simp only[C4,B5,hi,decide_true,if_true,E2,ha,Option.bind_some,e];cases N8 N s a k<;>rfl
    intro s;simp[C4,B5]
   rw[hf];simp only[Option.bind_some];unfold BF;rw[TB (by omega) (by omega) (by omega) hv];simp only[Option.bind_some];rw[if_neg (show¬(cmp .neq 0 0=true) by decide)]
   show((O1 N k o).bind _).bind _=_
   rw[Rj];simp only[Option.bind_some]
   by_cases h3:M3 k o=0
   ·rw[if_neg (J6 h3),if_neg (show¬M3 k o≠0 by simpa using h3)]
    by_cases h4:k=0
    ·rw[if_pos (show cmp .eql (O8 k l).Kind 0=true from decide_eq_true h4),if_pos h4];rfl
    rw[if_neg (show¬(cmp .eql (O8 k l).Kind 0=true)from(by show¬decide (k=0)=true;simpa using h4)),if_neg h4]
    by_cases h5:l=[]∧k≠1
    ·rw[if_pos (show an (cmp .eql (O8 k l).Count 0) (cmp .neq (O8 k l).Kind 1)=true by show(decide ((l.length:Int)=0)&& !decide (k=1))=true;simp[h5.1,h5.2]),if_pos h5];rfl
    rw[if_neg (show¬(an (cmp .eql (O8 k l).Count 0) (cmp .neq (O8 k l).Kind 1)=true) by show¬((decide ((l.length:Int)=0)&& !decide (k=1))=true);simpa using h5),if_neg h5];rfl
   rw[if_pos (J5 h3),if_pos h3];rfl
  rw[if_neg h2,if_pos h2];rfl
 ·intro s i a ha hi;have e:ar .add .i64 (i:Int) 1=i+1:=D2 (by omega) (by omega);simp only[C4,B5,hi,decide_true,if_true,E2,ha,Option.bind_some,e,AM,I9]
  cases O1 N k a with
  |none=>rfl
  |some r=>by_cases h:r=0<;>simp[h]
 intro s;simp[C4,B5]
end
end Go.Ab
namespace Go.Ab
noncomputable section
def FK (env:AZ)(v:Int):List A9:=if v<0∨(env.cS.length:Int)≤v then[]else env.cS.getD v.toNat []
def EQ (e:A9)(k:Int):A6×Int:=if(e.Values.length:Int)≤k then(X1,6)else(e.Values.getD k.toNat X1,0)
def PV (rows:List A9)(x:B4):A6×Int:=
 if(rows.all fun e=>decide (x.Field<(e.Values.length:Int)))=true then ZT x.Kind (rows.map fun e=>e.Values.getD x.Field.toNat X1) x.Value else(X1,6)
def JP (rows:List A9)(own:Int)(ev:A9)(v:Int):Option A9:=if v≠own then rows.getLast? else some ev
def Yy (y:A9)(x:B4):A6×Int:=
 if x.Op=2 then(⟨0,y.Time,⟨#[]⟩⟩,0)else if(EQ y x.Field).2≠0 then(X1,(EQ y x.Field).2)else if J3 (EQ y x.Field).1≠0 then(X1,J3 (EQ y x.Field).1)else((EQ y x.Field).1,0)
def Gi (env:AZ)(own:Int)(ev:A9)(x:B4):A6×Int:=
 if x.Op=0 then(x.Value,0)else if x.Op=3 then(⟨0,(FK env x.Var).length,⟨#[]⟩⟩,0)else if x.Op=4 then PV (FK env x.Var) x
 else match JP (FK env x.Var) own ev x.Var with|none=>(X1,10)|some y=>Yy y x
theorem IN {x:B4}(hx:Y9 x=0):0≤x.Op∧x.Op≤12∧(x.cK.length:Int)=(if x.Op<5 then 0 else if x.Op=12 then 1 else 2):=by
 unfold Y9 at hx
 by_cases h1:x.Op<0∨12<x.Op
 ·rw[if_pos h1]at hx;cases hx
 rw[if_neg h1]at hx
 by_cases h2:(x.cK.length:Int)≠(if x.Op<5 then 0 else if x.Op=12 then 1 else 2)
 ·rw[if_pos h2]at hx;cases hx
 exact⟨by omega,by omega,by simpa using h2⟩
def GY (e:AZ):Prop:=e.cS.length<1000000∧∀l∈e.cS,l.length<1000000
theorem MF {env:AZ}(h:GY env)(v:Int):(FK env v).length<1000000:=by
 unfold FK
 split
 ·simp
 rename_i hv
 have hi:v.toNat<env.cS.length:=by omega
 rw[List.getD_eq_getElem?_getD,List.getElem?_eq_getElem hi];exact h.2 _ (List.getElem_mem hi)
theorem LQ (N:Nat)(env:AZ)(own:Int)(ev:A9)(u:Unit)(v:Int):N0 N ⟨env,own,ev,u⟩ v=some (FK env v):=by
 unfold N0 FK
 by_cases h:v<0∨(env.cS.length:Int)≤v
 ·rw[if_pos (by simp only[G9,C4,L3,B5];simpa using h),if_pos h]
 rw[if_neg (by simp only[G9,C4,L3,B5];simpa using h),if_neg h]
 have hi:v.toNat<env.cS.length:=by omega
 have hv:v=(v.toNat:Int):=by omega
 rw[hv,E2];simp only[List.getD_eq_getElem?_getD,Int.toNat_natCast,List.getElem?_eq_getElem hi,Option.bind_some,Option.getD_some]
theorem NO (N:Nat)(e:A9){k:Int}(hk:0≤k):Au N e k=some (EQ e k):=by
 unfold Au EQ
 by_cases h:(e.Values.length:Int)≤k
 ·rw[if_pos (by rw[L3,B5];exact decide_eq_true h),if_pos h];rfl
 rw[if_neg (by rw[L3,B5];simpa using h),if_neg h]
 have hi:k.toNat<e.Values.length:=by omega
 have hv:k=(k.toNat:Int):=by omega
 rw[hv,E2];simp only[List.getD_eq_getElem?_getD,Int.toNat_natCast,List.getElem?_eq_getElem hi,Option.bind_some,Option.getD_some]
theorem JC {α β R:Type} {body:List β→α→Option (List β ⊕ R)} {p:α→Bool} {g:α→β} {r:R}:∀{l:List α} {s:List β},s.length+l.length≤1000000→(∀(s:List β) x,x∈l→s.length≤1000000→body s x=some (if p x=true then .inl (s++[g x])else .inr r))→
 G5 body l s=some (if l.all p=true then .inl (s++l.map g)else .inr r)
 |[],s,_,_=>by simp[G5]
 |x::l,s,hl,h=>by
  simp only[G5,h s x (by simp) (by simp at hl;omega)]
  by_cases hp:p x=true
  ·simp only[hp,if_true];rw[JC (by simp at hl ⊢;omega) fun s y hy=>h s y (by simp[hy])];simp[hp]
  simp[hp]
theorem UU {N:Nat} (hN:40000000≤N) {env:AZ} (he:GY env) (own:Int) (ev:A9) (u:Unit) {x:B4} (hf:0≤x.Field):S7 N ⟨env,own,ev,u⟩ x=some (PV (FK env x.Var) x):=by
 have hl:=MF he x.Var;unfold S7 PV;rw[LQ];simp only[Option.bind_some]
 generalize FK env x.Var=rows at hl
 rw[G4 rows (by omega) (mk:=fun(s:List A6) i=>(s,i)) (body:=fun s e=>(Au N e x.Field).bind fun r=>if cmp .neq r.2 0=true then some (.inr (.inr r.2))else(M5 s [r.1]).bind fun l=>some (.inl l)) (fin:=fun s=>.inl s) (s:=[]) (by omega) ?_ ?_]
 ·rw[JC (p:=fun e=>decide (x.Field<(e.Values.length:Int))) (g:=fun e=>e.Values.getD x.Field.toNat X1) (r:=.inr 6) (by simp;omega) (fun s e _ hs=>by
   rw[NO N e hf];unfold EQ
   by_cases h:(e.Values.length:Int)≤x.Field
   ·rw[if_pos h,if_neg (by simpa using h)];rfl
   rw[if_neg h,if_pos (by simpa using h)];simp only[Option.bind_some]
   rw[if_neg (by decide),AV (by simp;omega)];rfl)]
  by_cases h:(rows.all fun e=>decide (x.Field<(e.Values.length:Int)))=true
  ·rw[if_pos h,if_pos h];simp only[Option.bind_some,List.nil_append];rw[Ap3 hN _ (by simpa using hl)];rfl
  rw[if_neg h,if_neg h];rfl
 ·intro s i a ha hi;have e:ar .add .i64 (i:Int) 1=i+1:=D2 (by omega) (by omega);simp only[C4,B5,hi,decide_true,if_true,E2,ha,Option.bind_some,e]
  cases Au N a x.Field with
  |none=>rfl
  |some r=>
   simp only[Option.bind_some]
   split
   ·rfl
   cases M5 s [r.1]<;>rfl
 intro s;simp[C4,B5]
theorem Xu {N:Nat} (hN:40000000≤N) {env:AZ} (he:GY env) (own:Int) (ev:A9) (u:Unit) {x:B4} (hx:Y9 x=0) (ha:x.cK=[]):U2 N ⟨env,own,ev,u⟩ x=some (Gi env own ev x):=by
 have hok:=Al4 hx
 have hop:0≤x.Op∧x.Op<5:=by
  have:=IN hx
  rw[ha]at this
  simp only[List.length_nil]at this
  obtain⟨h1,h2,h3⟩:=this
  by_cases h5:x.Op<5
  ·exact⟨h1,h5⟩
  rw[if_neg h5]at h3
  split at h3<;>omega
 have hl:=MF he x.Var;unfold U2 Gi;rw[LQ];simp only[Option.bind_some]
 by_cases h0:x.Op=0
 ·rw[if_pos (by rw[C5];exact decide_eq_true h0),if_pos h0]
 rw[if_neg (by rw[C5];simpa using h0),if_neg h0]
 by_cases h3:x.Op=3
 ·rw[if_pos (by rw[C5];exact decide_eq_true h3),if_pos h3];rfl
 rw[if_neg (by rw[C5];simpa using h3),if_neg h3]
 by_cases h4:x.Op=4
 ·rw[if_pos (by rw[C5];exact decide_eq_true h4),if_pos h4,UU hN he own ev u (hok.1 (.inr h4)).1];rfl
 rw[if_neg (by rw[C5];simpa using h4),if_neg h4]
 have key:((if cmp .neq x.Var own=true then if cmp .eql (Ar.len (FK env x.Var)) 0=true then some (.inr ())else(B9 (FK env x.Var) (ar .sub .i64 (Ar.len (FK env x.Var)) 1)).bind fun x6=>some (.inl x6)else some (.inl ev)):Option (A9 ⊕ Unit))=some (match JP (FK env x.Var) own ev x.Var with|some y=>.inl y|none=>.inr ()):=by
  unfold JP
  by_cases hv:x.Var=own
  ·rw[if_neg (J6 hv),if_neg (by simpa using hv)]
  rw[if_pos (J5 hv),if_pos hv]
  generalize FK env x.Var=rows at hl
  rcases List.eq_nil_or_concat rows with rfl|⟨q,y,rfl⟩
  ·rfl
  rw[concat_eq_append]at *
  have e1:ar .sub .i64 (Ar.len (q++[y])) 1=(q.length:Int):=by
   have:ar .sub .i64 (Ar.len (q++[y])) 1=Ar.len (q++[y]) - 1:=Ba (by rw[B5];omega) (by rw[B5];omega);rw[this,B5];simp
  rw[if_neg (by rw[C5,B5];simp;omega),e1,E2];simp
 have key2:=congrArg (fun o=>o.bind fun s5=>match s5 with
  | .inl y7=>
   if cmp .eql x.Op 2=true then
    some ((⟨0,y7.Time,⟨#[]⟩⟩:A6),(0:Int))
   else
    (Au N y7 x.Field).bind fun r8=>
    ((
     if cmp .eql r8.2 0=true then
      (U5 N r8.1).bind fun r10=>
      some r10
     else
      some r8.2
    ):Option (Int)).bind fun s9=>
    if cmp .neq s9 0=true then
     some ((⟨0,0,⟨#[]⟩⟩:A6),s9)
    else
     some (r8.1,0)
  | .inr y11=>
   some ((⟨0,0,⟨#[]⟩⟩:A6),10)) key
 refine key2.trans ?_
 cases hy:JP (FK env x.Var) own ev x.Var with
 |none=>rfl
 | some y=>
  simp only[Option.bind_some];unfold Yy
  by_cases h2:x.Op=2
  ·rw[if_pos (by rw[C5];exact decide_eq_true h2),if_pos h2]
  rw[if_neg (by rw[C5];simpa using h2),if_neg h2]
  have h1:x.Op=1:=by omega
  rw[NO N y (hok.1 (.inl h1)).1];simp only[Option.bind_some]
  by_cases hb:(EQ y x.Field).2=0
  ·rw[if_pos (by rw[C5];exact decide_eq_true hb),Kj,if_neg (by simpa using hb)];simp only[Option.bind_some]
   by_cases hc:J3 (EQ y x.Field).1=0
   ·rw[if_neg (J6 hc),if_neg (by simpa using hc)]
   rw[if_pos (J5 hc),if_pos hc];rfl
  rw[if_neg (by rw[C5];simpa using hb),if_pos hb];simp only[Option.bind_some];rw[if_pos (J5 hb)];rfl
end
end Go.Ab
namespace Go.Ab
noncomputable section
def Jd (b:Bool):A6:=if b=true then⟨1,1,⟨#[]⟩⟩else⟨1,0,⟨#[]⟩⟩
def GK (op:Int)(kinds:List Int)(k:Int):Bool:=
 if op=5∨op=6∨op=7∨op=8 then decide (k=0)else if op=10∨op=11∨op=12 then decide (k=1)else if op=9 then decide (k=kinds.getD 0 0)else true
def GZ (op:Int)(kinds:List Int):Int:=if kinds.all (GK op kinds)=true then 0 else 9
instance (x y:A6):Decidable (x=y):=by
 obtain⟨a,b,c⟩:=x;obtain⟨d,e,f⟩:=y;exact decidable_of_iff (a=d∧b=e∧c=f) (by simp)
def QR (op:Int)(l:List A6):A6:=
 let a:=l.getD 0 X1
 let b:=l.getD (l.length - 1) X1
 if op=9 then Jd (decide (a=l.getD 1 X1))else if op=5 then⟨0,ar .add .i64 a.Num b.Num,⟨#[]⟩⟩else if op=6 then⟨0,ar .sub .i64 a.Num b.Num,⟨#[]⟩⟩
 else if op=7 then Jd (decide (a.Num<b.Num))else if op=8 then Jd (decide (a.Num≤b.Num))else if op=10 then Jd (decide (a.Num=1)&&decide (b.Num=1))else if op=11 then Jd (decide (a.Num=1)||decide (b.Num=1))else Jd (!decide (a.Num=1))
mutual
def Fx (R:B4→A6×Int):B4→A6×Int
 |⟨op,args,var,field,kind,val⟩=>
  if args.length=0 then R ⟨op,args,var,field,kind,val⟩else
  match Dg R args with
  | .inr f=>(X1,f)
  | .inl l=>if GZ op (l.map (·.Kind))≠0 then(X1,GZ op (l.map (·.Kind)))else(QR op l,0)
def Dg (R:B4→A6×Int):List B4→List A6 ⊕ Int
 |[]=>.inl []
 |a::r=>if(Fx R a).2≠0 then .inr (Fx R a).2 else match Dg R r with| .inr f=>.inr f| .inl l=>.inl ((Fx R a).1::l)
end
theorem SY (R:B4→A6×Int)(x:B4):Fx R x=if x.cK.length=0 then R x else
 match Dg R x.cK with
 | .inr f=>(X1,f)
 | .inl l=>if GZ x.Op (l.map (·.Kind))≠0 then(X1,GZ x.Op (l.map (·.Kind)))else(QR x.Op l,0):=by cases x;simp only[Fx]
theorem JT {R:B4→A6×Int}:∀{l:List B4} {r:List A6},Dg R l= .inl r→r.length=l.length
 |[],r,h=>by simp only[Dg,Sum.inl.injEq]at h;subst h;rfl
 |a::l,r,h=>by
  simp only[Dg]at h
  split at h
  ·cases h
  cases hr:Dg R l with
  |inr f=>rw[hr]at h;cases h
  |inl q=>rw[hr]at h;simp only[Sum.inl.injEq]at h;subst h;simp[JT hr]
theorem QI (N:Nat)(b:Bool):Z6 N b=some (Jd b):=by
 unfold Z6 Gw Jd;cases b<;>rfl
theorem QL {N:Nat} (hN:40000000≤N) (op:Int) {kinds:List Int} (hl:kinds.length<1000000):BY N op kinds=some (GZ op kinds):=by
 unfold BY GZ;rw[G4 kinds (by omega) (mk:=fun(_:Unit) i=>i) (body:=fun _ k=>some (if GK op kinds k=true then .inl ()else .inr (.inr ()))) (fin:=fun _=>.inl ()) (s:=()) (by omega) ?_ ?_]
 ·rw[JD (p:=GK op kinds) (r:=.inr ()) fun x _=>rfl]
  by_cases h:kinds.all (GK op kinds)=true
  ·rw[if_pos h,if_pos h];rfl
  rw[if_neg h,if_neg h];rfl
 ·intro s i k hk hi;have e:ar .add .i64 (i:Int) 1=i+1:=D2 (by omega) (by omega)
  have h0:B9 kinds 0=some (kinds.getD 0 0):=by
   have:B9 kinds 0=kinds[0]? :=E2 (i:=0);rw[this,List.getD_eq_getElem?_getD,List.getElem?_eq_getElem (by omega)];rfl
  simp only[C4,B5,hi,decide_true,if_true,E2,hk,Option.bind_some,e,C5,h0,K6];unfold GK
  by_cases a5:op=5
  ·subst a5;by_cases hz:k=0<;>simp[hz]
  by_cases a6:op=6
  ·subst a6;by_cases hz:k=0<;>simp[hz]
  by_cases a7:op=7
  ·subst a7;by_cases hz:k=0<;>simp[hz]
  by_cases a8:op=8
  ·subst a8;by_cases hz:k=0<;>simp[hz]
  by_cases a10:op=10
  ·subst a10;by_cases hz:k=1<;>simp[hz]
  by_cases a11:op=11
  ·subst a11;by_cases hz:k=1<;>simp[hz]
  by_cases a12:op=12
  ·subst a12;by_cases hz:k=1<;>simp[hz]
  by_cases a9:op=9
  ·subst a9;generalize kinds.getD 0 0=z
   by_cases hz:k=z<;>simp[hz]
  simp[a5,a6,a7,a8,a9,a10,a11,a12]
 intro s;simp[C4,B5]
theorem HC {α:Type} {F:B4→Option (A6×Int)} {R:B4→A6×Int}:∀{l:List B4} {s:List A6×List Int},s.2=s.1.map (·.Kind)→s.1.length+l.length≤1000000→(∀a∈l,F a=some (Fx R a))→
 G5 (fun(s:List A6×List Int) a=>(F a).bind fun r8=>if cmp .neq r8.2 0=true then some (Sum.inr (Sum.inr (α:=α) r8.2))else(M5 s.1 [r8.1]).bind fun l9=>(M5 s.2 [r8.1.Kind]).bind fun l12=>some (.inl (l9,l12))) l s=
  some (match Dg R l with| .inr f=>.inr (.inr f)| .inl q=>.inl (s.1++q,(s.1++q).map (·.Kind)))
 |[],s,h,_,_=>by obtain⟨a,b⟩:=s;dsimp only at h;subst h;simp[G5,Dg]
 | a::l,s,h,hl,hF=>by
  obtain⟨s1,s2⟩:=s
  dsimp only at h;subst h
  simp only[List.length_cons]at hl
  simp only[G5,Dg,hF a (by simp),Option.bind_some,I9]
  by_cases hz:(Fx R a).2=0
  ·simp only[hz,decide_true,Bool.not_true,Bool.false_eq_true,if_false,ne_eq,not_true_eq_false];rw[AV (by simp;omega),AV (by simp;omega)];simp only[Option.bind_some];have ih:=HC (α:=α) (F:=F) (R:=R) (l:=l) (s:=(s1++[(Fx R a).1],s1.map (·.Kind)++[(Fx R a).1.Kind])) (by simp) (by simp;omega) fun b hb=>hF b (by simp[hb])
   simp only[I9]at ih
   rw[ih]
   cases Dg R l with
   |inr f=>rfl
   |inl q=>simp
  simp[hz]
theorem HU {l:List A6}{i:Nat}(h:i<l.length):l[i]? =some (l.getD i X1):=by
 rw[List.getD_eq_getElem?_getD,List.getElem?_eq_getElem h];rfl
theorem Xv {N:Nat} (hN:40000000≤N) {env:AZ} (he:GY env) (own:Int) (ev:A9) (u:Unit):∀(n:Nat) (x:B4),x.dep≤n→x.bulk≤16777216→(∀y∈x.pre,Y9 y=0)→K0 N n ⟨env,own,ev,u⟩ x=some (Fx (Gi env own ev) x):=by
 intro n
 induction n with
 |zero=>intro x h;rw[B4.dep_eq]at h;omega
 | succ n ih=>
  intro x hd hb hbad;have hx:=hbad x (by rw[B4.pre_eq];simp);have hd':=B4.dep_eq x;unfold K0;rw[SY]
  by_cases h0:x.cK.length=0
  ·rw[if_pos (by rw[C5,B5];exact decide_eq_true (by omega)),if_pos h0,Xu hN he own ev u hx (List.eq_nil_of_length_eq_zero h0)];rfl
  rw[if_neg (by rw[C5,B5];simpa using(show¬(x.cK.length:Int)=0 by omega)),if_neg h0];obtain⟨a1,a2,a3⟩:=IN hx
  have hlen:x.cK.length≤2:=by
   split at a3
   ·omega
   split at a3<;>omega
  have hop5:5≤x.Op:=by
   by_cases h5:x.Op<5
   ·rw[if_pos h5]at a3;omega
   omega
  have hF:∀a∈x.cK,K0 N n ⟨env,own,ev,u⟩ a=some (Fx (Gi env own ev) a):=fun a ha=>ih a (by have:=NP ha;omega) (by have:=Y6 ha;omega) fun y hy=>hbad y (by rw[B4.pre_eq];exact List.mem_cons_of_mem _ (Lv ha hy));rw[G4 x.cK (by omega) (mk:=fun(s:List A6×List Int) i=>(s.1,s.2,i)) (body:=fun(s:List A6×List Int) a=>(K0 N n ⟨env,own,ev,u⟩ a).bind fun r8=>if cmp .neq r8.2 0=true then some (.inr (.inr r8.2))else(M5 s.1 [r8.1]).bind fun l9=>(M5 s.2 [r8.1.Kind]).bind fun l12=>some (.inl (l9,l12))) (fin:=fun s=>.inl s) (s:=([],[])) (by omega) ?_ ?_]
  ·rw [HC (R:=Gi env own ev) rfl (by simp;omega) hF]
   cases hq:Dg (Gi env own ev) x.cK with
   |inr f=>rfl
   | inl q=>
    simp only[Option.bind_some,List.nil_append];have hql:=JT hq;rw[QL hN _ (by simp;omega)];simp only[Option.bind_some]
    by_cases hz:GZ x.Op (q.map (·.Kind))=0
    ·rw[if_neg (J6 hz),if_neg (show¬GZ x.Op (q.map (·.Kind))≠0 by simpa using hz)]
     have hi0:B9 q 0=some (q.getD 0 X1):=by
      have:B9 q 0=q[0]? :=E2 (i:=0);rw[this,HU (by omega)]
     have hiL:B9 q (ar .sub .i64 (Ar.len q) 1)=some (q.getD (q.length - 1) X1):=by
      have e:ar .sub .i64 (Ar.len q) 1=((q.length - 1:Nat):Int):=by
       have:ar .sub .i64 (Ar.len q) 1=Ar.len q - 1:=Ba (by rw[B5];omega) (by rw[B5];omega);rw[this,B5];omega
      rw[e,E2,HU (by omega)]
     unfold QR
     by_cases h9:x.Op=9
     ·rw[if_pos (by rw[C5];exact decide_eq_true h9)]
      have h2:x.cK.length=2:=by rw[if_neg (by omega),if_neg (by omega)]at a3;omega
      have hi1:B9 q 1=some (q.getD 1 X1):=by
       have:B9 q 1=q[1]? :=E2 (i:=1);rw[this,HU (by omega)]
      rw[hi0,hi1];simp only[Option.bind_some];rw[QI];simp only[Option.bind_some,h9,if_true,Option.some.injEq,Prod.mk.injEq,and_true]
      congr 1
      generalize q.getD 0 X1=v;generalize q.getD 1 X1=w;obtain⟨v1,v2,v3⟩:=v;obtain⟨w1,w2,w3⟩:=w;simp only[H6,C5,DC,A6.mk.injEq,Bool.and_true,Bool.decide_and]
     rw[if_neg (by rw[C5];simpa using h9)];rw[hi0,hiL];simp only[Option.bind_some,P7,AT,AS,AR,AQ,AP,AO,AN,QI,C5,C4,AU,H6,G9,I9,if_neg h9]
     have hop:x.Op=5∨x.Op=6∨x.Op=7∨x.Op=8∨x.Op=10∨x.Op=11∨x.Op=12:=by omega
     rcases hop with h|h|h|h|h|h|h<;>simp[h]
    rw[if_pos (J5 hz),if_pos hz];rfl
  ·intro s i a ha hi;have e:ar .add .i64 (i:Int) 1=i+1:=D2 (by omega) (by omega);simp only[C4,B5,hi,decide_true,if_true,E2,ha,Option.bind_some,e]
   cases K0 N n ⟨env,own,ev,u⟩ a with
   |none=>rfl
   | some r=>
    simp only[Option.bind_some]
    split
    ·rfl
    cases M5 s.1 [r.1]with
    |none=>rfl
    |some l=>
     simp only[Option.bind_some];cases M5 s.2 [r.1.Kind]<;>rfl
  intro s;simp[C4,B5]
def LR (env:AZ)(own:Int)(ev:A9)(x:B4):A6×Int:=if L8 x=0 then Fx (Gi env own ev) x else(X1,L8 x)
theorem Je {x:B4}(h:L8 x=0):∀y∈x.pre,Y9 y=0:=by
 unfold L8 at h
 split at h
 ·omega
 split at h
 ·omega
 exact Dp.1 h
theorem Ah2 {N:Nat}(hN:40000000≤N){env:AZ}(he:GY env)(own:Int)(ev:A9){x:B4}(hb:x.bulk≤16777216):Gn N x env own ev=some (LR env own ev x):=by
 unfold Gn LR;rw[PD hN hb];simp only[Option.bind_some]
 by_cases h:L8 x=0
 ·rw[if_neg (J6 h),if_pos h];have hd:=JY x;rw[Xv hN he own ev () N x (by omega) hb (Je h)];rfl
 rw[if_pos (J5 h),if_neg h];rfl
end
end Go.Ab
namespace Go.Ab
noncomputable section
open Classical
theorem TS (x y:A6):an (cmp .eql x.Kind y.Kind) (an (cmp .eql x.Num y.Num) (an (scmp .eql x.Text y.Text) true))=decide (x=y):=by
 rw[DC];simp only[H6,C5,Bool.and_true];cases x;cases y;simp only[A6.mk.injEq];rw[Bool.eq_iff_iff];simp
def DO (env:AZ)(own:Int)(ev:A9)(x:B4):Bool:=decide ((LR env own ev x).2=0)&&decide ((LR env own ev x).1=⟨1,1,⟨#[]⟩⟩)
theorem Rs {N:Nat}(hN:40000000≤N){env:AZ}(he:GY env)(own:Int)(ev:A9){x:B4}(hb:x.bulk≤16777216):De N x env own ev=some (DO env own ev x):=by
 unfold De DO;rw[Ah2 hN he own ev hb];simp only[Option.bind_some];rw[C5]
 by_cases h:(LR env own ev x).2=0
 ·rw[if_pos (decide_eq_true h),QI];simp only[Option.bind_some,decide_eq_true h,Bool.true_and];rw[TS];exact congrArg some (decide_eq_decide.2 Iff.rfl)
 rw[if_neg (by simpa using h),decide_eq_false h];rfl
end
end Go.Ab
namespace Go.Ab
noncomputable section
theorem LI (N:Nat){k:Int}(h0:0≤k)(h5:k≤5)(v:A6):V2 N k v=some (decide (v.Kind=0∨(k≠1∧k≠2∧k≠3))):=by
 unfold V2;simp only[G9,C5,Option.some.injEq]
 have h:k=0∨k=1∨k=2∨k=3∨k=4∨k=5:=by omega
 by_cases hz:v.Kind=0<;>rcases h with rfl|rfl|rfl|rfl|rfl|rfl<;>simp[hz]
theorem OR (N:Nat) {k:Int} (h0:0≤k) (h5:k≤5) (v:A6):Af N k v=some (M3 k v):=by
 unfold Af M3;rw[Im];simp only[Option.bind_some]
 by_cases h:J3 v=0
 ·rw[if_neg (J6 h),if_neg (show¬J3 v≠0 by simpa using h),LI N h0 h5];simp only[Option.bind_some]
  by_cases h2:v.Kind=0∨(k≠1∧k≠2∧k≠3)
  ·rw[if_neg (by rw[K6,decide_eq_true h2];decide),if_pos h2]
  rw[if_pos (by rw[K6,decide_eq_false h2];rfl),if_neg h2]
 rw[if_pos (J5 h),if_pos h]
theorem Sb (N:Nat)(k:Int)(a b:A6):BT N k a b=some (Jg k a b):=by
 unfold BT Jg;simp only[C5,decide_eq_true_eq]
 repeat (split;rfl)
 rfl
theorem RX (N:Nat)(k:Int):EE N k=some (decide (0≤k)&&decide (k≤5)):=rfl
theorem Kr {N:Nat} {k:Int} (h0:0≤k) (h5:k≤5) {l:List A6} (hl:l.length≤4096) (hv:∀v∈l,M3 k v=0):Ct N (O8 k l)=some 0:=by
 unfold Ct;rw[RX];simp only[Option.bind_some]
 have e1:¬(nt (decide (0≤(O8 k l).Kind)&&decide ((O8 k l).Kind≤5))=true):=by
  show¬((!(decide (0≤k)&&decide (k≤5)))=true)
  simp;omega
 have e2:¬(Ar.or (cmp .lss (O8 k l).Count 0) (cmp .gtr (O8 k l).Count 4096)=true):=by
  show¬((decide ((l.length:Int)<0)||decide (4096<(l.length:Int)))=true)
  simp;omega
 rw[if_neg e1,if_neg e2]
 by_cases hz:l=[]∨k=0
 ·have e3:Ar.or (cmp .eql (O8 k l).Count 0) (cmp .eql (O8 k l).Kind 0)=true:=by
   show(decide ((l.length:Int)=0)||decide (k=0))=true
   rcases hz with rfl|h
   ·rfl
   simp[h]
  have e4:(O8 k l).Value=X1:=by
   by_cases hn:l=[]
   ·subst hn;rfl
   exact(KD _ rfl hn hl hv).c (hz.resolve_left hn)
  rw[if_pos e3,e4];exact if_neg (by simp[K6,H6,C5,DC,X1])
 have hn:l≠[]:=fun h=>hz (.inl h);have hk:k≠0:=fun h=>hz (.inr h);have hlen:l.length≠0:=fun h=>hn (List.eq_nil_of_length_eq_zero h)
 have e3:¬(Ar.or (cmp .eql (O8 k l).Count 0) (cmp .eql (O8 k l).Kind 0)=true):=by
  show¬((decide ((l.length:Int)=0)||decide (k=0))=true)
  simp[hk,hn]
 rw[if_neg e3];have g:=KD _ rfl hn hl hv
 by_cases k1:k=1
 ·rw[if_pos (show cmp .eql (O8 k l).Kind 1=true from decide_eq_true k1)];obtain⟨a,b,c,d⟩:=g.s k1;have ev:(O8 k l).Value=Z5 k l:=rfl;have ec:(O8 k l).Count=(l.length:Int):=rfl;have em:ar .mul .i64 (l.length:Int) 1099511627776=(l.length:Int)*1099511627776:=Ba (by omega) (by omega)
  have en:Ar.neg .i64 ((l.length:Int)*1099511627776)= - ((l.length:Int)*1099511627776):=by
   show IntKind.wrap .i64 (0 - (l.length:Int)*1099511627776)=_
   rw[Ba (by omega) (by omega)];omega
  rw[ev,ec,em,en];rw[if_neg];rw[show scmp .neq (Z5 k l).Text ⟨#[]⟩= !(scmp .eql (Z5 k l).Text ⟨#[]⟩)from rfl,DC];simp only[G9,I9,C4,Z0];rw[decide_eq_true a,decide_eq_true b,decide_eq_false (show¬(Z5 k l).Num< -((l.length:Int)*1099511627776) by omega),decide_eq_false (show¬(l.length:Int)*1099511627776<(Z5 k l).Num by omega)]
  decide
 rw[if_neg (show¬(cmp .eql (O8 k l).Kind 1=true)from(by show¬decide (k=1)=true;simpa using k1))]
 have hvb:J3 (Z5 k l)=0:=by
  by_cases h23:k=2∨k=3
  ·exact(g.m h23).1
  exact g.f (by omega)
 have hsu:(Z5 k l).Kind=0∨(k≠1∧k≠2∧k≠3):=by
  by_cases h23:k=2∨k=3
  ·exact .inl (g.m h23).2
  exact .inr (by omega)
 show((X3 N (Z5 k l)).bind _)=_
 rw[Im,hvb];simp only[Option.bind_some];rw[if_neg (show¬(cmp .neq 0 0=true) by decide)]
 show((V2 N k (Z5 k l)).bind _)=_
 rw[LI N h0 h5,decide_eq_true hsu];rfl
theorem Ac7 {N:Nat} {k:Int} (h0:0≤k) (h5:k≤5) {l:List A6} (hl:l.length<4096) (hv:∀v∈l,M3 k v=0) (v:A6):
 ∃z,Cu N (O8 k l) v=some (if M3 k v=0 then(O8 k (l++[v]),0)else(z,M3 k v)):=by
 refine⟨⟨0,0,X1⟩,?_⟩;unfold Cu;rw[Kr h0 h5 (by omega) hv];simp only[Option.bind_some];rw[if_neg (show¬(cmp .neq 0 0=true) by decide)]
 show((Af N k v).bind _)=_
 rw[OR N h0 h5];simp only[Option.bind_some]
 by_cases hw:M3 k v=0
 ·rw[if_neg (J6 hw),if_pos hw];have ec:(O8 k l).Count=(l.length:Int):=rfl;have ek:(O8 k l).Kind=k:=rfl;have ev:(O8 k l).Value=Z5 k l:=rfl
  have ea:O8 k (l++[v])=⟨k,(l.length:Int)+1,if l=[]then BS k v else Jg k (Z5 k l) (BS k v)⟩:=by
   unfold O8;rw[JR];simp
  rw[ec,ek,ev,ea,D2 (a:=(l.length:Int)) (by omega) (by omega)];rw[if_neg (show¬(cmp .eql (l.length:Int) 4096=true) by rw[C5];simp;omega)]
  by_cases k0:k=0
  ·subst k0;rw[if_pos (show cmp .eql 0 0=true by rfl)]
   have:(if l=[]then BS 0 v else Jg 0 (Z5 0 l) (BS 0 v))=X1:=by split<;>rfl
   rw[this];rfl
  rw[if_neg (show¬(cmp .eql k 0=true) by rw[C5];simpa using k0)];have es:BS k v=v:=if_neg k0;rw[es]
  by_cases hn:l=[]
  ·subst hn;rw[if_neg (show¬(cmp .gtr (([]:List A6).length:Int) 0=true) by decide),if_pos rfl]
  have:0<l.length:=List.length_pos_iff.2 hn;rw[if_pos (show cmp .gtr (l.length:Int) 0=true from decide_eq_true (by omega)),Sb,if_neg hn];rfl
 rw[if_pos (J5 hw),if_neg hw];rfl
theorem LK {N:Nat} {k:Int} (h0:0≤k) (h5:k≤5):∀(l p:List A6),p.length+l.length≤4096→(∀v∈p,M3 k v=0)→
 ∃z,G5 (fun(s:C2) v=>(Cu N s v).bind fun r=>if cmp .neq r.2 0=true then some (Sum.inr (Sum.inr (α:=C2) (r.2,s)))else some (.inl r.1)) l (O8 k p)=
  some (if S9 (M3 k) l=0 then .inl (O8 k (p++l))else .inr (.inr (S9 (M3 k) l,z)))
 |[],p,_,_=>⟨O8 k p,by simp[G5,S9]⟩
 |v::l,p,hl,hp=>by
  simp only[List.length_cons]at hl
  obtain⟨z,hz⟩:=Ac7 (N:=N) h0 h5 (l:=p) (by omega) hp v;simp only[G5,hz,Option.bind_some,S9]
  by_cases hw:M3 k v=0
  ·obtain⟨z',h'⟩:=LK (N:=N) h0 h5 l (p++[v]) (by simp;omega) (by intro x hx;rcases List.mem_append.1 hx with h|h;exact hp x h;rw[List.mem_singleton.1 h];exact hw);refine⟨z',?_⟩;simp only[hw,if_true,if_neg (J6 (rfl:(0:Int)=0))];rw[h',List.append_assoc];rfl
  refine⟨O8 k p,?_⟩;simp only[hw,if_false,if_pos (J5 hw)]
theorem Ac6 {N:Nat} (hN:40000000≤N) (k:Int) (l:List A6) (o:A6):Hy N k l o=some (ZT k l o):=by
 unfold Hy ZT;rw[RX];simp only[Option.bind_some]
 by_cases h0:k<0∨5<k
 ·rw[if_pos (by show(!(decide (0≤k)&&decide (k≤5)))=true;simp;omega),if_pos h0];rfl
 rw[if_neg (by show¬((!(decide (0≤k)&&decide (k≤5)))=true);simp;omega),if_neg h0]
 by_cases h1:4096<l.length
 ·rw[if_pos (W5 (by rw[B5];omega)),if_pos h1];rfl
 rw[if_neg (U1 (by rw[B5];omega)),if_neg h1];rw[G4 l (by omega) (mk:=fun(s:C2) i=>(i,s)) (body:=fun(s:C2) v=>(Cu N s v).bind fun r=>if cmp .neq r.2 0=true then some (Sum.inr (Sum.inr (α:=C2) (r.2,s)))else some (.inl r.1)) (fin:=fun s=>.inl s) (s:=⟨k,0,⟨0,0,⟨#[]⟩⟩⟩) (by omega) ?_ ?_]
 ·obtain⟨z,hz⟩:=LK (N:=N) (k:=k) (by omega) (by omega) l [] (by simpa using by omega) (by simp);rw[show(⟨k,0,⟨0,0,⟨#[]⟩⟩⟩:C2)=O8 k []from rfl,hz]
  by_cases h2:S9 (M3 k) l=0
  ·rw[if_pos h2,if_neg (show¬S9 (M3 k) l≠0 by simpa using h2)];have hv:=Dp.1 h2;simp only[Option.bind_some,List.nil_append];unfold Ee;rw[Kr (by omega) (by omega) (by omega) hv];simp only[Option.bind_some];rw[if_neg (show¬(cmp .neq 0 0=true) by decide)]
   show((Af N k o).bind _).bind _=_
   rw[OR N (by omega) (by omega)];simp only[Option.bind_some]
   by_cases h3:M3 k o=0
   ·rw[if_neg (J6 h3),if_neg (show¬M3 k o≠0 by simpa using h3)]
    by_cases h4:k=0
    ·rw[if_pos (show cmp .eql (O8 k l).Kind 0=true from decide_eq_true h4),if_pos h4];rfl
    rw[if_neg (show¬(cmp .eql (O8 k l).Kind 0=true)from(by show¬decide (k=0)=true;simpa using h4)),if_neg h4]
    by_cases h5:l=[]∧k≠1
    ·rw[if_pos (show an (cmp .eql (O8 k l).Count 0) (cmp .neq (O8 k l).Kind 1)=true by show(decide ((l.length:Int)=0)&& !decide (k=1))=true;simp[h5.1,h5.2]),if_pos h5];rfl
    rw[if_neg (show¬(an (cmp .eql (O8 k l).Count 0) (cmp .neq (O8 k l).Kind 1)=true) by show¬((decide ((l.length:Int)=0)&& !decide (k=1))=true);simpa using h5),if_neg h5];rfl
   rw[if_pos (J5 h3),if_pos (show M3 k o≠0 from h3)];rfl
  rw[if_neg h2,if_pos (show S9 (M3 k) l≠0 from h2)];rfl
 ·intro s i a ha hi;have e:ar .add .i64 (i:Int) 1=i+1:=D2 (by omega) (by omega);simp only[C4,B5,hi,decide_true,if_true,E2,ha,Option.bind_some,e]
  cases Cu N s a with
  |none=>rfl
  |some r=>simp only[Option.bind_some];split<;>rfl
 intro s;simp[C4,B5]
end
end Go.Ab
namespace Go.Ab
noncomputable section
theorem Na (N:Nat)(b:Bool):R0 N b=some (Jd b):=by unfold R0 Jd;cases b<;>rfl
theorem Qj (N:Nat)(env:AZ)(v:Int):Ak N env v=some (FK env v):=by
 unfold Ak FK
 by_cases h:v<0∨(env.cS.length:Int)≤v
 ·rw[if_pos (by simp only[G9,C4,L3,B5];simpa using h),if_pos h]
 rw[if_neg (by simp only[G9,C4,L3,B5];simpa using h),if_neg h]
 have hi:v.toNat<env.cS.length:=by omega
 have hv:v=(v.toNat:Int):=by omega
 rw[hv,E2];simp only[List.getD_eq_getElem?_getD,Int.toNat_natCast,List.getElem?_eq_getElem hi,Option.bind_some,Option.getD_some]
theorem SO {l:List A6}{k:Int}(h0:0≤k)(h1:k<l.length):B9 l k=some (l.getD k.toNat X1):=by
 obtain⟨i,rfl⟩:=Int.eq_ofNat_of_zero_le h0
 have hi:i<l.length:=by omega
 rw[E2];simp[List.getD_eq_getElem?_getD,List.getElem?_eq_getElem hi]
theorem Yt (N:Nat) {env:AZ} (he:GY env) (v own:Int) (ev:A9):EC N env v own ev=some (match JP (FK env v) own ev v with|some y=>(y,true)|none=>(⟨0,0,0,0,[]⟩,false)):=by
 have hl:=MF he v;unfold EC JP
 by_cases hv:v=own
 ·rw[if_pos (by rw[C5];exact decide_eq_true hv),if_neg (by simpa using hv)]
 rw[if_neg (by rw[C5];simpa using hv),if_pos hv,Qj];simp only[Option.bind_some]
 generalize FK env v=rows at hl
 rcases List.eq_nil_or_concat rows with rfl|⟨q,y,rfl⟩
 ·rfl
 rw[concat_eq_append]at *
 have e1:ar .sub .i64 (Ar.len (q++[y])) 1=(q.length:Int):=by
  have:ar .sub .i64 (Ar.len (q++[y])) 1=Ar.len (q++[y]) - 1:=Ba (by rw[B5];omega) (by rw[B5];omega);rw[this,B5];simp
 rw[if_neg (by rw[C5,B5];simp;omega),e1,E2];simp
theorem Ys {N:Nat} (hN:40000000≤N) {env:AZ} (he:GY env) (own:Int) (ev:A9) {x:B4} (hx:Y9 x=0) (ha:x.cK=[]):EB N x env own ev=some (Gi env own ev x):=by
 have hok:=Al4 hx
 have hop:0≤x.Op∧x.Op<5:=by
  have:=IN hx
  rw[ha]at this
  simp only[List.length_nil]at this
  obtain⟨h1,h2,h3⟩:=this
  by_cases h5:x.Op<5
  ·exact⟨h1,h5⟩
  rw[if_neg h5]at h3
  split at h3<;>omega
 have hl:=MF he x.Var;unfold EB Gi
 by_cases h0:x.Op=0
 ·rw[if_pos (by rw[C5];exact decide_eq_true h0),if_pos h0]
 rw[if_neg (by rw[C5];simpa using h0),if_neg h0]
 by_cases h3:x.Op=3
 ·rw[if_pos (by rw[C5];exact decide_eq_true h3),if_pos h3,Qj];rfl
 rw[if_neg (by rw[C5];simpa using h3),if_neg h3]
 by_cases h4:x.Op=4
 ·have hf:=(hok.1 (.inr h4)).1;rw[if_pos (by rw[C5];exact decide_eq_true h4),if_pos h4,Qj];simp only[Option.bind_some];unfold PV
  generalize FK env x.Var=rows at hl
  rw[G4 rows (by omega) (mk:=fun(s:List A6) i=>(s,i)) (body:=fun s e=>if cmp .geq x.Field (Ar.len e.Values)=true then some (.inr (.inr ()))else(B9 e.Values x.Field).bind fun v=>(M5 s [v]).bind fun l=>some (.inl l)) (fin:=fun s=>.inl s) (s:=[]) (by omega) ?_ ?_]
  ·rw[JC (p:=fun e=>decide (x.Field<(e.Values.length:Int))) (g:=fun e=>e.Values.getD x.Field.toNat X1) (r:=.inr ()) (by simp;omega) (fun s e _ hs=>by
    by_cases h:(e.Values.length:Int)≤x.Field
    ·rw[if_pos (by rw[L3,B5];exact decide_eq_true h),if_neg (by simpa using h)]
    rw[if_neg (by rw[L3,B5];simpa using h),if_pos (by simpa using h),SO hf (by omega)];simp only[Option.bind_some]
    rw[AV (by simp;omega)];rfl)]
   by_cases h:(rows.all fun e=>decide (x.Field<(e.Values.length:Int)))=true
   ·rw[if_pos h,if_pos h];simp only[Option.bind_some,List.nil_append];rw[Ac6 hN];rfl
   rw[if_neg h,if_neg h];rfl
  ·intro s i a ha hi;have e:ar .add .i64 (i:Int) 1=i+1:=D2 (by omega) (by omega);simp only[C4,B5,hi,decide_true,if_true,E2,ha,Option.bind_some,e]
   split
   ·rfl
   cases B9 a.Values x.Field with
   |none=>rfl
   |some v=>
    simp only[Option.bind_some];cases M5 s [v]<;>rfl
  intro s;simp[C4,B5]
 rw[if_neg (by rw[C5];simpa using h4),if_neg h4,Yt N he];simp only[Option.bind_some]
 cases hy:JP (FK env x.Var) own ev x.Var with
 |none=>rfl
 |some y=>
  simp only[K6,Bool.not_true,Bool.false_eq_true,if_false];unfold Yy
  by_cases h2:x.Op=2
  ·rw[if_pos (by rw[C5];exact decide_eq_true h2),if_pos h2]
  rw[if_neg (by rw[C5];simpa using h2),if_neg h2]
  have h1:x.Op=1:=by omega
  have hf:=(hok.1 (.inl h1)).1;unfold EQ
  by_cases hb:(y.Values.length:Int)≤x.Field
  ·rw[if_pos (by rw[L3,B5];exact decide_eq_true hb),if_pos hb];rfl
  rw[if_neg (by rw[L3,B5];simpa using hb),if_neg hb,SO hf (by omega)];simp only[Option.bind_some];rw[Im];simp only[Option.bind_some];rw[if_neg (show¬((0:Int)≠0) by simp)]
  by_cases hc:J3 (y.Values.getD x.Field.toNat X1)=0
  ·rw[if_neg (J6 hc),if_neg (show¬J3 (y.Values.getD x.Field.toNat X1)≠0 by simpa using hc)]
  rw[if_pos (J5 hc),if_pos hc];rfl
theorem Ac4 (N:Nat)(op:Int):Bi N op=some (if op=5∨op=6∨op=7∨op=8 then 0 else if op=10∨op=11∨op=12 then 1 else -1):=by
 unfold Bi;simp only[C5,decide_eq_true_eq]
 by_cases h5:op=5
 ·simp[h5]
 by_cases h6:op=6
 ·simp[h6]
 by_cases h7:op=7
 ·simp[h7]
 by_cases h8:op=8
 ·simp[h8]
 simp only[h5,h6,h7,h8,if_false,Option.bind_some,decide_false,Bool.false_eq_true,or_self,false_or]
 by_cases h10:op=10
 ·simp[h10]
 by_cases h11:op=11
 ·simp[h11]
 by_cases h12:op=12
 ·simp[h12]
 simp[h10,h11,h12]
theorem Qi {N:Nat} (hN:40000000≤N) (op:Int) {kinds:List Int} (hl:kinds.length<1000000):Bh N op kinds=some (GZ op kinds):=by
 unfold Bh GZ;rw[G4 kinds (by omega) (mk:=fun(_:Unit) i=>i) (body:=fun _ k=>some (if GK op kinds k=true then .inl ()else .inr (.inr ()))) (fin:=fun _=>.inl ()) (s:=()) (by omega) ?_ ?_]
 ·rw[JD (p:=GK op kinds) (r:=.inr ()) fun x _=>rfl]
  by_cases h:kinds.all (GK op kinds)=true
  ·rw[if_pos h,if_pos h];rfl
  rw[if_neg h,if_neg h];rfl
 ·intro s i k hk hi;have e:ar .add .i64 (i:Int) 1=i+1:=D2 (by omega) (by omega)
  have h0:B9 kinds 0=some (kinds.getD 0 0):=by
   have:B9 kinds 0=kinds[0]? :=E2 (i:=0);rw[this,List.getD_eq_getElem?_getD,List.getElem?_eq_getElem (by omega)];rfl
  simp only[C4,B5,hi,decide_true,if_true,E2,hk,Option.bind_some,e,C5,h0,K6,Ac4,I9,L3];unfold GK
  by_cases a5:op=5
  ·subst a5;by_cases hz:k=0<;>simp[hz]
  by_cases a6:op=6
  ·subst a6;by_cases hz:k=0<;>simp[hz]
  by_cases a7:op=7
  ·subst a7;by_cases hz:k=0<;>simp[hz]
  by_cases a8:op=8
  ·subst a8;by_cases hz:k=0<;>simp[hz]
  by_cases a10:op=10
  ·subst a10;by_cases hz:k=1<;>simp[hz]
  by_cases a11:op=11
  ·subst a11;by_cases hz:k=1<;>simp[hz]
  by_cases a12:op=12
  ·subst a12;by_cases hz:k=1<;>simp[hz]
  by_cases a9:op=9
  ·subst a9;generalize kinds.getD 0 0=z
   by_cases hz:k=z<;>simp[hz]
  simp[a5,a6,a7,a8,a9,a10,a11,a12]
 intro s;simp[C4,B5]
theorem Uo {N:Nat} (hN:40000000≤N) {env:AZ} (he:GY env) (own:Int) (ev:A9):∀(n:Nat) (x:B4),x.dep≤n→x.bulk≤16777216→(∀y∈x.pre,Y9 y=0)→Aj N n x env own ev=some (Fx (Gi env own ev) x):=by
 intro n
 induction n with
 |zero=>intro x h;rw[B4.dep_eq]at h;omega
 | succ n ih=>
  intro x hd hb hbad;have hx:=hbad x (by rw[B4.pre_eq];simp);have hd':=B4.dep_eq x;unfold Aj;rw[SY]
  by_cases h0:x.cK.length=0
  ·rw[if_pos (by rw[C5,B5];exact decide_eq_true (by omega)),if_pos h0,Ys hN he own ev hx (List.eq_nil_of_length_eq_zero h0)];rfl
  rw[if_neg (by rw[C5,B5];simpa using(show¬(x.cK.length:Int)=0 by omega)),if_neg h0];obtain⟨a1,a2,a3⟩:=IN hx
  have hlen:x.cK.length≤2:=by
   split at a3
   ·omega
   split at a3<;>omega
  have hop5:5≤x.Op:=by
   by_cases h5:x.Op<5
   ·rw[if_pos h5]at a3;omega
   omega
  have hF:∀a∈x.cK,Aj N n a env own ev=some (Fx (Gi env own ev) a):=fun a ha=>ih a (by have:=NP ha;omega) (by have:=Y6 ha;omega) fun y hy=>hbad y (by rw[B4.pre_eq];exact List.mem_cons_of_mem _ (Lv ha hy));rw[G4 x.cK (by omega) (mk:=fun(s:List A6×List Int) i=>(s.1,s.2,i)) (body:=fun(s:List A6×List Int) a=>(Aj N n a env own ev).bind fun r8=>if cmp .neq r8.2 0=true then some (.inr (.inr r8.2))else(M5 s.1 [r8.1]).bind fun l9=>(M5 s.2 [r8.1.Kind]).bind fun l12=>some (.inl (l9,l12))) (fin:=fun s=>.inl s) (s:=([],[])) (by omega) ?_ ?_]
  ·rw [HC (R:=Gi env own ev) rfl (by simp;omega) hF]
   cases hq:Dg (Gi env own ev) x.cK with
   |inr f=>rfl
   | inl q=>
    simp only[Option.bind_some,List.nil_append];have hql:=JT hq;rw[Qi hN _ (by simp;omega)];simp only[Option.bind_some]
    by_cases hz:GZ x.Op (q.map (·.Kind))=0
    ·rw[if_neg (J6 hz),if_neg (show¬GZ x.Op (q.map (·.Kind))≠0 by simpa using hz)]
     have hi0:B9 q 0=some (q.getD 0 X1):=by
      have:B9 q 0=q[0]? :=E2 (i:=0);rw[this,HU (by omega)]
     unfold Fk
     by_cases h12:x.Op=12
     ·have e1:q.length - 1=0:=by rw[if_neg (by omega),if_pos h12]at a3;omega
      rw[h12];simp only[C5,hi0,Option.bind_some,Na,I9];rfl
     have h2:q.length=2:=by rw[if_neg (by omega),if_neg h12]at a3;omega
     have hi1:B9 q 1=some (q.getD 1 X1):=by
      have:B9 q 1=q[1]? :=E2 (i:=1);rw[this,HU (by omega)]
     have e1:q.length - 1=1:=by omega
     unfold QR;rw[e1];simp only[C5,hi0,hi1,Option.bind_some,Na,I9,C4,AU];generalize q.getD 0 X1=v;generalize q.getD 1 X1=w
     have hop:x.Op=5∨x.Op=6∨x.Op=7∨x.Op=8∨x.Op=9∨x.Op=10∨x.Op=11:=by omega
     rcases hop with h|h|h|h|h|h|h
     ·simp[h]
     ·simp[h]
     ·simp[h]
     ·simp[h]
     ·simp only[h];have:=TS v w
      simp only[C5]at this
      rw[this];simp
     ·simp only[h]
      by_cases hv:v.Num=1<;>simp[hv]
     simp only[h]
     by_cases hv:v.Num=1<;>simp[hv]
    rw[if_pos (J5 hz),if_pos hz];rfl
  ·intro s i a ha hi;have e:ar .add .i64 (i:Int) 1=i+1:=D2 (by omega) (by omega);simp only[C4,B5,hi,decide_true,if_true,E2,ha,Option.bind_some,e]
   cases Aj N n a env own ev with
   |none=>rfl
   | some r=>
    simp only[Option.bind_some]
    split
    ·rfl
    cases M5 s.1 [r.1]with
    |none=>rfl
    |some l=>
     simp only[Option.bind_some];cases M5 s.2 [r.1.Kind]<;>rfl
  intro s;simp[C4,B5]
theorem Yv {N:Nat}(hN:40000000≤N){env:AZ}(he:GY env)(own:Int)(ev:A9){x:B4}(hb:x.bulk≤16777216):ED N x env own ev=some (LR env own ev x):=by
 unfold ED LR;rw[NX hN hb];simp only[Option.bind_some]
 by_cases h:L8 x=0
 ·rw[if_neg (J6 h),if_pos h];have hd:=JY x;rw[Uo hN he own ev N x (by omega) hb (Je h)];rfl
 rw[if_pos (J5 h),if_neg h];rfl
theorem FT {N:Nat}(hN:40000000≤N){env:AZ}(he:GY env)(own:Int)(ev:A9){x:B4}(hb:x.bulk≤16777216):Bj N x env own ev=some (DO env own ev x):=by
 unfold Bj DO;rw[Yv hN he own ev hb];simp only[Option.bind_some];rw[C5]
 by_cases h:(LR env own ev x).2=0
 ·rw[if_pos (decide_eq_true h),Na];simp only[Option.bind_some,decide_eq_true h,Bool.true_and];rw[TS];exact congrArg some (decide_eq_decide.2 Iff.rfl)
 rw[if_neg (by simpa using h),decide_eq_false h];rfl
end
end Go.Ab
namespace Go.Ab
open Classical
noncomputable section
abbrev PR :=B2
def mrg :List PR→List PR→List PR
 |[],b=>b
 |x::a,[]=>x::a
 |x::a,y::b=>if x.At<y.At then x::mrg a (y::b)else y::mrg (x::a) b
 termination_by a b=>a.length+b.length
theorem GI (b:List PR):mrg [] b=b:=by unfold mrg;rfl
theorem Gf (a:List PR):mrg a []=a:=by cases a<;>(unfold mrg;rfl)
theorem Kw (x y:PR)(a b:List PR):mrg (x::a) (y::b)=if x.At<y.At then x::mrg a (y::b)else y::mrg (x::a) b:=by rw[mrg]
theorem HL :∀(n:Nat) (a b:List PR),a.length+b.length≤n→(mrg a b).Perm (a++b)
 |_,[],b,_=>by rw[GI];exact .refl _
 |_,x::a,[],_=>by rw[Gf];simp
 |0,x::a,y::b,h=>by simp at h
 |n+1,x::a,y::b,h=>by
  simp only[List.length_cons]at h
  rw[Kw]
  split
  ·exact(HL n a (y::b) (by simp;omega)).cons x
  exact((HL n (x::a) b (by simp;omega)).cons y).trans (List.perm_middle.symm)
theorem Bz {a b:List PR}{x:PR}:x∈mrg a b↔x∈a∨x∈b:=by rw[(HL _ a b (Nat.le_refl _)).mem_iff,List.mem_append]
theorem MA (a b:List PR):(mrg a b).length=a.length+b.length:=by rw[(HL _ a b (Nat.le_refl _)).length_eq,List.length_append]
def Rc (a:List PR):Prop:=a.Pairwise fun x y=>x.At<y.At
def Bq (a b:List PR):Prop:=∀x∈a,∀y∈b,x.At≠y.At
theorem MB :∀(n:Nat) {a b:List PR},a.length+b.length≤n→Rc a→Rc b→Bq a b→Rc (mrg a b)
 |_,[],b,_,_,hb,_=>by rw[GI];exact hb
 |_,x::a,[],_,ha,_,_=>by rw[Gf];exact ha
 |0,x::a,y::b,h,_,_,_=>by simp at h
 | n+1,x::a,y::b,h,ha,hb,hd=>by
  simp only[List.length_cons]at h
  unfold Rc at ha hb
  rw[List.pairwise_cons]at ha hb
  rw[Kw];have hxy:=hd x (by simp) y (by simp)
  split
  ·rename_i hlt;refine List.pairwise_cons.2 ⟨fun z hz=>?_,MB n (by simp;omega) ha.2 (List.pairwise_cons.2 hb) fun u hu v hv=>hd u (by simp[hu]) v hv⟩
   rcases Bz.1 hz with hz|hz
   ·exact ha.1 z hz
   rcases List.mem_cons.1 hz with rfl|hz
   ·exact hlt
   have:=hb.1 z hz;omega
  rename_i hlt;refine List.pairwise_cons.2 ⟨fun z hz=>?_,MB n (by simp;omega) (List.pairwise_cons.2 ha) hb.2 fun u hu v hv=>hd u hu v (by simp[hv])⟩
  rcases Bz.1 hz with hz|hz
  ·rcases List.mem_cons.1 hz with rfl|hz
   ·omega
   have:=ha.1 z hz;omega
  exact hb.1 z hz
theorem Nt :∀{a b:List PR},(∀x∈a,∀y∈b,x.At<y.At)→mrg a b=a++b
 |[],b,_=>GI b
 |x::a,[],_=>by rw[Gf,append_nil]
 |x::a,y::b,h=>by
  rw[Kw,if_pos (h x (by simp) y (by simp)),Nt fun u hu v hv=>h u (by simp[hu]) v hv];rfl
theorem Jp {α:Type}(x:α)(l:List α):N6 (x::l) (some 1) none none=some l:=by
 unfold N6;rw[if_pos (by simp;omega)];simp
def InS (n:Int)(s:List PR):Prop:=∀x∈s,0≤x.At∧x.At<n
theorem It {a b:Int}(h0: -9223372036854775808≤a - b)(h1:a - b<9223372036854775808):ar .sub .i64 a b=a - b:=Ba h0 h1
def IR (s:List PR)(i:Int):Bool:=s.any fun x=>decide (x.At=i)
def CI (a b:List PR):Bool:=a.any fun x=>IR b x.At
theorem QB {s:List PR}{i:Int}:IR s i=true↔∃x∈s,x.At=i:=by simp[IR]
theorem ID {a b:List PR}:CI a b=false↔Bq a b:=by
 unfold CI Bq;rw[List.any_eq_false]
 constructor
 ·intro h x hx y hy e;exact h x hx (QB.2 ⟨y,hy,e.symm⟩)
 intro h x hx hc;obtain⟨y,hy,e⟩:=QB.1 hc;exact h x hx y hy e.symm
theorem Ch {α:Type}{l:List α}{i:Int}(h:i<l.length):cmp .lss i (Ar.len l)=true:=W4 h
theorem Db {α:Type}{l:List α}:¬cmp .lss (l.length:Int) (Ar.len l)=true:=Q6 (Int.lt_irrefl _)
theorem SJ {α A B:Type} {N:Nat} {l:List α} (hl:l.length<N) (hN:l.length<1000000000) {step:Int→Option (Int ⊕ (A ⊕ B))} (P:α→Bool) (u:A) (r:Int→B)
 (hstep:∀(i:Nat) x,l[i]? =some x→(i:Int)<l.length→step i=some (if P x=true then .inr (.inr (r i))else .inl ((i:Int)+1)))
 (hend:step (l.length:Int)=some (.inr (.inl u))):∃i,loopN step N 0=some (if l.any P=true then .inr (r i)else .inl u)∧0≤i:=by
 have key:∀(k i n:Nat),i+k=l.length→k<n→∃j,loopN step n (i:Int)=some (if(l.drop i).any P=true then .inr (r j)else .inl u)∧0≤j:=by
  intro k
  induction k with
  |zero=>
   intro i n hi hn;obtain⟨n,rfl⟩:∃m,n=m+1:=⟨n - 1,by omega⟩;refine⟨0,?_,by omega⟩;rw[List.drop_eq_nil_of_le (by omega),show(i:Int)=l.length by omega];simp[loopN,hend]
  | succ k ih=>
   intro i n hi hn;obtain⟨n,rfl⟩:∃m,n=m+1:=⟨n - 1,by omega⟩
   have hlt:i<l.length:=by omega
   obtain⟨j,h,hj⟩:=ih (i+1) n (by omega) (by omega);rw[List.drop_eq_getElem_cons hlt,List.any_cons];have hs:=hstep i l[i] (by simp[hlt]) (by omega)
   by_cases hp:P l[i]=true
   ·refine⟨i,?_,by omega⟩
    rw[if_pos hp]at hs
    simp[loopN,hs,hp]
   refine⟨j,?_,hj⟩
   rw[if_neg hp]at hs
   simp only[loopN,hs];rw[show((i:Int)+1)=((i+1:Nat):Int) by omega,h];simp[hp]
 obtain⟨j,h,hj⟩:=key l.length 0 N (by omega) hl;exact⟨j,by simpa using h,hj⟩
theorem IF {α:Type}{N:Nat}{l:List α}{step:Int→Option (Int ⊕ (Unit ⊕ Unit))}(P:α→Bool)(hl:l.length<N)(hN:l.length<1000000000)
 (hstep:∀(i:Nat) x,l[i]? =some x→(i:Int)<l.length→step i=some (if P x=true then .inr (.inr ())else .inl ((i:Int)+1)))
 (hend:step (l.length:Int)=some (.inr (.inl ()))):loopN step N 0=some (if l.any P=true then .inr ()else .inl ()):=by
 obtain⟨_,h,_⟩:=SJ hl hN P () (fun _=>()) hstep hend;exact h
def Hk (s:List PR):Int:=match s with|[]=>0|x::_=>x.At
def Bn (s:List PR):Int:=match s.getLast? with|none=>0|some x=>x.At
theorem KC {α:Type} {l:List α} (h:l≠[]) (hl:l.length≤1000000):B9 l (ar .sub .i64 (Ar.len l) 1)=l.getLast? :=by
 rcases List.eq_nil_or_concat l with rfl|⟨q,y,rfl⟩
 ·exact absurd rfl h
 rw[concat_eq_append]at *
 have e1:ar .sub .i64 (Ar.len (q++[y])) 1=(q.length:Int):=by
  have:ar .sub .i64 (Ar.len (q++[y])) 1=Ar.len (q++[y]) - 1:=It (by rw[B5];omega) (by rw[B5];omega);rw[this,B5];simp
 rw[e1,E2];simp
theorem Er {s:List PR}(h:s≠[]):∃x,s.getLast? =some x∧x∈s∧Bn s=x.At:=by
 cases hs:s.getLast? with
 |none=>exact absurd (List.getLast?_eq_none_iff.1 hs) h
 |some x=>exact⟨x,rfl,List.mem_of_getLast? hs,by simp[Bn,hs]⟩
theorem NC {α:Type}(x:α)(l:List α):B9 (x::l) 0=some x:=rfl
theorem KR {s:List PR}(ha:Rc s):∀x∈s,x.At≤Bn s:=by
 intro x hx
 rcases List.eq_nil_or_concat s with rfl|⟨q,y,rfl⟩
 ·cases hx
 rw[concat_eq_append]at *
 have e:Bn (q++[y])=y.At:=by simp[Bn]
 rw[e]
 unfold Rc at ha
 rw[List.pairwise_append]at ha
 rcases List.mem_append.1 hx with h|h
 ·have:=ha.2.2 x h y (by simp);omega
 rw[List.mem_singleton.1 h];exact Int.le_refl _
theorem Tv {s:List PR} (ha:Rc s):∀x∈s,Hk s≤x.At:=by
 intro x hx
 cases s with
 |nil=>cases hx
 |cons y s=>
  unfold Rc at ha
  rw[List.pairwise_cons]at ha
  show y.At≤x.At
  rcases List.mem_cons.1 hx with rfl|h
  ·exact Int.le_refl _
  have:=ha.1 x h;omega
theorem Wo :∀{s:List PR} {k:Int} {m:Nat},Rc s→(∀x∈s,k≤x.At∧x.At<k+m)→s.length≤m
 |[],_,_,_,_=>Nat.zero_le _
 |x::s,k,m,ha,h=>by
  unfold Rc at ha
  rw[List.pairwise_cons]at ha
  have hx:=h x (by simp);obtain⟨m,rfl⟩:∃q,m=q+1:=⟨m - 1,by omega⟩
  have:=Wo (s:=s) (k:=x.At+1) (m:=m) ha.2 fun y hy=>by have:=ha.1 y hy;have:=h y (by simp[hy]);omega
  simp;omega
end
end Go.Ab
namespace Go.Ab
open Classical
noncomputable section
def Ow (l:List A9)(s:List PR)(b v:Int):List A9:=s.filterMap fun x=>if x.At<b∧x.Var=v then l[x.At.toNat]? else none
def Lw (l:List A9)(s:List PR)(b:Int):AZ:=⟨(List.range 16).map fun(v:Nat)=>Ow l s b (v:Int)⟩
def WfS (l:List A9)(s:List PR):Prop:=∀x∈s,(0≤x.Var∧x.Var<16)∧(0≤x.At∧x.At<l.length)
theorem WfS.ins {l:List A9}{s:List PR}(h:WfS l s):InS l.length s:=fun x hx=>(h x hx).2
theorem RT (l:List A9)(s:List PR)(b v:Int):(Ow l s b v).length≤s.length:=List.length_filterMap_le ..
theorem Di (l:List A9){s:List PR}(hs:s.length<1000000)(b:Int):GY (Lw l s b):=by
 constructor
 ·simp[Lw]
 intro r hr
 simp only[Lw,List.mem_map]at hr
 obtain⟨v,_,rfl⟩:=hr;have:=RT l s b v;omega
theorem OU (l:List A9)(p:List PR)(x:PR)(b v:Int):Ow l (p++[x]) b v=Ow l p b v++(if x.At<b∧x.Var=v then(l[x.At.toNat]?).toList else[]):=by
 unfold Ow;rw[List.filterMap_append]
 congr 1
 by_cases h:x.At<b∧x.Var=v
 ·simp only[List.filterMap_cons,List.filterMap_nil,if_pos h];cases l[x.At.toNat]? <;>rfl
 simp only[List.filterMap_cons,List.filterMap_nil,if_neg h]
theorem Nh {α R:Type} (f:α→PR) (l:List A9) (b:Int) {s:List α} (hs:s.length≤1000000) (hw:WfS l (s.map f)):
 G5 (R:=R) (fun rows x=>if cmp .lss (f x).At b=true then(B9 rows (f x).Var).bind fun x9=>(B9 l (f x).At).bind fun x14=>(M5 x9 [x14]).bind fun l15=>(Fb rows (f x).Var (fun _=>l15)).bind fun l13=>some (.inl l13)else some (.inl rows)) s (List.replicate 16 [])=
  some (.inl ((List.range 16).map fun(v:Nat)=>Ow l (s.map f) b (v:Int))):=by
 obtain⟨s',h1,p,h2,h3⟩:=Cw (R:=R) (step:=fun rows x=>if cmp .lss (f x).At b=true then(B9 rows (f x).Var).bind fun x9=>(B9 l (f x).At).bind fun x14=>(M5 x9 [x14]).bind fun l15=>(Fb rows (f x).Var (fun _=>l15)).bind fun l13=>some (.inl l13)else some (.inl rows))
  (fun r rows=>∃p,p++r=s∧rows=(List.range 16).map fun(v:Nat)=>Ow l (p.map f) b (v:Int)) (fun x r rows ⟨p,e1,e2⟩=>by
   subst e2
   have hx:x∈s:=by rw[←e1];simp
   obtain⟨⟨v0,v1⟩,a0,a1⟩:=hw (f x) (List.mem_map.2 ⟨x,hx,rfl⟩)
   have hpl:p.length≤1000000:=by have:=congrArg List.length e1;simp at this;omega
   by_cases hb:(f x).At<b
   ·rw[if_pos (by rw[C4];exact decide_eq_true hb)]
    generalize hv:(f x).Var=vv at *
    generalize ha:(f x).At=aa at *
    obtain⟨v,rfl⟩:=Int.eq_ofNat_of_zero_le v0;obtain⟨a,rfl⟩:=Int.eq_ofNat_of_zero_le a0
    have hva:v<16:=by omega
    have haa:a<l.length:=by omega
    have e1':B9 ((List.range 16).map fun(v:Nat)=>Ow l (p.map f) b (v:Int)) (v:Int)=some (Ow l (p.map f) b v):=by
     rw[E2];simp[hva]
    have e2':B9 l (a:Int)=some l[a]:=by rw[E2];simp[haa]
    have hpl':=RT l (p.map f) b v;simp only[e1',e2',Option.bind_some];rw[AV (by simp at hpl' ⊢;omega)];simp only[Option.bind_some];refine⟨_,by unfold Fb;rw[e1'];rfl,p++[x],by simpa using e1,?_⟩;apply List.ext_getElem?;intro j;rw[List.getElem?_set]
    by_cases hj:j<16
    ·simp only[List.getElem?_map,List.getElem?_range hj,List.map_append,List.map_cons,List.map_nil,OU,hv,ha,Int.toNat_natCast,List.length_map,List.length_range,Option.map_some]
     by_cases hjv:v=j
     ·subst hjv;simp[hb,hj,haa]
     have:¬((v:Int)=(j:Int)):=by omega
     simp[hjv,this]
    have:¬(v=j):=by omega
    simp[hj,this]
   rw[if_neg (by rw[C4];simpa using hb)];refine⟨_,rfl,p++[x],by simpa using e1,?_⟩;apply List.map_congr_left;intro v _
   rw[List.map_append,List.map_cons,List.map_nil,OU,if_neg (by omega),append_nil]) (l:=s) (s:=List.replicate 16 []) ⟨[],rfl,by simp[Ow];rfl⟩
 rw[h1]
 rw[append_nil]at h2
 rw[h3,h2]
theorem Kq {N:Nat} (hN:40000000≤N) {l:List A9} {s:List PR} (hs:s.length≤1000000) (hw:WfS l s) (b:Int):CW N l s b=some (Lw l s b):=by
 unfold CW;have h1:UB 16 16 ([]:List A9)=some (List.replicate 16 []):=rfl;rw[h1];simp only[Option.bind_some];rw[G4 s (by omega) (mk:=fun(rows:List (List A9)) i=>(i,rows)) (body:=fun rows x=>if cmp .lss x.At b=true then(B9 rows x.Var).bind fun x9=>(B9 l x.At).bind fun x14=>(M5 x9 [x14]).bind fun l15=>(Fb rows x.Var (fun _=>l15)).bind fun l13=>some (.inl l13)else some (.inl rows)) (fin:=fun s=>s) (s:=List.replicate 16 []) (by omega) ?_ ?_]
 ·have h:=Nh (R:=List (List A9)) (fun x:PR=>x) l b hs (by simpa using hw);rw[h];simp only[Option.bind_some,List.map_id'];rfl
 ·intro rows i x hx hi;have e:ar .add .i64 (i:Int) 1=i+1:=D2 (by omega) (by omega);have c1:cmp .lss (i:Int) (s.length:Int)=true:=W4 hi
  by_cases hb:x.At<b
  ·have c2:cmp .lss x.At b=true:=W4 hb;simp only[c1,c2,B5,if_true,E2,hx,Option.bind_some,e]
   cases B9 rows x.Var with
   |none=>rfl
   | some r=>
    simp only[Option.bind_some]
    cases B9 l x.At with
    |none=>rfl
    | some y=>
     simp only[Option.bind_some]
     cases M5 r [y]with
     |none=>rfl
     |some q=>
      simp only[Option.bind_some];cases Fb rows x.Var fun _=>q<;>rfl
  have c2:cmp .lss x.At b=false:=by simpa using Q6 hb
  simp only[c1,c2,B5,if_true,E2,hx,Option.bind_some,e,Bool.false_eq_true,if_false]
 intro s;simp[C4,B5]
theorem GT {l:List A9}{i:Nat}(h:i<l.length):B9 l (i:Int)=some l[i]:=by rw[E2];simp[h]
end
end Go.Ab
