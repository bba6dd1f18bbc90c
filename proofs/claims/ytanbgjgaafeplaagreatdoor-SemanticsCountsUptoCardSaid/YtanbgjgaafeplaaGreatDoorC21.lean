/- GTH1 GTH2 GTIn GTIn9 GTPr -/
import Derived.Test.YtanbgjgaafeplaaGreatDoorC20
import Derived.Test.YtanbgjgaafeplaaGreatDoorRows
import Derived.WalkKit
import Derived.ProofKit
import Derived.OpenShut
import Derived.Deep.DeepHandedRow
import Derived.Carry
import Derived.Test.YtanbgjgaafeplaaGreatDoorTie
set_option linter.all false
open Go.Ab.Ar (an ar beq cmp lst lst_eq nt)
namespace Go.Ab
open Classical
noncomputable section
theorem LR (a b:X5):an (cmp .eql a.Time b.Time) (an (cmp .eql a.Source b.Source) (an (cmp .eql a.Seq b.Seq) true))=decide (a=b):=by
 obtain⟨a1,a2,a3⟩:=a;obtain⟨b1,b2,b3⟩:=b;simp only[M8,B9,Bool.and_true];rw[Bool.eq_iff_iff];simp
theorem hasV {N:Nat} (hN:40000000≤N) {s:List A4} (hl:s.length≤1000000) {f:A4→Option Bool} {P:A4→Bool} (hf:∀x∈s,f x=some (P x)):I1 N s f=some (s.any P):=by
 unfold I1 N0
 exact NO P (by omega) (by omega) (fun i x hx hi=>by
  have e:ar .add .i64 (i:Int) 1=i+1:=C5 (by omega) (by omega);rw[if_pos (M7 hi),C6,hx];simp only[Option.bind_some,hf x (List.mem_of_getElem? hx),e]
  split<;>rfl) (by rw[if_neg P4]) rfl fun _=>rfl
theorem idxM {N:Nat} (hN:40000000≤N) {s:List C4} (hl:s.length≤1000000) {f:C4→Option Bool} {P:C4→Bool} (hf:∀x∈s,f x=some (P x)):
 ∃t,J3 N s f=some t∧((t= -1∧∀x∈s,P x=false)∨∃i:Nat,∃h:i<s.length,t=i∧P s[i]=true∧∀m (hm:m<i),P (s[m]'(by omega))=false):=by
 unfold J3;refine YD (fun(j:Nat) (i:Int)=>i=(j:Int)∧∀m (hm:m<s.length),m<j→P s[m]=false) s.length (by omega) ⟨rfl,fun m _ h=>absurd h (by omega)⟩ (fun j i hj ⟨e,hp⟩=>?_) (fun i ⟨e,hp⟩=>?_)
 ·subst e;rw[if_pos (M7 (by omega)),C6,List.getElem?_eq_getElem hj];simp only[Option.bind_some,hf _ (List.getElem_mem hj)]
  by_cases h:P s[j]=true
  ·rw[if_pos h];exact⟨_,rfl,_,rfl,.inr ⟨j,hj,rfl,h,fun m hm=>hp m (by omega) hm⟩⟩
  rw[if_neg h];refine⟨_,rfl,GC (by omega),fun m hm hmj=>?_⟩
  rcases Nat.lt_or_ge m j with k|k
  ·exact hp m hm k
  have:m=j:=by omega
  subst this
  rwa[Bool.not_eq_true]at h
 subst e;rw[if_neg P4];refine⟨_,rfl,_,rfl,.inl ⟨rfl,fun x hx=>?_⟩⟩;obtain⟨m,hm,e⟩:=List.getElem_of_mem hx;rw[←e];exact hp m hm hm
theorem Am6 {N:Nat} (hN:40000000≤N) {s:List C4} (hl:s.length≤1000000) {f:C4→Option Bool} {P:C4→Bool} (hf:∀x∈s,f x=some (P x)):J0 N s f=some (s.filter fun x=> !P x):=by
 unfold J0;obtain⟨t,h1,h2⟩:=idxM hN hl hf;rw[h1];simp only[Option.bind_some]
 rcases h2 with⟨rfl,h3⟩|⟨i0,hi0,rfl,h3,h4⟩
 ·rw[if_pos (by rw[B9];rfl),List.filter_eq_self.2 fun x hx=>by rw[h3 x hx];rfl]
 rw[if_neg (by rw[B9,decide_eq_true_eq];omega),GC (by omega)]
 have h0:(s.take (i0+1)).filter (fun x=> !P x)=s.take i0:=by
  rw[KE hi0,List.filter_append,List.filter_cons_of_neg (by simp[h3]),List.filter_nil,List.append_nil];refine List.filter_eq_self.2 fun x hx=>?_;obtain⟨m,hm,e⟩:=List.mem_take_iff_getElem.1 hx;rw[←e,h4 m (by omega)];rfl
 have key:∃t,(loopN
  (fun(s2:Int×Int×(List C4))=>
   (
    if cmp .lss s2.2.1 (Ar.len s2.2.2)=true then
     (Rk (SO s2.2.2 s2.2.1)).bind fun _=>
     (B6 s2.2.2 s2.2.1).bind fun x5=>
     (f x5).bind fun r6=>
     if nt r6=true then
      (Rk (SO s2.2.2 s2.1)).bind fun _=>
      (Gm s2.2.2 s2.1 (fun x7:C4=>x5)).bind fun l8=>
      some (.inl (ar .add .i64 s2.1 1,ar .add .i64 s2.2.1 1,l8))
     else
      some (.inl (s2.1,ar .add .i64 s2.2.1 1,s2.2.2))
    else
     some (.inr (s2.1,s2.2.2))
    :Option ((Int×Int×(List C4)) ⊕ ((Int×(List C4))))))
  N ((i0:Int),((i0+1:Nat):Int),s)).bind (fun s4=>
 (J5 s4.2 (some s4.1) none none).bind fun l11=>
 (J5 s4.2 none (some s4.1) none).bind fun l13=>
 some l13)=some t∧t=s.filter fun x=> !P x:=by
  refine YD (fun(k:Nat) (st:Int×Int×List C4)=>st.2.1=((i0+1+k:Nat):Int)∧∃i:Nat,st.1=(i:Int)∧i<i0+1+k∧st.2.2.length=s.length∧st.2.2.take i=(s.take (i0+1+k)).filter (fun x=> !P x)∧st.2.2.drop (i0+1+k)=s.drop (i0+1+k)) (s.length - (i0+1)) (by omega)
   ⟨rfl,i0,rfl,by omega,rfl,h0.symm,rfl⟩ (fun k st hk ⟨e,i,e1,e2,e3,e4,e5⟩=>?_) (fun st ⟨e,i,e1,e2,e3,e4,e5⟩=>?_)
  ·obtain⟨a,b,L⟩:=st
   dsimp only at e e1 e3 e4 e5
   subst e;subst e1
   have hj:i0+1+k<s.length:=by omega
   have hjL:i0+1+k<L.length:=by omega
   have hg:L[i0+1+k]=s[i0+1+k]:=by
    have:=congrArg (fun l=>l[0]?) e5
    simp only[List.getElem?_drop,Nat.add_zero,List.getElem?_eq_getElem hj,List.getElem?_eq_getElem hjL,Option.some.injEq]at this
    exact this
   dsimp only
   rw[if_pos (M7 (by omega)),Yd (by omega) (by omega),C6,List.getElem?_eq_getElem hjL,hg];simp only[Option.bind_some];rw[hf _ (List.getElem_mem hj)];simp only[Option.bind_some];have ht:s.take (i0+1+(k+1))=s.take (i0+1+k)++[s[i0+1+k]]:=KE hj
   have hd:L.drop (i0+1+(k+1))=s.drop (i0+1+(k+1)):=by
    have:=congrArg (List.drop 1) e5
    rw[List.drop_drop,List.drop_drop]at this
    exact this
   cases hP:P s[i0+1+k]with
   |true=>
    rw[if_neg (by decide)];refine⟨_,rfl,GC (by omega),i,rfl,by omega,e3,?_,hd⟩;rw[ht,List.filter_append,List.filter_cons_of_neg (by simp[hP]),List.filter_nil,List.append_nil];exact e4
   | false=>
    rw[if_pos (show nt false=true from rfl),Yd (by omega) (by omega)];simp only[Option.bind_some];unfold Gm;rw[C6,List.getElem?_eq_getElem (show i<L.length by omega)];refine⟨_,rfl,GC (by omega),i+1,GC (by omega),by omega,by simpa using e3,?_,?_⟩
    ·dsimp only
     rw[Int.toNat_natCast,ht,List.filter_append,List.filter_cons_of_pos (by simp[hP]),List.filter_nil,←e4,KE (show i<(L.set i s[i0+1+k]).length by rw[List.length_set];omega)];rw[List.getElem_set_self]
     congr 1
     rw[List.take_set_of_le (Nat.le_refl _)]
    dsimp only
    rw[Int.toNat_natCast,List.drop_set_of_lt (by omega)];exact hd
  obtain⟨a,b,L⟩:=st
  dsimp only at e e1 e3 e4 e5
  subst e;subst e1
  have hn:i0+1+(s.length - (i0+1))=s.length:=by omega
  rw[hn]at e4 e2 ⊢
  dsimp only
  rw[if_neg (X0 (by rw[B1];omega))];refine⟨_,rfl,_,?_,rfl⟩
  dsimp only
  rw[Nt (by omega),Mo (by omega),e4,List.take_length];rfl
 obtain⟨t,k1,k2⟩:=key;rw[k1,k2]
def Sp (e:X5)(m:C4):Bool:=match m.cT.getLast? with|some b=>decide (b.Ref=e)|none=>false
theorem end2 {N:Nat} {m:C4} (h:m.cT≠[]) (hl:m.cT.length≤1000000) (e:X5):Q8 N m e=some (!Sp e m):=by
 unfold Q8 Sp;rw[EF h hl]
 cases hb:m.cT.getLast? with
 |none=>exact absurd (List.getLast?_eq_none_iff.1 hb) h
 |some b=>
  simp only[Option.bind_some];rw[LR b.Ref e];rfl
theorem WV {N:Nat} (hN:40000000≤N) {p:A0} {l:List A4} (hl:l.length≤10) {r:List C4} (hm:N2 N p l=some (r,0)) (hr:r.length≤1500) (hb:∀x∈r,x.cT.length≤10∧x.cT≠[]) (e:X5):
 W1 N p l e=some (if(l.any fun x=>decide ((⟨x.Time,x.Source,x.Seq⟩:X5)=e))=true then(r.filter (Sp e),0)else([],6)):=by
 unfold W1;rw[show U1 N p l=some (r,0)from hm];simp only[Option.bind_some]
 rw[if_neg (J1 rfl),hasV hN (by omega) (P:=fun x=>decide ((⟨x.Time,x.Source,x.Seq⟩:X5)=e)) (fun x _=>by
  unfold W6 AK;simp only[Option.bind_some]
  rw[LR ⟨x.Time,x.Source,x.Seq⟩ e])]
 simp only[Option.bind_some]
 by_cases h:(l.any fun x=>decide ((⟨x.Time,x.Source,x.Seq⟩:X5)=e))=true
 ·rw[if_pos h,h,if_neg (by decide),Am6 hN (by omega) (P:=fun m=> !Sp e m) fun x hx=>end2 (hb x hx).2 (by have:=(hb x hx).1;omega) e];simp only[Option.bind_some,Bool.not_not]
 rw[if_neg h]
 rw[Bool.not_eq_true]at h
 rw[h,if_pos (show nt false=true from rfl)]
end
end Go.Ab
namespace Go.Ab
open Classical
noncomputable section
theorem Sh {α:Type}(Q:α→Bool):∀(L:List α) (b:Bool),L.foldl (fun s x=>s||Q x) b=(b||L.any Q)
 |[],b=>by simp
 |x::L,b=>by rw[List.foldl_cons,Sh Q L,List.any_cons,Bool.or_assoc]
theorem Tz {N:Nat} (hN:40000000≤N) {p:A0} {l:List A4} (hl:l.length≤10) {r:List C4} (hc:Be N p l=some 0) (hm:Bt N p l=some r) (hr:r.length≤1500) (hb:∀x∈r,x.cT.length≤10∧x.cT≠[]) (e:X5):
 Bs N p l e=some (if(l.any fun x=>decide ((⟨x.Time,x.Source,x.Seq⟩:X5)=e))=true then(r.filter (Sp e),0)else([],6)):=by
 unfold Bs;rw[hc];simp only[Option.bind_some];rw[if_neg (J1 rfl)]
 rw[(CZ (L:=l) (N:=N) (fun(s:Bool) i=>(s,i)) (fun s x=>s||decide ((⟨x.Time,x.Source,x.Seq⟩:X5)=e)) (fun s=>s) (fun _ _=>True) (s0:=false) (by omega) (by omega) trivial (fun s i x hx hi hm e1 _=>by
  refine⟨?_,trivial⟩
  dsimp only
  rw[if_pos (M7 hi)]
  cases s with
  |true=>rw[if_pos rfl,e1];rfl
  |false=>
   rw[if_neg (by decide),C6,hx];simp only[Option.bind_some,Bu]
   rw[LR ⟨x.Time,x.Source,x.Seq⟩ e,e1,Bool.false_or]) (fun s=>by dsimp only;rw[if_neg P4])).1,Sh,Bool.false_or]
 simp only[Option.bind_some]
 by_cases h:(l.any fun x=>decide ((⟨x.Time,x.Source,x.Seq⟩:X5)=e))=true
 ·rw[if_pos h,h,if_neg (by decide),hm];simp only[Option.bind_some]
  rw[WD (L:=r) (Sp e) (by omega) (by omega) (fun s i x hx hmx hi e1 hsl=>by
   have hbx:=hb x hmx
   dsimp only
   rw[if_pos (M7 hi),C6,hx];simp only[Option.bind_some];rw[EF hbx.2 (by omega)];unfold Sp
   cases hg:x.cT.getLast? with
   |none=>exact absurd (List.getLast?_eq_none_iff.1 hg) hbx.2
   |some b=>
    simp only[Option.bind_some];rw[LR b.Ref e]
    by_cases hbe:b.Ref=e
    ·rw[if_pos (decide_eq_true hbe),if_pos (decide_eq_true hbe),M2 (by simp;omega),e1];rfl
    rw[if_neg (by simpa using hbe),if_neg (by simpa using hbe),e1]) (fun s=>by dsimp only;rw[if_neg P4])]
  rfl
 rw[if_neg h]
 rw[Bool.not_eq_true]at h
 rw[h,if_pos (show nt false=true from rfl)]
theorem Uj {N:Nat} (hN:40000000≤N) (awake:Bk N=some true) {p:A0} (hb:p.bulk≤1048576) {l:List A4} (hl:l.length≤1048576) (last:X5):X3 N p l last=some true:=by
 unfold X3;obtain⟨b,h1,h2⟩:=XO hN (p:=p) (by omega) (l:=l) (by omega);rw[h1];simp only[Option.bind_some]
 cases b with
 |false=>rw[if_pos (show nt false=true from rfl),awake];rfl
 |true=>
 rw[if_neg (show¬nt true=true by decide)];obtain⟨hl10,hs⟩:=h2 rfl;obtain⟨r,e,k1,k2,k3,k4,k5,k6,k7⟩:=Af0 hN (show p.bulk≤16777216 by omega) hl10 hs;unfold Az Ay;rw[k2,k1];simp only[Option.bind_some]
 by_cases he:e=0
 ·subst he;obtain⟨_,_,_,L,_,m2,m3⟩:=k5 rfl
  have hbn:∀x∈r,x.cT.length≤10∧x.cT≠[]:=fun x hx=>⟨k3 x hx,fun e=>by
   obtain⟨s,hs,rfl⟩:=List.mem_map.1 (m3.mem_iff.1 hx)
   exact((m2 s).1 hs).inl.1 (List.map_eq_nil_iff.1 e)⟩
  have hall:Bt N p l=some r:=by
   unfold AI at k2
   rw[k7]at k2
   simp only[Option.bind_some]at k2
   rw[if_neg (J1 rfl)]at k2
   cases hr:Bt N p l with
   |none=>rw[hr]at k2;cases k2
   |some q=>
    rw[hr]at k2
    simp only[Option.bind_some,Option.some.injEq,Prod.mk.injEq,and_true]at k2
    rw[k2]
  rw[WV hN hl10 k1 k4 hbn last,Tz hN hl10 k7 hall k4 hbn last];simp only[Option.bind_some];generalize hE:(if(l.any fun x=>decide ((⟨x.Time,x.Source,x.Seq⟩:X5)=last))=true then(r.filter (Sp last),(0:Int))else([],6))=E
  have hE1:E.1.length≤1500∧∀x∈E.1,x.cT.length≤10:=by
   rw[←hE]
   split
   ·exact⟨Nat.le_trans (List.length_filter_le _ _) k4,fun x hx=>k3 x (List.mem_filter.1 hx).1⟩
   exact⟨by simp,fun x hx=>absurd hx List.not_mem_nil⟩
  rw[Oi hN (by omega) fun x hx=>by have:=hE1.2 x hx;omega]
  cases hr:r with
  |nil=>
   rw[if_pos (show Ar.or (cmp .neq (0:Int) 0) (cmp .eql (Ar.len ([]:List C4)) 0)=true from rfl)];simp only[Option.bind_some];rw[if_neg (show¬Ar.or (Ar.or (Ar.or (cmp .neq (0:Int) 0) (cmp .neq (0:Int) 0)) (cmp .neq (Ar.len ([]:List C4)) (Ar.len ([]:List C4)))) (nt (beq false (cmp .gtr (Ar.len ([]:List C4)) 0)))=true by simp[G7,M6,E5,N8,B1,beq])];rw[if_neg (show¬Ar.or (nt true) (cmp .neq E.2 E.2)=true by simp[G7,M6,E5])];rw[if_pos (show nt false=true from rfl),if_pos (show cmp .eql (Ar.len ([]:List D6)) 0=true from rfl),awake];rfl
  |cons a q=>
   have hlen:(Ar.len (a::q):Int)=((q.length+1:Nat):Int):=by rw[B1];rfl
   rw[if_neg (show¬Ar.or (cmp .neq (0:Int) 0) (cmp .eql (Ar.len (a::q)) 0)=true by rw[hlen];simp[G7,E5,B9]<;>omega)];rw[show B6 (a::q) 0=some a from rfl];simp only[Option.bind_some];rw[if_neg (show¬Ar.or (Ar.or (Ar.or (cmp .neq (0:Int) 0) (cmp .neq (0:Int) 0)) (cmp .neq (Ar.len (a::q)) (Ar.len (a::q)))) (nt (beq true (cmp .gtr (Ar.len (a::q)) 0)))=true by rw[hlen];simp[G7,M6,E5,N8,beq]<;>omega)];rw[if_neg (show¬Ar.or (nt true) (cmp .neq E.2 E.2)=true by simp[G7,M6,E5])];have ha:=k3 a (by rw[hr];simp);rw[if_neg (show¬nt true=true by decide),LS hN (by omega) (by omega)];simp only[Option.bind_some];rw[if_pos (show cmp .eql (mO a.cT a.cT) 0=true by rw[PM];rfl),awake];rfl
 have hr:=k6 he;subst hr;unfold W1 Bs;rw[show U1 N p l=some ([],e)from k1,k7];simp only[Option.bind_some];rw[if_pos (J9 he),if_pos (J9 he),if_pos (show Ar.or (cmp .neq e 0) (cmp .eql (Ar.len ([]:List C4)) 0)=true by simp[G7,B9,B1])];simp only[Option.bind_some];rw[if_neg (show¬Ar.or (Ar.or (Ar.or (cmp .neq e e) (cmp .neq e e)) (cmp .neq (Ar.len ([]:List C4)) (Ar.len ([]:List C4)))) (nt (beq false (cmp .gtr (Ar.len ([]:List C4)) 0)))=true by simp[G7,M6,E5,N8,B1,beq])];rw[Oi hN (by simp) (by simp)];simp only[Option.bind_some];rw[if_neg (show¬Ar.or (nt true) (cmp .neq e e)=true by simp[G7,M6,E5])];rw[if_pos (show nt false=true from rfl),if_pos (show cmp .eql (Ar.len ([]:List D6)) 0=true from rfl),awake];rfl
end
end Go.Ab
namespace Go.Ab
open Go.RowKit Go.ChangeShapes Go.WideShapes Go.ChangeAt Go.Proofs Go.Proofs.YtanbgjgaafeplaaGreatDoor
set_option maxRecDepth 100000
mutual
def Zl :B0→V
 |⟨op,args,var,field,kind,val⟩=>.agg [.int .i64 op,.sl (Ss args) .ro,.int .i64 var,.int .i64 field,.int .i64 kind,.int .i64 val.Kind,.int .i64 val.Num,.str val.Text]
def Ss :List B0→List V
 |[]=>[]
 |a::r=>Zl a::Ss r
end
theorem OM :∀l:List B0,Ss l=l.map Zl
 |[]=>by simp[Ss]
 |a::r=>by simp[Ss,OM r]
mutual
def Ae6 :A0→V
 |⟨op,args,typ,var,scope,span,c⟩=>.agg [.int .i64 op,.sl (Sr args) .ro,.int .i64 typ,.int .i64 var,.int .i64 scope,.int .i64 span,.int .i64 c.Op,.sl (c.cR.map Zl) .ro,.int .i64 c.Var,.int .i64 c.Field,.int .i64 c.Kind,.int .i64 c.Value.Kind,.int .i64 c.Value.Num,.str c.Value.Text]
def Sr :List A0→List V
 |[]=>[]
 |a::r=>Ae6 a::Sr r
end
theorem OJ :∀l:List A0,Sr l=l.map Ae6
 |[]=>by simp[Sr]
 |a::r=>by simp[Sr,OJ r]
noncomputable def OK (x:A6):V:=.agg [.int .i64 x.Kind,.int .i64 x.Num,.str x.Text]
noncomputable def OL (x:A4):V:=.agg [.int .i64 x.Source,.int .i64 x.Seq,.int .i64 x.Typ,.int .i64 x.Time,.sl (lst OK x.Values) .ro]
noncomputable def Lu (x:D6):V:=.agg [.int .i64 x.Var,.int .i64 x.Ref.Time,.int .i64 x.Ref.Source,.int .i64 x.Ref.Seq]
noncomputable def WW (x:C4):V:=.agg [.sl (lst Lu x.cT) .ro]
noncomputable def WX (x:Qs):V:=.agg [.int .i64 x.cV,.int .i64 x.Span]
noncomputable def DN (x:A1):V:=.agg [.int .i64 x.cX,.int .i64 x.at_]
noncomputable def CH (x:A2):V:=.agg [.int .i64 x.Var,.int .i64 x.At]
noncomputable def Kk (x:J8):V:=.agg [.int .i64 x.cY,.int .i64 x.most,.bool x.cU,.bool x.cond,.bool x.scope,.bool x.span]
noncomputable def Iz (x:D4):V:=.agg [.int .i64 x.source,.int .i64 x.seq]
noncomputable def Ug (x:List A4):V:=.sl (lst OL x) .ro
noncomputable def DD (x:List A1):V:=.sl (lst DN x) .ro
noncomputable def Hb (x:List (List A1)):V:=.sl (lst DD x) .ro
noncomputable def Gf (x:List A2):V:=.sl (lst CH x) .ro
noncomputable instance encsInst :J2 where
 eAu4:=OK
 eAu1:=fun _=>rfl
 eAu9:=Zl
 eAv0:=fun⟨_,_,_,_,_,_⟩=>by simp only[Zl,OM];rfl
 eAu0:=Ae6
 eAt9:=fun⟨_,_,_,_,_,_,_⟩=>by simp only[Ae6,OJ];rfl
 eAt5:=OL
 eAu2:=fun _=>rfl
 eAu6:=Lu
 eAv2:=fun _=>rfl
 eAt7:=WW
 eAu7:=fun _=>rfl
 eAw1:=WX
 eAw3:=fun _=>rfl
 eAt4:=DN
 eAv1:=fun _=>rfl
 eAt6:=CH
 eAu5:=fun _=>rfl
 eAw0:=Kk
 eAw2:=fun _=>rfl
 eAv6:=Iz
 eAv7:=fun _=>rfl
 eAv5:=Ug
 eAv8:=fun _=>rfl
 eAv4:=Hb
 eAv9:=fun _=>rfl
 eAu3:=DD
 eAv3:=fun _=>rfl
 eAt8:=Gf
 eAu8:=fun _=>rfl
def NN {α:Type}(f:α→Nat):List α→Nat
 |[]=>1
 |a::l=>f a+NN f l
theorem UZ {α:Type}{f:α→Nat}(hf:∀a,1≤f a):∀l:List α,l.length+1≤NN f l
 |[]=>by simp[NN]
 |b::l=>by have:=hf b;have:=UZ hf l;simp only[NN,List.length_cons];omega
section
variable [I9]{H:Type}{enc:TypeId×Value→H}{W:World}{base:Nat}{spare:Nat→Bool}{held:Bool}
abbrev bk (d:DataW H):Nat:=Rows.uptoBulk d
noncomputable def NR (P:Program)(t:TypeId):Array Field:=match P.underlying t with|some (.struct fs)=>fs|_=> #[]
theorem G8 {P:Program} {t ty off sz:Nat} {xs:List (DataW H×List MemPlace)} {cs:List Value} {n:Nat} (hl:xs.length=(NR P t).size)
 (hf:∀(i:Nat) (f:Field),(NR P t)[i]? =some f→DataW.trod enc P W base spare held n f.type ((cs.drop f.offset).take (P.cellsOf f.type))=xs[i]?) (i:Nat)
 (h:((NR P t)[i]?.map fun f=>(f.type,f.offset,P.cellsOf f.type))=some (ty,off,sz)):∃y,xs[i]? =some y∧DataW.trod enc P W base spare held n ty ((cs.drop off).take sz)=some y:=by
 cases hi:(NR P t)[i]? with
 |none=>rw[hi]at h;cases h
 |some f=>
  rw[hi]at h
  simp only[Option.map_some,Option.some.injEq,Prod.mk.injEq]at h
  obtain⟨rfl,rfl,rfl⟩:=h;exact Ub hl hf i hi
theorem Opens.down {α:Type}{P:Program}{t:TypeId}{f:α→V}{R:α→DataW H→Prop}{n:Nat}(h:Opens enc P W base spare held t f R (n+1)):Opens enc P W base spare held t f R n:=fun cs x hx=>h cs x (DataW.trod_le (Nat.le_succ n) hx)
theorem Opens.imp {α:Type}{P:Program}{t:TypeId}{f:α→V}{R R':α→DataW H→Prop}{n:Nat}(h:Opens enc P W base spare held t f R n)(hi:∀a d,R a d→R' a d):Opens enc P W base spare held t f R' n:=fun cs x hx=>by
 obtain⟨a,r,q⟩:=h cs x hx;exact⟨a,r,hi _ _ q⟩
theorem Opens.congr {α:Type}{P:Program}{t:TypeId}{f g:α→V}{R:α→DataW H→Prop}{n:Nat}(h:Opens enc P W base spare held t f R n)(hg:∀x,f x=g x):Opens enc P W base spare held t g R n:=fun cs x hx=>by
 obtain⟨a,r,q⟩:=h cs x hx;exact⟨a,by rw[←hg];exact r,q⟩
theorem Ah2 {α:Type} {f:α→Nat}:∀(l:List α) (ds:List (DataW H)),RL (fun a d=>f a≤bk d) l ds→NN f l≤Rows.uptoBulkAll ds+1
 |[],ds,h=>by simp[NN]
 |a::l,[],h=>by have:=h.1;simp at this
 |a::l,d::ds,h=>by
  have h1:f a≤bk d:=h.2 0 a d rfl rfl;have h2:=Ah2 l ds ⟨by simpa using h.1,fun i a d hi hd=>h.2 (i+1) a d (by simpa using hi) (by simpa using hd)⟩;simp only[NN,Rows.uptoBulkAll];have h3:bk d=Rows.uptoBulk d:=rfl;omega
theorem UK {α:Type}{f:α→Nat}{l:List α}{d:DataW H}(h:RS (fun a d=>f a≤bk d) l d):NN f l≤bk d:=by
 obtain⟨_,h⟩:=h
 rcases h with⟨rfl,rfl⟩|⟨es,sp,rfl,h⟩
 ·simp[bk,Rows.uptoBulk,NN]
 have:=Ah2 l es h;simp only[bk,Rows.uptoBulk];omega
theorem SA :∀l:List B0,B0.bulks l=NN B0.bulk l
 |[]=>by simp[B0.bulks,NN]
 |a::l=>by simp[B0.bulks,NN,SA l]
theorem Zp {l:List B0}{d:DataW H}(h:RS (fun a d=>B0.bulk a≤bk d) l d):B0.bulks l≤bk d:=by rw[SA];exact UK h
theorem OU :∀l:List A0,A0.bulks l=NN A0.bulk l
 |[]=>by simp[A0.bulks,NN]
 |a::l=>by simp[A0.bulks,NN,OU l]
theorem SB {l:List A0}{d:DataW H}(h:RS (fun a d=>A0.bulk a≤bk d) l d):A0.bulks l≤bk d:=by rw[OU];exact UK h
theorem YI {β:Type}{xs:List β}{a b c:β}(hl:xs.length=3)(h0:xs[0]? =some a)(h1:xs[1]? =some b)(h2:xs[2]? =some c):xs=[a,b,c]:=by
 match xs,hl with
 |[x0,x1,x2],_=>simp at h0 h1 h2;rw[h0,h1,h2]
theorem Am1 {β:Type}{xs:List β}{a b c d e:β}(hl:xs.length=5)(h0:xs[0]? =some a)(h1:xs[1]? =some b)(h2:xs[2]? =some c)(h3:xs[3]? =some d)(h4:xs[4]? =some e):xs=[a,b,c,d,e]:=by
 match xs,hl with
 |[x0,x1,x2,x3,x4],_=>simp at h0 h1 h2 h3 h4;rw[h0,h1,h2,h3,h4]
theorem Am0 {β:Type}{xs:List β}{a b c d e f:β}(hl:xs.length=6)(h0:xs[0]? =some a)(h1:xs[1]? =some b)(h2:xs[2]? =some c)(h3:xs[3]? =some d)(h4:xs[4]? =some e)(h5:xs[5]? =some f):xs=[a,b,c,d,e,f]:=by
 match xs,hl with
 |[x0,x1,x2,x3,x4,x5],_=>simp at h0 h1 h2 h3 h4 h5;rw[h0,h1,h2,h3,h4,h5]
theorem Al9 {β:Type}{xs:List β}{a b c d e f g:β}(hl:xs.length=7)(h0:xs[0]? =some a)(h1:xs[1]? =some b)(h2:xs[2]? =some c)(h3:xs[3]? =some d)(h4:xs[4]? =some e)(h5:xs[5]? =some f)(h6:xs[6]? =some g):xs=[a,b,c,d,e,f,g]:=by
 match xs,hl with
 |[x0,x1,x2,x3,x4,x5,x6],_=>simp at h0 h1 h2 h3 h4 h5 h6;rw[h0,h1,h2,h3,h4,h5,h6]
theorem u27 :Tryz.prog.underlying 27=some (.struct (NR Tryz.prog 27)):=by kernel_rfl
theorem u23 :Tryz.prog.underlying 23=some (.slice 27):=by kernel_rfl
theorem u3 :Tryz.prog.underlying 3=some (.int .i64):=by kernel_rfl
theorem AN (n:Nat):Opens enc Tryz.prog W base spare held 3 (V.int .i64) (fun a d=>(fun _:Int=>1) a≤bk d) n:=(KO u3).imp fun a d h=>by subst h;simp[bk,Rows.uptoBulk]
theorem u25 :Tryz.prog.underlying 25=some (.struct (NR Tryz.prog 25)):=by kernel_rfl
theorem u9 :Tryz.prog.underlying 9=some .string:=by kernel_rfl
theorem Ak9 (n:Nat):Opens enc Tryz.prog W base spare held 9 V.str (fun a d=>(fun s:ByteArray=>s.size+1) a≤bk d) n:=(Ws u9).imp fun a d h=>by obtain⟨rfl,_⟩:=h;simp[bk,Rows.uptoBulk]
def A6.mu (x:A6):Nat:=(fun _:Int=>1) x.Kind+(fun _:Int=>1) x.Num+(fun s:ByteArray=>s.size+1) x.Text+1
theorem UR (n:Nat):Opens enc Tryz.prog W base spare held 25 J2.eAu4 (fun(a:A6) d=>A6.mu a≤bk d) n:=by
 intro cs x h;obtain⟨xs,m,hm,rfl,hcl,hl,hf⟩:=DataW.trod_struct u25 h;subst hm;obtain⟨y0,k0,t0⟩:=G8 hl hf 0 (ty:=3) (off:=0) (sz:=1) (by kernel_rfl);obtain⟨y1,k1,t1⟩:=G8 hl hf 1 (ty:=3) (off:=1) (sz:=1) (by kernel_rfl);obtain⟨y2,k2,t2⟩:=G8 hl hf 2 (ty:=9) (off:=2) (sz:=1) (by kernel_rfl);have hxs:=YI (hl.trans (by kernel_rfl)) k0 k1 k2;obtain⟨a0,r0,q0⟩:=AN _ _ _ t0;obtain⟨a1,r1,q1⟩:=AN _ _ _ t1;obtain⟨a2,r2,q2⟩:=Ak9 _ _ _ t2;refine⟨⟨a0,a1,a2⟩,?_,?_⟩
 ·have hc3:cs.length=3:=hcl.trans (by kernel_rfl);have:=(r0.join r1).join r2;rw[J2.eAu1]
  simp only[lst_eq]at this ⊢
  simpa[List.take_of_length_le,hc3,V.cells]using this
 simp only[bk]at q0 q1 q2
 rw[hxs];simp only[List.map_cons,List.map_nil,bk,Rows.uptoBulk,Rows.uptoBulkAll,A6.mu];omega
theorem Ac1 :∀n:Nat,Opens enc Tryz.prog W base spare held 27 J2.eAu9 (fun(a:B0) d=>B0.bulk a≤bk d) n:=by
 intro n
 induction n with
 |zero=>intro cs x h;simp[DataW.trod]at h
 |succ n ih=>
 intro cs x h;obtain⟨xs,m,hm,rfl,hcl,hl,hf⟩:=DataW.trod_struct u27 h;cases hm;obtain⟨y0,k0,t0⟩:=G8 hl hf 0 (ty:=3) (off:=0) (sz:=1) (by kernel_rfl);obtain⟨y1,k1,t1⟩:=G8 hl hf 1 (ty:=23) (off:=1) (sz:=1) (by kernel_rfl);obtain⟨y2,k2,t2⟩:=G8 hl hf 2 (ty:=3) (off:=2) (sz:=1) (by kernel_rfl);obtain⟨y3,k3,t3⟩:=G8 hl hf 3 (ty:=3) (off:=3) (sz:=1) (by kernel_rfl);obtain⟨y4,k4,t4⟩:=G8 hl hf 4 (ty:=3) (off:=4) (sz:=1) (by kernel_rfl);obtain⟨y5,k5,t5⟩:=G8 hl hf 5 (ty:=25) (off:=5) (sz:=3) (by kernel_rfl);have hxs:=Am0 (hl.trans (by kernel_rfl)) k0 k1 k2 k3 k4 k5;obtain⟨a0,r0,q0⟩:=AN _ _ _ t0
 obtain⟨a1,r1,q1⟩:∃a:List B0,DG (g0 W) W ((cs.drop 1).take 1) (V.sl (a.map J2.eAu9) .ro).cells∧B0.bulks a≤bk y1.1:=by
  cases n with
  |zero=>simp[DataW.trod]at t1
  |succ n=>
   obtain⟨a,r,q⟩:=Fe u23 (show 0<Tryz.prog.cellsOf 27 by rw[show Tryz.prog.cellsOf 27=8 by kernel_rfl];decide) ih.down _ _ t1;exact⟨a,r,Zp q⟩
 obtain⟨a2,r2,q2⟩:=AN _ _ _ t2;obtain⟨a3,r3,q3⟩:=AN _ _ _ t3;obtain⟨a4,r4,q4⟩:=AN _ _ _ t4;obtain⟨a5,r5,q5⟩:=UR _ _ _ t5;refine⟨⟨a0,a1,a2,a3,a4,a5⟩,?_,?_⟩
 ·have hc3:cs.length=8:=hcl.trans (by kernel_rfl)
  rw[J2.eAu1]at r5
  have:=((((r0.join r1).join r2).join r3).join r4).join r5;rw[J2.eAv0]
  simp only[lst_eq]at this ⊢
  simpa[List.take_of_length_le,hc3,V.cells]using this
 simp only[bk]at q0 q1 q2 q3 q4 q5
 rw[hxs]
 simp only[List.map_cons,List.map_nil,bk,Rows.uptoBulk,Rows.uptoBulkAll,B0.bulk,A6.mu]at *
 omega
theorem u29 :Tryz.prog.underlying 29=some (.struct (NR Tryz.prog 29)):=by kernel_rfl
theorem u22 :Tryz.prog.underlying 22=some (.slice 29):=by kernel_rfl
theorem Ac0 :∀n:Nat,Opens enc Tryz.prog W base spare held 29 J2.eAu0 (fun(a:A0) d=>A0.bulk a≤bk d) n:=by
 intro n
 induction n with
 |zero=>intro cs x h;simp[DataW.trod]at h
 |succ n ih=>
 intro cs x h;obtain⟨xs,m,hm,rfl,hcl,hl,hf⟩:=DataW.trod_struct u29 h;cases hm;obtain⟨y0,k0,t0⟩:=G8 hl hf 0 (ty:=3) (off:=0) (sz:=1) (by kernel_rfl);obtain⟨y1,k1,t1⟩:=G8 hl hf 1 (ty:=22) (off:=1) (sz:=1) (by kernel_rfl);obtain⟨y2,k2,t2⟩:=G8 hl hf 2 (ty:=3) (off:=2) (sz:=1) (by kernel_rfl);obtain⟨y3,k3,t3⟩:=G8 hl hf 3 (ty:=3) (off:=3) (sz:=1) (by kernel_rfl);obtain⟨y4,k4,t4⟩:=G8 hl hf 4 (ty:=3) (off:=4) (sz:=1) (by kernel_rfl);obtain⟨y5,k5,t5⟩:=G8 hl hf 5 (ty:=3) (off:=5) (sz:=1) (by kernel_rfl);obtain⟨y6,k6,t6⟩:=G8 hl hf 6 (ty:=27) (off:=6) (sz:=8) (by kernel_rfl);have hxs:=Al9 (hl.trans (by kernel_rfl)) k0 k1 k2 k3 k4 k5 k6;obtain⟨a0,r0,q0⟩:=AN _ _ _ t0
 obtain⟨a1,r1,q1⟩:∃a:List A0,DG (g0 W) W ((cs.drop 1).take 1) (V.sl (a.map J2.eAu0) .ro).cells∧A0.bulks a≤bk y1.1:=by
  cases n with
  |zero=>simp[DataW.trod]at t1
  |succ n=>
   obtain⟨a,r,q⟩:=Fe u22 (show 0<Tryz.prog.cellsOf 29 by rw[show Tryz.prog.cellsOf 29=14 by kernel_rfl];decide) ih.down _ _ t1;exact⟨a,r,SB q⟩
 obtain⟨a2,r2,q2⟩:=AN _ _ _ t2;obtain⟨a3,r3,q3⟩:=AN _ _ _ t3;obtain⟨a4,r4,q4⟩:=AN _ _ _ t4;obtain⟨a5,r5,q5⟩:=AN _ _ _ t5;obtain⟨a6,r6,q6⟩:=Ac1 _ _ _ t6;refine⟨⟨a0,a1,a2,a3,a4,a5,a6⟩,?_,?_⟩
 ·have hc3:cs.length=14:=hcl.trans (by kernel_rfl)
  rw[J2.eAv0]at r6
  have:=(((((r0.join r1).join r2).join r3).join r4).join r5).join r6;rw[J2.eAt9]
  simp only[lst_eq]at this ⊢
  simpa[List.take_of_length_le,hc3,V.cells]using this
 simp only[bk]at q0 q1 q2 q3 q4 q5 q6
 rw[hxs]
 simp only[List.map_cons,List.map_nil,bk,Rows.uptoBulk,Rows.uptoBulkAll,A0.bulk,A6.mu]at *
 omega
theorem u62 :Tryz.prog.underlying 62=some (.struct (NR Tryz.prog 62)):=by kernel_rfl
theorem u60 :Tryz.prog.underlying 60=some (.slice 25):=by kernel_rfl
theorem Ab7 (n:Nat):Opens enc Tryz.prog W base spare held 60 (fun l:List A6=>.sl (lst J2.eAu4 l) .ro) (fun a d=>(NN A6.mu) a≤bk d) n:=
 Opens.down (((Fe u60 (show 0<Tryz.prog.cellsOf 25 by rw[show Tryz.prog.cellsOf 25=3 by kernel_rfl];decide) (UR n)).imp fun a d h=>UK h).congr fun x=>by rw[lst_eq])
def A4.mu (x:A4):Nat:=(fun _:Int=>1) x.Source+(fun _:Int=>1) x.Seq+(fun _:Int=>1) x.Typ+(fun _:Int=>1) x.Time+(NN A6.mu) x.Values+1
theorem Ab6 (n:Nat):Opens enc Tryz.prog W base spare held 62 J2.eAt5 (fun(a:A4) d=>A4.mu a≤bk d) n:=by
 intro cs x h;obtain⟨xs,m,hm,rfl,hcl,hl,hf⟩:=DataW.trod_struct u62 h;subst hm;obtain⟨y0,k0,t0⟩:=G8 hl hf 0 (ty:=3) (off:=0) (sz:=1) (by kernel_rfl);obtain⟨y1,k1,t1⟩:=G8 hl hf 1 (ty:=3) (off:=1) (sz:=1) (by kernel_rfl);obtain⟨y2,k2,t2⟩:=G8 hl hf 2 (ty:=3) (off:=2) (sz:=1) (by kernel_rfl);obtain⟨y3,k3,t3⟩:=G8 hl hf 3 (ty:=3) (off:=3) (sz:=1) (by kernel_rfl);obtain⟨y4,k4,t4⟩:=G8 hl hf 4 (ty:=60) (off:=4) (sz:=1) (by kernel_rfl);have hxs:=Am1 (hl.trans (by kernel_rfl)) k0 k1 k2 k3 k4;obtain⟨a0,r0,q0⟩:=AN _ _ _ t0;obtain⟨a1,r1,q1⟩:=AN _ _ _ t1;obtain⟨a2,r2,q2⟩:=AN _ _ _ t2;obtain⟨a3,r3,q3⟩:=AN _ _ _ t3;obtain⟨a4,r4,q4⟩:=Ab7 _ _ _ t4;refine⟨⟨a0,a1,a2,a3,a4⟩,?_,?_⟩
 ·have hc3:cs.length=5:=hcl.trans (by kernel_rfl);have:=(((r0.join r1).join r2).join r3).join r4;rw[J2.eAu2]
  simp only[lst_eq]at this ⊢
  simpa[List.take_of_length_le,hc3,V.cells]using this
 simp only[bk]at q0 q1 q2 q3 q4
 rw[hxs];simp only[List.map_cons,List.map_nil,bk,Rows.uptoBulk,Rows.uptoBulkAll,A4.mu];omega
theorem u30 :Tryz.prog.underlying 30=some (.slice 62):=by kernel_rfl
theorem Ab9 (n:Nat):Opens enc Tryz.prog W base spare held 30 (fun l:List A4=>.sl (lst J2.eAt5 l) .ro) (fun a d=>(NN A4.mu) a≤bk d) n:=
 Opens.down (((Fe u30 (show 0<Tryz.prog.cellsOf 62 by rw[show Tryz.prog.cellsOf 62=5 by kernel_rfl];decide) (Ab6 n)).imp fun a d h=>UK h).congr fun x=>by rw[lst_eq])
theorem Qk {v:Value}{d:DataW H}{p:List MemPlace}(hv:Value.okWide Tryz.prog W .any base 29 v)(h:DataW.Trod enc Tryz.prog W 0 (fun _=>true) true 29 v d p):∃x:A0,VR (g0 W) W v (J2.eAu0 x)∧A0.bulk x≤Rows.uptoBulk d:=by
 obtain⟨fuel,ht⟩:=h;obtain⟨cs,rfl,hcs⟩:=okWide_struct u29 hv;obtain⟨x,hr,hb⟩:=Ac0 fuel _ _ ht;have hr':DG (g0 W) W cs.toList (J2.eAu0 x).cells:=hr;refine⟨x,?_,hb⟩;have:=hr'.agg
 rw[J2.eAt9]at this ⊢
 exact this
theorem SD {v:Value}{d:DataW H}{p:List MemPlace}(hv:Value.okWide Tryz.prog W .any base 30 v)(h:DataW.Trod enc Tryz.prog W 0 (fun _=>true) true 30 v d p):∃x:List A4,VR (g0 W) W v (.sl (lst J2.eAt5 x) .ro)∧(NN A4.mu) x≤Rows.uptoBulk d:=by
 obtain⟨fuel,ht⟩:=h;obtain⟨a,len,cap,rfl⟩:=okWide_slice u30 hv;obtain⟨x,hr,hb⟩:=Ab9 fuel _ _ ht;exact⟨x,(hr.2 0 (by simp[V.cells])).2,hb⟩
theorem u4 :Tryz.prog.underlying 4=some .bool:=by kernel_rfl
theorem Ad4 {f:FuncId}{vals:Array Value}{args:List V}(hg:∀n,VR (g0 W) W (.pointer (some ⟨n,0,none⟩)) (I9.gl n))(hcall:∀vals w,(callFunc f vals).run Tryz.prog w= .ok (.enter f vals) w)(law:B4 Tryz.prog f args (.bool true))(hA:Args (g0 W) W vals args):
 Calls Tryz.prog f vals W fun e W'=>e= .returned (.bool true)∧Below W.heap.size W W':=by
 have hc:=law (fun _=>none) (g0 W) W vals (rl0 hg) hA
 rw[hcall]at hc
 refine(callsIn_wide.1 hc).mono fun e W' ⟨v,he,g',y,H',hs,hR,hvy,hy,_⟩=>?_;subst hy;cases hvy;exact⟨he,hs.low⟩
theorem As8 {v0 v1 v2:Value}{x0 x1 x2:V}(h0:VR (g0 W) W v0 x0)(h1:VR (g0 W) W v1 x1)(h2:VR (g0 W) W v2 x2):Args (g0 W) W #[v0,v1,v2] [x0,x1,x2]:=⟨rfl,fun i hi=>by
 match i,hi with
 |0,_=>exact h0
 |1,_=>exact h1
 |2,_=>exact h2⟩
end
end Go.Ab
namespace Go.Ab
open Go.RowKit Go.ChangeShapes Go.WideShapes Go.ChangeAt Go.Proofs Go.Proofs.YtanbgjgaafeplaaGreatDoor
set_option maxRecDepth 100000
noncomputable def Kl (x:X5):V:=.agg [.int .i64 x.Time,.int .i64 x.Source,.int .i64 x.Seq]
theorem Jx (x:X5):Kl x= .agg [.int .i64 x.Time,.int .i64 x.Source,.int .i64 x.Seq]:=rfl
section
variable [I9]{H:Type}{enc:TypeId×Value→H}{W:World}{base:Nat}{spare:Nat→Bool}{held:Bool}
theorem u50 :Tryz.prog.underlying 50=some (.struct (NR Tryz.prog 50)):=by kernel_rfl
def X5.mu (x:X5):Nat:=(fun _:Int=>1) x.Time+(fun _:Int=>1) x.Source+(fun _:Int=>1) x.Seq+1
theorem Ab8 (n:Nat):Opens enc Tryz.prog W base spare held 50 Kl (fun(a:X5) d=>X5.mu a≤bk d) n:=by
 intro cs x h;obtain⟨xs,m,hm,rfl,hcl,hl,hf⟩:=DataW.trod_struct u50 h;subst hm;obtain⟨y0,k0,t0⟩:=G8 hl hf 0 (ty:=3) (off:=0) (sz:=1) (by kernel_rfl);obtain⟨y1,k1,t1⟩:=G8 hl hf 1 (ty:=3) (off:=1) (sz:=1) (by kernel_rfl);obtain⟨y2,k2,t2⟩:=G8 hl hf 2 (ty:=3) (off:=2) (sz:=1) (by kernel_rfl);have hxs:=YI (hl.trans (by kernel_rfl)) k0 k1 k2;obtain⟨a0,r0,q0⟩:=AN _ _ _ t0;obtain⟨a1,r1,q1⟩:=AN _ _ _ t1;obtain⟨a2,r2,q2⟩:=AN _ _ _ t2;refine⟨⟨a0,a1,a2⟩,?_,?_⟩
 ·have hc3:cs.length=3:=hcl.trans (by kernel_rfl);have:=(r0.join r1).join r2;rw[Jx]
  simp only[lst_eq]at this ⊢
  simpa[List.take_of_length_le,hc3,V.cells]using this
 simp only[bk]at q0 q1 q2
 rw[hxs];simp only[List.map_cons,List.map_nil,bk,Rows.uptoBulk,Rows.uptoBulkAll,X5.mu];omega
def D6.mu (x:D6):Nat:=(fun _:Int=>1) x.Var+X5.mu x.Ref+1
def C4.mu (x:C4):Nat:=(NN D6.mu) x.cT+1
theorem Zv {v:Value}{d:DataW H}{p:List MemPlace}(hv:Value.okWide Tryz.prog W .any base 50 v)(h:DataW.Trod enc Tryz.prog W 0 (fun _=>true) true 50 v d p):∃x:X5,VR (g0 W) W v (Kl x)∧X5.mu x≤Rows.uptoBulk d:=by
 obtain⟨fuel,ht⟩:=h;obtain⟨cs,rfl,hcs⟩:=okWide_struct u50 hv;obtain⟨x,hr,hb⟩:=Ab8 fuel _ _ ht;have hr':DG (g0 W) W cs.toList (Kl x).cells:=hr;refine⟨x,?_,hb⟩;have:=hr'.agg
 rw[Jx]at this ⊢
 exact this
end
end Go.Ab
namespace Go.Ab
open Go.RowKit Go.ChangeShapes Go.WideShapes Go.ChangeAt Go.Proofs Go.Proofs.YtanbgjgaafeplaaGreatDoor
set_option maxRecDepth 100000
section
variable {H:Type}{enc:TypeId×Value→H}{W:World}{base:Nat}{spare:Nat→Bool}{held:Bool}
theorem u196 :Tryz.prog.underlying 196=some (.array G2.length 195):=by kernel_rfl
theorem u195 :Tryz.prog.underlying 195=some (.struct (NR Tryz.prog 195)):=by kernel_rfl
theorem TI (n:Nat):Opens enc Tryz.prog W base spare held 195 J2.eAw0 (fun(a:J8) d=>d= .agg [.lit (.int .i64 a.cY),.lit (.int .i64 a.most),.lit (.bool a.cU),.lit (.bool a.cond),.lit (.bool a.scope),.lit (.bool a.span)]) n:=by
 intro cs x h;obtain⟨xs,m,rfl,rfl,hcl,hl,hf⟩:=DataW.trod_struct u195 h;obtain⟨y0,k0,t0⟩:=G8 hl hf 0 (ty:=3) (off:=0) (sz:=1) (by kernel_rfl);obtain⟨y1,k1,t1⟩:=G8 hl hf 1 (ty:=3) (off:=1) (sz:=1) (by kernel_rfl);obtain⟨y2,k2,t2⟩:=G8 hl hf 2 (ty:=4) (off:=2) (sz:=1) (by kernel_rfl);obtain⟨y3,k3,t3⟩:=G8 hl hf 3 (ty:=4) (off:=3) (sz:=1) (by kernel_rfl);obtain⟨y4,k4,t4⟩:=G8 hl hf 4 (ty:=4) (off:=4) (sz:=1) (by kernel_rfl);obtain⟨y5,k5,t5⟩:=G8 hl hf 5 (ty:=4) (off:=5) (sz:=1) (by kernel_rfl)
 have hxs:xs=[y0,y1,y2,y3,y4,y5]:=match xs,hl.trans (show _=6 by kernel_rfl),k0,k1,k2,k3,k4,k5 with|[_,_,_,_,_,_],_,rfl,rfl,rfl,rfl,rfl,rfl=>rfl
 obtain⟨a0,r0,q0⟩:=KO u3 _ _ t0;obtain⟨a1,r1,q1⟩:=KO u3 _ _ t1;obtain⟨a2,r2,q2⟩:=Gw u4 _ _ t2;obtain⟨a3,r3,q3⟩:=Gw u4 _ _ t3;obtain⟨a4,r4,q4⟩:=Gw u4 _ _ t4;obtain⟨a5,r5,q5⟩:=Gw u4 _ _ t5;refine⟨⟨a0,a1,a2,a3,a4,a5⟩,?_,?_⟩
 ·have hc3:cs.length=6:=hcl.trans (by kernel_rfl);have:=((((r0.join r1).join r2).join r3).join r4).join r5;rw[J2.eAw2]
  simpa[List.take_of_length_le,hc3,V.cells]using this
 rw[hxs];simp only[List.map_cons,List.map_nil,q0,q1,q2,q3,q4,q5]
theorem Of :∀(l k:List J8),(RL (H:=H) (fun(a:J8) d=>d= .agg [.lit (.int .i64 a.cY),.lit (.int .i64 a.most),.lit (.bool a.cU),.lit (.bool a.cond),.lit (.bool a.scope),.lit (.bool a.span)]) l
 (k.map fun a=>.agg [.lit (.int .i64 a.cY),.lit (.int .i64 a.most),.lit (.bool a.cU),.lit (.bool a.cond),.lit (.bool a.scope),.lit (.bool a.span)]))→l=k
 |[],[],_=>rfl
 |[],_::_,h=>by have:=h.1;simp at this
 |_::_,[],h=>by have:=h.1;simp at this
 |a::l,b::k,h=>by
  have h0:=h.2 0 a _ rfl rfl;have h1:=Of l k ⟨by simpa using h.1,fun i a d hi hd=>h.2 (i+1) a d (by simpa using hi) (by simpa using hd)⟩;subst h1;obtain⟨a0,a1,a2,a3,a4,a5⟩:=a;obtain⟨b0,b1,b2,b3,b4,b5⟩:=b
  simp at h0
  simp[h0]
theorem RY (h:laidMetH Tryz.prog Rows.semanticsMatchesRow.laid W):VR (g0 W) W (.pointer (some ⟨0,0,none⟩)) (I9.gl 0):=by
 have h':laidMet Tryz.prog Rows.semanticsMatchesRow.laid W:=h;obtain⟨ps,⟨_,_,_,_,_,q1,_,_,_,_,L1,_⟩,_⟩:=h';obtain⟨_,_,_,_,_,q2,_,_,_,_,L2,_⟩:=L1;obtain⟨_,_,_,_,_,q3,_,_,_,_,L3,_⟩:=L2;obtain⟨g',t',cs,fuel,p,q,hg',ht',hvar,hd,_,_⟩:=L3;obtain rfl:g'=0:=Option.some.inj (hg'.symm.trans (by kernel_rfl));obtain rfl:t'=196:=Option.some.inj (ht'.symm.trans (by kernel_rfl));obtain⟨l,hr,ds,hds,hl⟩:=RG u196 (by kernel_rfl) (by decide) (fun n=>TI n) hd
 have e:ds=G2.map fun a=>.agg [.lit (.int .i64 a.cY),.lit (.int .i64 a.most),.lit (.bool a.cU),.lit (.bool a.cond),.lit (.bool a.scope),.lit (.bool a.span)]:=by
  have e2:(Rows.laid_tidegate_pattern_shapes:DataW Unit)= .agg ds:=hds;have e3:(Rows.laid_tidegate_pattern_shapes:DataW Unit)= .agg (G2.map fun a=>.agg [.lit (.int .i64 a.cY),.lit (.int .i64 a.most),.lit (.bool a.cU),.lit (.bool a.cond),.lit (.bool a.scope),.lit (.bool a.span)]):=rfl
  rw[e3]at e2
  exact(DataW.agg.inj e2).symm
 subst e;obtain rfl:=Of _ _ hl;exact Se hg' hvar hr
theorem Am3 (h:laidMetH Tryz.prog Rows.semanticsMatchesRow.laid W):∀n,VR (g0 W) W (.pointer (some ⟨n,0,none⟩)) (I9.gl n)
 |0=>RY h
 |_+1=>.bad _
end
end Go.Ab
