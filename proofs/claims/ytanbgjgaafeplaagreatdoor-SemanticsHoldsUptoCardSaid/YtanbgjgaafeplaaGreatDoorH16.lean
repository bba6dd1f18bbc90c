/- AbG1 AbI1 AbM1 AbG2 AbG3 GTBk GTM1 GTM2 GTM3 GTM4 GTM5 GTM6 GTM7 GTN1 GTD1 GTD2 GTD3 GTD4 -/
import Derived.Test.YtanbgjgaafeplaaGreatDoorH15
import Derived.Deep.Slices
import Derived.Carry
import Derived.Lib.LaidTab
import Derived.Laws.Strings
set_option linter.all false
namespace Go.Ab
open Go.RowKit Go.ChangeShapes Go.WideShapes
variable [J2]
def g0 (W:World):Gh:=⟨fun _=>none,fun _=>⟨0,0,0⟩,fun _=>none,fun b o=>∃v,W.cell? ⟨b,o,none⟩=some v,0,W.heap.size⟩
theorem rl0 {W:World}(hg:∀n,VR (g0 W) W (.pointer (some ⟨n,0,none⟩)) (J2.gl n)):Rl (g0 W) (fun _=>none) W:=
 ⟨fun id b h=>(by cases h),fun id id' b h=>(by simp[Gh.at]at h),fun b o h=>h,fun id _=>⟨rfl,rfl,rfl⟩,Nat.le_refl _,hg⟩
def Dq (g:Gh)(w:World)(cs:List Value)(xs:List V):Prop:=
 cs.length=xs.length∧∀i,i<xs.length→(cs.getD i undef).oneCell'=true∧VR g w (cs.getD i undef) (xs.getD i .bad)
theorem Dq.nil (g:Gh)(w:World):Dq g w [] []:=⟨rfl,fun i hi=>by simp at hi⟩
theorem Dq.one {g:Gh}{w:World}{v:Value}{x:V}(h1:v.oneCell'=true)(h:VR g w v x):Dq g w [v] [x]:=by
 refine⟨rfl,fun i hi=>?_⟩
 have:i=0:=by simpa using hi
 subst this;exact⟨h1,h⟩
theorem Dq.append {g:Gh} {w:World} {cs ds:List Value} {xs ys:List V} (h:Dq g w cs xs) (k:Dq g w ds ys):Dq g w (cs++ds) (xs++ys):=by
 refine⟨by simp[h.1,k.1],fun i hi=>?_⟩;have hl:=h.1
 simp only[List.length_append]at hi
 by_cases hx:i<xs.length
 ·have e1:(cs++ds).getD i undef=cs.getD i undef:=by simp[List.getD,List.getElem?_append_left (show i<cs.length by omega)]
  have e2:(xs++ys).getD i .bad=xs.getD i .bad:=by simp[List.getD,List.getElem?_append_left hx]
  rw[e1,e2];exact h.2 i hx
 have e1:(cs++ds).getD i undef=ds.getD (i - xs.length) undef:=by simp[List.getD,List.getElem?_append_right (show cs.length≤i by omega),hl]
 have e2:(xs++ys).getD i .bad=ys.getD (i - xs.length) .bad:=by simp[List.getD,List.getElem?_append_right (show xs.length≤i by omega)]
 rw[e1,e2];exact k.2 _ (by omega)
theorem Dq.join {g:Gh}{w:World}{cs:List Value}{xs ys:List V}{a n m:Nat}(h:Dq g w ((cs.drop a).take n) xs)(k:Dq g w ((cs.drop (a+n)).take m) ys):Dq g w ((cs.drop a).take (n+m)) (xs++ys):=by
 have:=h.append k
 rwa[show(cs.drop (a+n))=(cs.drop a).drop n by rw[List.drop_drop],←List.take_add]at this
theorem Dq.agg {g:Gh} {w:World} {cs:Array Value} {xs:List V} (h:Dq g w cs.toList xs):VR g w (.agg cs) (.agg xs):=by
 refine .agg (by simpa using h.1) (fun i hi=>?_) fun i hi=>?_
 ·have:=(h.2 i hi).1
  simpa[List.getD,Array.getD_eq_getD_getElem?]using this
 have:=(h.2 i hi).2
 simpa[List.getD,Array.getD_eq_getD_getElem?]using this
section
variable {H α:Type}{enc:TypeId×Value→H}{P:Program}{W:World}{base:Nat}{spare:Nat→Bool}{held:Bool}{t e:TypeId}{n:Nat}
def Opens (enc:TypeId×Value→H)(P:Program)(W:World)(base:Nat)(spare:Nat→Bool)(held:Bool)(t:TypeId)(f:α→V)(R:α→DataW H→Prop)(n:Nat):Prop:=
 ∀cs x,DataW.trod enc P W base spare held n t cs=some x→∃a,Dq (g0 W) W cs (f a).cells∧R a x.1
theorem Kr {k:IntKind}(ht:P.underlying t=some (.int k)):Opens enc P W base spare held t (V.int k) (fun a d=>d= .lit (.int k a)) n:=by
 intro cs x h;obtain⟨a,rfl,rfl,_⟩:=DataW.trod_int ht h;exact⟨a,.one rfl (.int _ _),rfl⟩
theorem Gc (ht:P.underlying t=some .bool):Opens enc P W base spare held t V.bool (fun a d=>d= .lit (.bool a)) n:=by
 intro cs x h;obtain⟨a,rfl,rfl⟩:=DataW.trod_bool ht h;exact⟨a,.one rfl (.bool _),rfl⟩
theorem VE (ht:P.underlying t=some .string):Opens enc P W base spare held t V.str (fun a d=>d= .lit (.string a.data.toList)∧a.size≤maxLen) n:=by
 intro cs x h;obtain⟨a,rfl,rfl,hl⟩:=DataW.trod_string ht h;exact⟨a,.one rfl (.str _),rfl,hl⟩
def RL (R:α→DataW H→Prop)(l:List α)(ds:List (DataW H)):Prop:=l.length=ds.length∧∀(i:Nat) a d,l[i]? =some a→ds[i]? =some d→R a d
def RS (R:α→DataW H→Prop)(l:List α)(d:DataW H):Prop:=l.length≤maxLen∧((d= .nil∧l=[])∨∃es sp,d= .slice es sp∧RL R l es)
theorem Dj {f:α→V} {R:α→DataW H→Prop} (ht:P.underlying t=some (.slice e)) (hc:0<P.cellsOf e) (he:Opens enc P W base spare held e f R n):
 Opens enc P W base spare held t (fun l:List α=>.sl (l.map f) .ro) (RS R) (n+1):=by
 intro cs x h
 rcases DataW.trod_slice ht h with⟨rfl,rfl⟩|⟨a,len,cap,elems,rest,n',hn,rfl,rfl,hb,hl,hm,hlen,hel,hsp,hns⟩
 ·exact⟨[],.one rfl (.sl0 rfl),Nat.zero_le _,.inl ⟨rfl,rfl⟩⟩
 have hn':n'=n:=by omega
 subst hn'
 rcases Nat.eq_zero_or_pos len with h0|h0
 ·subst h0;have:elems=[]:=List.length_eq_zero_iff.1 hlen;subst this;exact⟨[],.one rfl (.sle (.inl rfl)),Nat.zero_le _,.inr ⟨_,_,rfl,rfl,fun i a d hi=>by simp at hi⟩⟩
 have one:∀i,i<len→∃cs' y b,W.cells? base (a.add (i*P.cellsOf e)) (P.cellsOf e)=some cs'∧elems[i]? =some y∧Dq (g0 W) W cs' (f b).cells∧R b y.1:=by
  intro i hi;have h1:=hel i hi
  have h2:elems[i]? =some (elems[i]'(by omega)):=by simp[hlen,hi]
  rw[h2]at h1
  obtain⟨cs',hcs,hy⟩:=Option.bind_eq_some_iff.1 h1;obtain⟨b,hr,hR⟩:=he cs' _ hy;exact⟨cs',_,b,hcs,h2,hr,hR⟩
 obtain⟨_,_,b0,_⟩:=one 0 h0
 haveI:Inhabited α:=⟨b0⟩
 obtain⟨A,hA⟩:=Deep.choose_lt (α:=α) (p:=fun i b=>∃cs' y,W.cells? base (a.add (i*P.cellsOf e)) (P.cellsOf e)=some cs'∧elems[i]? =some y∧Dq (g0 W) W cs' (f b).cells∧R b y.1)
  (fun i hi=>let⟨cs',y,b,h1,h2,h3,h4⟩:=one i hi;⟨b,cs',y,h1,h2,h3,h4⟩)
 have hspot:a.spot=none:=by
  obtain⟨cs',y,h1,_,_,_⟩:=hA 0 h0;obtain⟨_,hcl,hcell⟩:=World.cells?_some h1;have h2:=hcell 0 hc
  have e0:(a.add (0*P.cellsOf e)).add 0=a:=by simp[Addr.add]
  rw[e0]at h2
  have h3:cs'[0]? =some (cs'[0]'(by omega)):=by simp[hcl,hc]
  rw[h3]at h2
  unfold World.cell? at h2
  split at h2
  ·split at h2
   ·cases h2
   rename_i hs;simpa using hs
  cases h2
 obtain⟨b,o,s⟩:=a
 simp only at hspot
 subst hspot
 let l:=(List.range len).map A
 have hll:l.length=len:=by simp[l]
 have hg:∀i,i<len→(l.map f).getD i .bad=f (A i):=fun i hi=>by simp[l,List.getD,hi]
 have cell:∀i j,i<len→j<P.cellsOf e→∃v,W.cell? ⟨b,o+i*P.cellsOf e+j,none⟩=some v∧v.oneCell'=true∧VR (g0 W) W v ((f (A i)).cells.getD j .bad):=by
  intro i j hi hj;obtain⟨cs',y,h1,_,hr,_⟩:=hA i hi;obtain⟨_,hcl,hcell⟩:=World.cells?_some h1;have h2:=hcell j hj
  rw[W1,W1]at h2
  have h3:cs'[j]? =some (cs'.getD j undef):=by simp[List.getD,hcl,hj]
  rw[h3]at h2
  have:=hr.2 j (by rw[←hr.1,hcl];exact hj);exact⟨_,h2,this.1,this.2⟩
 refine⟨l,.one rfl ?_,by omega,.inr ⟨_,_,rfl,by simp[hll,hlen],fun i a' d hi hd=>?_⟩⟩
 ·have hz:∀i,i<len→((l.map f).getD i .bad).cells.length=P.cellsOf e:=fun i hi=>by
   obtain⟨cs',y,h1,_,hr,_⟩:=hA i hi;obtain⟨_,hcl,_⟩:=World.cells?_some h1;rw[hg i hi,←hr.1,hcl]
  refine .sl (sz:=P.cellsOf e) (fun i j=>(W.cell? ⟨b,o+i*P.cellsOf e+j,none⟩).getD undef) (by simp[hll]) hl hz (fun i j hi hj=>?_) (fun i j hi hj=>?_) (fun i j hi hj=>?_) (fun i j hi hj=>?_) trivial
  ·obtain⟨v,h1,_⟩:=cell i j hi hj;exact⟨v,h1⟩
  ·obtain⟨v,h1,_⟩:=cell i j hi hj;rw[h1];rfl
  ·obtain⟨v,h1,h2,_⟩:=cell i j hi hj;rw[h1];exact h2
  obtain⟨v,h1,h2,h3⟩:=cell i j hi hj;rw[h1,hg i hi];exact h3
 have hi':i<len:=by
  rcases Nat.lt_or_ge i l.length with h|h
  ·omega
  rw[List.getElem?_eq_none h]at hi;cases hi
 obtain⟨cs',y,h1,h2,h3,h4⟩:=hA i hi'
 have e1:a'=A i:=by simp[l,hi']at hi;exact hi.symm
 have e2:d=y.1:=by simp[h2]at hd;exact hd.symm
 rw[e1,e2];exact h4
theorem Tl {fs:Array Field} {xs:List (DataW H×List MemPlace)} {cs:List Value} {n:Nat} (hl:xs.length=fs.size)
 (hf:∀(i:Nat) (f:Field),fs[i]? =some f→DataW.trod enc P W base spare held n f.type ((cs.drop f.offset).take (P.cellsOf f.type))=xs[i]?) (i:Nat) {f:Field} (h:fs[i]? =some f):
 ∃y,xs[i]? =some y∧DataW.trod enc P W base spare held n f.type ((cs.drop f.offset).take (P.cellsOf f.type))=some y:=by
 have hi:i<fs.size:=by
  rcases Nat.lt_or_ge i fs.size with h'|h'
  ·exact h'
  rw[Array.getElem?_eq_none h']at h;cases h
 have h1:xs[i]? =some (xs[i]'(by omega)):=by simp[hl,hi]
 exact⟨_,h1,by rw[hf i f h,h1]⟩
end
end Go.Ab
namespace Go.Ab
noncomputable instance arInst :Ar where
 cmp:=KD
 cmp_eq:=fun _ _ _=>rfl
 ar:=arI
 ar_eq:=fun _ _ _ _=>rfl
 sh:=shI
 sh_eq:=fun _ _ _ _=>rfl
 neg:=fun k n=>k.wrap (0 - n)
 neg_eq:=fun _ _=>rfl
 wr:=fun k n=>k.wrap n
 wr_eq:=fun _ _=>rfl
 scmp:=Ai5
 scmp_eq:=fun _ _ _=>rfl
 cat:=fun a b=>a++b
 cat_eq:=fun _ _=>rfl
 slen:=fun s=>s.size
 slen_eq:=fun _=>rfl
 sat:=fun s i=>match s[i.toNat]? with|some b=>(b.toNat:Int)|none=>0
 sat_eq:=fun _ _=>rfl
 beq:=fun a b=>a==b
 beq_eq:=fun _ _=>rfl
 nt:=fun a=> !a
 nt_eq:=fun _=>rfl
 an:=fun a b=>a&&b
 an_eq:=fun _ _=>rfl
 or:=fun a b=>a||b
 or_eq:=fun _ _=>rfl
 pk:=fun c a b=>if c then a else b
 pk_eq:=fun _ _ _=>rfl
 mx:=fun a b=>if a<b then b else a
 mx_eq:=fun _ _=>rfl
 mn:=fun a b=>if b<a then b else a
 mn_eq:=fun _ _=>rfl
 ofs:=fun a b=>a+b
 ofs_eq:=fun _ _=>rfl
 ofN:=fun n=>n
 ofN_eq:=fun _=>rfl
 len:=fun l=>l.length
 len_eq:=fun _=>rfl
 lst:=fun f l=>l.map f
 lst_eq:=fun _ _=>rfl
end Go.Ab
namespace Go.Ab
theorem C1 (a b:Int):Ar.cmp .lss a b=decide (a<b):=rfl
theorem Bg (a b:Int):Ar.cmp .leq a b=decide (a≤b):=rfl
theorem Q2 (a b:Int):Ar.cmp .gtr a b=decide (b<a):=rfl
theorem J1 (a b:Int):Ar.cmp .geq a b=decide (b≤a):=rfl
theorem B8 (a b:Int):Ar.cmp .eql a b=decide (a=b):=rfl
theorem G2 (a b:Int):Ar.cmp .neq a b= !decide (a=b):=rfl
theorem N5 (a:Bool):Ar.nt a= !a:=rfl
theorem K1 (a b:Bool):Ar.an a b=(a&&b):=rfl
theorem I9 (a b:Bool):Ar.or a b=(a||b):=rfl
theorem A9 {α:Type}(l:List α):Ar.len l=(l.length:Int):=rfl
theorem Hn (a b:Int):Ar.mx a b=if a<b then b else a:=rfl
theorem Qn (s:ByteArray):Ar.slen s=(s.size:Int):=rfl
theorem An {n:Int} (h0: -9223372036854775808≤n) (h1:n<9223372036854775808):IntKind.wrap .i64 n=n:=by
 have e:IntKind.wrap .i64 n=(if n % 18446744073709551616≥9223372036854775808 then n % 18446744073709551616 - 18446744073709551616 else n % 18446744073709551616):=by
  unfold IntKind.wrap;simp[IntKind.bits,IntKind.signed]
 rw[e]
 split<;>omega
theorem C4 {a b:Int}(h0: -9223372036854775808≤a+b)(h1:a+b<9223372036854775808):Ar.ar .add .i64 a b=a+b:=An h0 h1
theorem Ri {S σ R α:Type} (l:List α) (hl:l.length<1000000000000) (step:S→Option (S ⊕ R)) (mk:σ→Int→S) (body:σ→α→Option (σ ⊕ R)) (fin:σ→R)
 (hstep:∀s (i:Nat) x,l[i]? =some x→step (mk s i)=(body s x).bind fun o=>match o with| .inl s'=>some (.inl (mk s' (i+1)))| .inr r=>some (.inr r))
 (hend:∀s,step (mk s l.length)=some (.inr (fin s))):
 ∀(k:Nat) (i:Nat) (s:σ) (N:Nat),i+k=l.length→k<N→loopN step N (mk s i)=(H5 body (l.drop i) s).bind fun o=>match o with| .inl s=>some (fin s)| .inr r=>some r:=by
 intro k
 induction k with
 |zero=>
  intro i s N hi hN;obtain⟨N,rfl⟩:∃M,N=M+1:=⟨N - 1,by omega⟩;have e:l.drop i=[]:=List.drop_eq_nil_of_le (by omega)
  have ei:((i:Nat):Int)=l.length:=by omega
  rw[e,ei];simp only[loopN,hend,H5,Option.bind_some]
 | succ k ih=>
  intro i s N hi hN;obtain⟨N,rfl⟩:∃M,N=M+1:=⟨N - 1,by omega⟩
  have hlt:i<l.length:=by omega
  have hx:l[i]? =some l[i]:=by simp[hlt]
  have e:l.drop i=l[i]::l.drop (i+1):=List.drop_eq_getElem_cons hlt;rw[e];simp only[loopN,hstep s i _ hx,H5]
  cases hb:body s l[i]with
  |none=>rfl
  | some o=>
   cases o with
   |inl s'=>
    simp only[Option.bind_some];have:=ih (i+1) s' N (by omega) (by omega);rw[show((i:Int)+1)=((i+1:Nat):Int) by omega];exact this
   |inr r=>rfl
theorem C5 {α:Type}{l:List α}{i:Nat}:B6 l (i:Int)=l[i]? :=by simp[B6]
theorem Pm {β S σ R α:Type} (l:List α) (step:S→Option (List β×(S ⊕ R))) (mk:σ→Int→S) (body:σ→α→Option (List β×(σ ⊕ R))) (fin:σ→R)
 (hstep:∀s (i:Nat) x,l[i]? =some x→step (mk s i)=(body s x).bind fun o=>match o with|(w,.inl s')=>some (w,.inl (mk s' (i+1)))|(w,.inr r)=>some (w,.inr r))
 (hend:∀s,step (mk s l.length)=some ([],.inr (fin s))):
 ∀(k:Nat) (i:Nat) (s:σ) (N:Nat),i+k=l.length→k<N→W0 step N (mk s i)=(Bl body (l.drop i) s).bind fun o=>match o with|(w,.inl s)=>some (w,fin s)|(w,.inr r)=>some (w,r):=by
 intro k
 induction k with
 |zero=>
  intro i s N hi hN;obtain⟨N,rfl⟩:∃M,N=M+1:=⟨N - 1,by omega⟩;have e:l.drop i=[]:=List.drop_eq_nil_of_le (by omega)
  have ei:((i:Nat):Int)=l.length:=by omega
  rw[e,ei];simp only[W0,hend,Bl,Option.bind_some]
 | succ k ih=>
  intro i s N hi hN;obtain⟨N,rfl⟩:∃M,N=M+1:=⟨N - 1,by omega⟩
  have hlt:i<l.length:=by omega
  have hx:l[i]? =some l[i]:=by simp[hlt]
  have e:l.drop i=l[i]::l.drop (i+1):=List.drop_eq_getElem_cons hlt;rw[e];simp only[W0,hstep s i _ hx,Bl]
  cases hb:body s l[i]with
  |none=>rfl
  | some o=>
   obtain⟨w,o⟩:=o
   cases o with
   | inl s'=>
    simp only[Option.bind_some];have:=ih (i+1) s' N (by omega) (by omega);rw[show((i:Int)+1)=((i+1:Nat):Int) by omega,this]
    cases hr:Bl body (l.drop (i+1)) s' with
    |none=>rfl
    |some q=>
     obtain⟨w',o'⟩:=q;cases o'<;>rfl
   |inr r=>rfl
theorem F2 {S σ R α:Type} (l:List α) (hl:l.length<1000000000000) {step:S→Option (S ⊕ R)} (mk:σ→Int→S) (body:σ→α→Option (σ ⊕ R)) (fin:σ→R) (s:σ) {N:Nat} (hN:l.length<N)
 (hstep:∀s (i:Nat) x,l[i]? =some x→(i:Int)<l.length→step (mk s i)=(body s x).bind fun o=>match o with| .inl s'=>some (.inl (mk s' (i+1)))| .inr r=>some (.inr r))
 (hend:∀s,step (mk s l.length)=some (.inr (fin s))):loopN step N (mk s 0)=(H5 body l s).bind fun o=>match o with| .inl s=>some (fin s)| .inr r=>some r:=by
 have:=Ri l hl step mk body fin (fun s i x h=>hstep s i x h (by
  rcases Nat.lt_or_ge i l.length with h'|h'
  ·omega
  rw[List.getElem?_eq_none h']at h;cases h)) hend l.length 0 s N (by omega) hN
 simpa using this
theorem SW {β S σ R α:Type} (l:List α) {step:S→Option (List β×(S ⊕ R))} (mk:σ→Int→S) (body:σ→α→Option (List β×(σ ⊕ R))) (fin:σ→R) (s:σ) {N:Nat} (hN:l.length<N)
 (hstep:∀s (i:Nat) x,l[i]? =some x→(i:Int)<l.length→step (mk s i)=(body s x).bind fun o=>match o with|(w,.inl s')=>some (w,.inl (mk s' (i+1)))|(w,.inr r)=>some (w,.inr r))
 (hend:∀s,step (mk s l.length)=some ([],.inr (fin s))):W0 step N (mk s 0)=(Bl body l s).bind fun o=>match o with|(w,.inl s)=>some (w,fin s)|(w,.inr r)=>some (w,r):=by
 have:=Pm l step mk body fin (fun s i x h=>hstep s i x h (by
  rcases Nat.lt_or_ge i l.length with h'|h'
  ·omega
  rw[List.getElem?_eq_none h']at h;cases h)) hend l.length 0 s N (by omega) hN
 simpa using this
theorem W5 {α σ R:Type} {step:σ→α→Option (σ ⊕ R)} (I:List α→σ→Prop) (hs:∀x r s,I (x::r) s→∃s',step s x=some (.inl s')∧I r s'):∀{l:List α} {s:σ},I l s→∃s',H5 step l s=some (.inl s')∧I [] s'
 |[],s,h=>⟨s,rfl,h⟩
 |x::l,s,h=>by
  obtain⟨s',h1,h2⟩:=hs x l s h;obtain⟨s2,h3,h4⟩:=W5 I hs h2;exact⟨s2,by simp only[H5,h1,h3],h4⟩
theorem Mn {α β σ R:Type} {step:σ→α→Option (List β×(σ ⊕ R))} (I:List α→List β→σ→Prop) (hs:∀x r w s,I (x::r) w s→∃w' s',step s x=some (w',.inl s')∧I r (w++w') s'):
 ∀{l:List α} {w:List β} {s:σ},I l w s→∃w' s',Bl step l s=some (w',.inl s')∧I [] (w++w') s'
 |[],w,s,h=>⟨[],s,rfl,by simpa using h⟩
 |x::l,w,s,h=>by
  obtain⟨w1,s1,h1,h2⟩:=hs x l w s h;obtain⟨w2,s2,h3,h4⟩:=Mn I hs h2;exact⟨w1++w2,s2,by simp only[Bl,h1,h3],by rw[←List.append_assoc];exact h4⟩
def P5 {α:Type}(f:α→Int):List α→Int
 |[]=>0
 |x::l=>if f x=0 then P5 f l else f x
theorem CO {α:Type} {f:α→Int}:∀{l:List α},P5 f l=0↔∀x∈l,f x=0
 |[]=>by simp[P5]
 |x::l=>by
  unfold P5
  split
  ·rename_i h;rw[CO];simp[h]
  rename_i h;simp[h]
theorem Lm {α:Type} {f:α→Int}:∀{l m:List α},P5 f (l++m)=if P5 f l=0 then P5 f m else P5 f l
 |[],m=>by simp[P5]
 |x::l,m=>by
  simp only[List.cons_append,P5]
  split
  ·rw[Lm]
  rename_i h;simp[h]
theorem NT {α:Type} {F:α→Option Int} {f:α→Int}:∀{l:List α},(∀x∈l,F x=some (f x))→
 H5 (fun(_:Unit) x=>(F x).bind fun r=>if Ar.cmp .neq r 0=true then some (Sum.inr r)else some (.inl ())) l ()=some (if P5 f l=0 then .inl ()else .inr (P5 f l))
 |[],_=>rfl
 | x::l,h=>by
  have h1:=NT (l:=l) fun y hy=>h y (by simp[hy]);unfold H5;simp only[h x (by simp),Option.bind_some,G2,P5]
  by_cases hz:f x=0
  ·simp only[hz,decide_true,Bool.not_true,Bool.false_eq_true,if_false,if_true]
   simpa only[G2]using h1
  simp[hz]
noncomputable def Y3 {α:Type}(F:α→Option Int)(_:Unit)(a:α):Option (Unit ⊕ (Unit ⊕ Int)):=(F a).bind fun r=>if Ar.cmp .neq r 0=true then some (.inr (.inr r))else some (.inl ())
theorem V0 {α:Type} {F:α→Option Int} {f:α→Int}:∀{l:List α},(∀x∈l,F x=some (f x))→H5 (Y3 F) l ()=some (if P5 f l=0 then .inl ()else .inr (.inr (P5 f l)))
 |[],_=>rfl
 |x::l,h=>by
  have h1:=V0 (l:=l) fun y hy=>h y (by simp[hy]);unfold H5 Y3;simp only[h x (by simp),Option.bind_some,G2,P5]
  by_cases hz:f x=0
  ·simp only[hz,decide_true,Bool.not_true,Bool.false_eq_true,if_false,if_true];exact h1
  simp[hz]
end Go.Ab
namespace Go.Ab
open Go.RowKit Go.ChangeShapes Go.WideShapes
variable [J2]
section
variable {H α:Type}{enc:TypeId×Value→H}{P:Program}{W:World}{base:Nat}{spare:Nat→Bool}{held:Bool}{t e:TypeId}{n:Nat}
theorem NP {cs:List Value} {sz:Nat} {f:α→V}:∀(l:List α) (o:Nat),(∀(i:Nat) a,l[i]? =some a→Dq (g0 W) W ((cs.drop (o+i*sz)).take sz) (f a).cells)→Dq (g0 W) W ((cs.drop o).take (l.length*sz)) (l.flatMap fun a=>(f a).cells)
 |[],o,_=>by simp;exact .nil _ _
 | a::l,o,h=>by
  have h0:=h 0 a rfl
  rw[Nat.zero_mul,Nat.add_zero]at h0
  have h1:=NP l (o+sz) fun i b hi=>by
   have:=h (i+1) b (by simpa using hi)
   rwa[show o+(i+1)*sz=o+sz+i*sz by rw[Nat.add_mul];omega]at this
  have:=h0.join h1;rw[List.length_cons,List.flatMap_cons,show(l.length+1)*sz=sz+l.length*sz by rw[Nat.add_mul];omega];exact this
theorem QY {f:α→V} {R:α→DataW H→Prop} {m:Nat} (ht:P.underlying t=some (.array m e)) (hct:P.cellsOf t=m*P.cellsOf e) (hm:0<m) (he:∀n,Opens enc P W base spare held e f R n) {cs:List Value} {x:DataW H×List MemPlace}
 (h:DataW.trod enc P W base spare held n t cs=some x):∃l:List α,Dq (g0 W) W cs (l.flatMap fun a=>(f a).cells)∧∃ds,x.1= .agg ds∧RL R l ds:=by
 cases n with
 |zero=>simp[DataW.trod]at h
 | succ n=>
  simp only[DataW.trod,ht]at h
  split at h
  ·rename_i hl;obtain⟨xs,hmm,rfl⟩:=Option.map_eq_some_iff.1 h
   have hxl:xs.length=m:=by simpa using mapM_some_length hmm
   have one:∀i,i<m→∃b,Dq (g0 W) W ((cs.drop (i*P.cellsOf e)).take (P.cellsOf e)) (f b).cells∧∀y,xs[i]? =some y→R b y.1:=by
    intro i hi;have h1:=mapM_some_get hmm i i (by simp[hi])
    have h2:xs[i]? =some (xs[i]'(by omega)):=by simp[hxl,hi]
    rw[h2]at h1
    obtain⟨b,hr,hR⟩:=he n _ _ h1;exact⟨b,hr,fun y hy=>by rw[h2]at hy;cases hy;exact hR⟩
   obtain⟨b0,_⟩:=one 0 hm
   haveI:Inhabited α:=⟨b0⟩
   obtain⟨A,hA⟩:=Deep.choose_lt one
   have hat:∀(i:Nat) a,((List.range m).map A)[i]? =some a→i<m∧a=A i:=fun i a hi=>by
    rcases Nat.lt_or_ge i m with hlt|hge
    ·simp[hlt]at hi;exact⟨hlt,hi.symm⟩
    rw[List.getElem?_eq_none (by simpa using hge)]at hi;cases hi
   refine⟨(List.range m).map A,?_,_,rfl,by simp[hxl],fun i a d hi hd=>?_⟩
   ·have:=NP (cs:=cs) (sz:=P.cellsOf e) (f:=f) (W:=W) ((List.range m).map A) 0 (fun i a hi=>by
     obtain⟨h1,rfl⟩:=hat i a hi
     simpa using(hA i h1).1)
    simpa[List.take_of_length_le,hl,hct]using this
   obtain⟨h1,rfl⟩:=hat i a hi
   simp only[List.getElem?_map,Option.map_eq_some_iff]at hd
   obtain⟨y,hy,rfl⟩:=hd;exact(hA i h1).2 y hy
  cases h
theorem Rt {g:Nat} {cs:Array Value} {xs:List V} {name:String} (hg:P.globalNamed name=some g) (hv:W.var? P name=some cs) (hr:Dq (g0 W) W cs.toList xs):VR (g0 W) W (.pointer (some ⟨g,0,none⟩)) (.eref xs 0):=by
 have cell:∀j,j<xs.length→W.cell? ⟨g,0+j,none⟩=some (cs.toList.getD j undef):=fun j hj=>by
  have h1:=World.var?_cell hg hv j
  have h2:j<cs.size:=by have:=hr.1;simp at this;omega
  rw[Nat.zero_add,h1];simp[List.getD,h2]
 exact .eref (g:=g0 W) (o:=0) (off:=0) (fun j=>cs.toList.getD j undef) (fun j hj=>(⟨_,cell j hj⟩:∃v,W.cell? ⟨g,0+j,none⟩=some v)) (fun j hj=>cell j hj) (fun j hj=>(hr.2 j hj).1) fun j hj=>(hr.2 j hj).2
end
end Go.Ab
namespace Go.Ab
open Go.RowKit Go.ChangeShapes Go.WideShapes
variable [J2]
section
variable {H:Type}{enc:TypeId×Value→H}{P:Program}{W:World}{base:Nat}{spare:Nat→Bool}{held:Bool}{t e:TypeId}{n:Nat}
end
end Go.Ab
namespace Go.Ab
mutual
def B1.bulk :B1→Nat
 |⟨_,args,_,_,_,v⟩=>B1.bulks args+v.Text.size+9
def B1.bulks :List B1→Nat
 |[]=>1
 |a::r=>B1.bulk a+B1.bulks r
end
mutual
def A1.bulk :A1→Nat
 |⟨_,args,_,_,_,_,c⟩=>A1.bulks args+B1.bulk c+6
def A1.bulks :List A1→Nat
 |[]=>1
 |a::r=>A1.bulk a+A1.bulks r
end
end Go.Ab
namespace Go.Ab
mutual
def B1.pre :B1→List B1
 |⟨op,args,var,field,kind,val⟩=>⟨op,args,var,field,kind,val⟩::B1.pres args
def B1.pres :List B1→List B1
 |[]=>[]
 |a::r=>B1.pre a++B1.pres r
end
mutual
def B1.dep :B1→Nat
 |⟨_,args,_,_,_,_⟩=>B1.deps args+1
def B1.deps :List B1→Nat
 |[]=>0
 |a::r=>max (B1.dep a) (B1.deps r)
end
mutual
def A1.pre :A1→List A1
 |⟨op,args,typ,var,scope,span,c⟩=>⟨op,args,typ,var,scope,span,c⟩::A1.pres args
def A1.pres :List A1→List A1
 |[]=>[]
 |a::r=>A1.pre a++A1.pres r
end
mutual
def A1.dep :A1→Nat
 |⟨_,args,_,_,_,_,_⟩=>A1.deps args+1
def A1.deps :List A1→Nat
 |[]=>0
 |a::r=>max (A1.dep a) (A1.deps r)
end
theorem B1.pre_eq (x:B1):x.pre=x::B1.pres x.cP:=by cases x;simp[B1.pre]
theorem A1.pre_eq (x:A1):x.pre=x::A1.pres x.cP:=by cases x;simp[A1.pre]
theorem B1.dep_eq (x:B1):x.dep=B1.deps x.cP+1:=by cases x;simp[B1.dep]
theorem A1.dep_eq (x:A1):x.dep=A1.deps x.cP+1:=by cases x;simp[A1.dep]
theorem B1.bulk_eq (x:B1):x.bulk=B1.bulks x.cP+x.Value.Text.size+9:=by cases x;simp[B1.bulk]
theorem A1.bulk_eq (x:A1):x.bulk=A1.bulks x.cP+x.cR.bulk+6:=by cases x;simp[A1.bulk]
theorem LN :∀(l:List B1),(∀a∈l,B1.bulk a≤B1.bulks l)∧l.length≤B1.bulks l
 |[]=>⟨fun a h=>by simp at h,by simp[B1.bulks]⟩
 |b::l=>by
  have h:=LN l;have hb:=B1.bulk_eq b;simp only[B1.bulks,List.length_cons];refine⟨fun a ha=>?_,by omega⟩
  rcases List.mem_cons.1 ha with rfl|ha
  ·omega
  have:=h.1 a ha;omega
theorem LM :∀(l:List A1),(∀a∈l,A1.bulk a≤A1.bulks l)∧l.length≤A1.bulks l
 |[]=>⟨fun a h=>by simp at h,by simp[A1.bulks]⟩
 |b::l=>by
  have h:=LM l;have hb:=A1.bulk_eq b;simp only[A1.bulks,List.length_cons];refine⟨fun a ha=>?_,by omega⟩
  rcases List.mem_cons.1 ha with rfl|ha
  ·omega
  have:=h.1 a ha;omega
mutual
theorem SO :∀x:B1,x.pre.length≤x.bulk
 |⟨op,args,var,field,kind,val⟩=>by
  have:=EV args;simp only[B1.pre,B1.bulk,List.length_cons];omega
theorem EV :∀l:List B1,(B1.pres l).length≤B1.bulks l
 |[]=>by simp[B1.pres]
 |a::l=>by
  have h1:=SO a;have h2:=EV l;simp only[B1.pres,B1.bulks,List.length_append];omega
end
mutual
theorem El :∀x:A1,x.pre.length≤x.bulk
 |⟨op,args,typ,var,scope,span,c⟩=>by
  have:=EU args;simp only[A1.pre,A1.bulk,List.length_cons];omega
theorem EU :∀l:List A1,(A1.pres l).length≤A1.bulks l
 |[]=>by simp[A1.pres]
 |a::l=>by
  have h1:=El a;have h2:=EU l;simp only[A1.pres,A1.bulks,List.length_append];omega
end
mutual
theorem Jh :∀x:B1,x.dep≤x.bulk
 |⟨op,args,var,field,kind,val⟩=>by
  have:=Fe args;simp only[B1.dep,B1.bulk];omega
theorem Fe :∀l:List B1,B1.deps l≤B1.bulks l
 |[]=>by simp[B1.deps]
 |a::l=>by
  have h1:=Jh a;have h2:=Fe l;simp only[B1.deps,B1.bulks];omega
end
mutual
theorem Tu :∀x:A1,x.dep≤x.bulk
 |⟨op,args,typ,var,scope,span,c⟩=>by
  have:=Fd args;simp only[A1.dep,A1.bulk];omega
theorem Fd :∀l:List A1,A1.deps l≤A1.bulks l
 |[]=>by simp[A1.deps]
 |a::l=>by
  have h1:=Tu a;have h2:=Fd l;simp only[A1.deps,A1.bulks];omega
end
def Cut (lim:Int)(cnt:Nat)(r:Int):Prop:=1≤r∧r≤cnt∧(r=cnt∨lim<r)
section
variable {α:Type}
theorem Hh {lim:Int} {f:α→Option Int} {cnt:α→Nat} {B:Nat} (hB:B≤1000000000000):∀(l:List α) (s:Int),0≤s→s+(l.map cnt).sum≤B→(∀a∈l,∃r,f a=some r∧Cut lim (cnt a) r)→
 ∃o,H5 (fun(s:Int) x=>if s≤lim then(f x).bind fun r=>some (.inl (Ar.ar .add .i64 s r))else some (.inr s)) l s=some o∧
  ∃v,v=(match o with| .inl s=>s| .inr s=>s)∧s≤v∧v≤s+(l.map cnt).sum∧(v=s+(l.map cnt).sum∨lim<v)
 |[],s,h0,_,_=>⟨.inl s,rfl,s,rfl,Int.le_refl _,by simp,.inl (by simp)⟩
 | a::l,s,h0,hb,hf=>by
  simp only[List.map_cons,List.sum_cons]at hb ⊢
  unfold H5
  by_cases hs:s≤lim
  ·obtain⟨r,h1,h2,h3,h4⟩:=hf a (by simp);simp only[if_pos hs,h1,Option.bind_some];have e:Ar.ar .add .i64 s r=s+r:=C4 (by omega) (by omega);rw[e];obtain⟨o,k1,v,k2,k3,k4,k5⟩:=Hh hB l (s+r) (by omega) (by omega) fun b hb=>hf b (by simp[hb]);refine⟨o,k1,v,k2,by omega,by omega,?_⟩
   rcases k5 with k5|k5
   ·rcases h4 with h4|h4
    ·left;omega
    right;omega
   exact .inr k5
  simp only[if_neg hs];exact⟨_,rfl,s,rfl,Int.le_refl _,by omega,.inr (by omega)⟩
end
theorem IA :∀l:List A1,(l.map fun a=>a.pre.length).sum=(A1.pres l).length
 |[]=>rfl
 |a::l=>by simp[A1.pres,IA l]
theorem IB :∀l:List B1,(l.map fun a=>a.pre.length).sum=(B1.pres l).length
 |[]=>rfl
 |a::l=>by simp[B1.pres,IB l]
theorem Qe {N:Nat} (hN:40000000≤N) (lim:Int):∀(n:Nat) (x:A1),x.bulk≤n→x.bulk≤16777216→∃r,U4 N n x lim=some r∧Cut lim x.pre.length r:=by
 intro n
 induction n with
 |zero=>intro x h;have:=A1.bulk_eq x;omega
 | succ n ih=>
  intro x hx hb;have hxb:=A1.bulk_eq x;have hB:=LM x.cP;have hpb:=EU x.cP;unfold U4;rw[F2 x.cP (by omega) (mk:=fun(s:Int) i=>(s,i)) (body:=fun(s:Int) a=>if s≤lim then(U4 N n a lim).bind fun r=>some (.inl (Ar.ar .add .i64 s r))else some (.inr s)) (fin:=fun s=>s) (s:=1) (by omega) ?_ ?_]
  ·obtain⟨o,k1,v,k2,k3,k4,k5⟩:=Hh (lim:=lim) (f:=fun a=>U4 N n a lim) (cnt:=fun a=>a.pre.length) (B:=40000000) (by omega) x.cP 1 (by omega) (by rw[IA];omega) fun a ha=>ih a (by have:=hB.1 a ha;omega) (by have:=hB.1 a ha;omega)
   rw[IA]at k4 k5
   have hpe:x.pre.length=(A1.pres x.cP).length+1:=by rw[A1.pre_eq];rfl
   simp only[k1,Option.bind_some];refine⟨v,?_,by omega,by omega,?_⟩
   ·cases o<;>simp_all
   rcases k5 with k5|k5
   ·left;omega
   right;exact k5
  ·intro s i a ha hi;have e:Ar.ar .add .i64 (i:Int) 1=i+1:=C4 (by omega) (by omega);simp only[C1,Bg,K1,A9,hi,decide_true,Bool.true_and,C5,ha,Option.bind_some,e,decide_eq_true_eq]
   split
   ·cases U4 N n a lim<;>rfl
   rfl
  intro s;simp[C1,K1,A9]
end Go.Ab
namespace Go.Ab
theorem JG {x a:A1}(h:a∈x.cP):a.bulk<x.bulk:=by
 have h1:=(LM x.cP).1 a h;have h2:=A1.bulk_eq x;omega
theorem X9 {x a:B1}(h:a∈x.cP):a.bulk<x.bulk:=by
 have h1:=(LN x.cP).1 a h;have h2:=B1.bulk_eq x;omega
theorem JJ (x:A1):x.cP.length≤x.bulk:=by
 have h1:=(LM x.cP).2;have h2:=A1.bulk_eq x;omega
theorem Et (x:B1):x.cP.length≤x.bulk:=by
 have h1:=(LN x.cP).2;have h2:=B1.bulk_eq x;omega
theorem JW (x:A1):0<x.bulk:=by have:=A1.bulk_eq x;omega
theorem CN (x:B1):0<x.bulk:=by have:=B1.bulk_eq x;omega
theorem RF {N:Nat} (hN:40000000≤N):∀(n:Nat) (x:A1),x.bulk≤n→x.bulk≤16777216→U6 N n x=some (x.dep:Int):=by
 intro n
 induction n with
 |zero=>intro x h;have:=JW x;omega
 | succ n ih=>
  intro x hx hb;have hl:=JJ x;unfold U6;rw[F2 x.cP (by omega) (mk:=fun(s:Int) i=>(s,i)) (body:=fun(s:Int) a=>(U6 N n a).bind fun r=>some (.inl (Ar.mx s r))) (fin:=fun s=>s) (s:=0) (by omega) ?_ ?_]
  ·obtain⟨s',k1,k2⟩:=W5 (R:=Int) (step:=fun(s:Int) a=>(U6 N n a).bind fun r=>some (.inl (Ar.mx s r))) (fun r s=>(∀a∈r,a∈x.cP)∧0≤s∧max s (A1.deps r:Int)=(A1.deps x.cP:Int)) (fun a r s ⟨h1,h2,h3⟩=>by
    have hm:=JG (h1 a (by simp));refine⟨_,by rw[ih a (by omega) (by omega)];rfl,fun b hb=>h1 b (by simp[hb]),?_,?_⟩
    ·rw[Hn];split<;>omega
    rw[←h3,Hn];simp only[A1.deps];split<;>omega) (l:=x.cP) (s:=0) ⟨fun a h=>h,Int.le_refl _,by omega⟩
   simp only[k1,Option.bind_some]
   have e:s'=(A1.deps x.cP:Int):=by have:=k2.2.2;simp only[A1.deps]at this;omega
   have hd:=Fd x.cP;have hd2:=A1.bulk_eq x;rw[e,C4 (by omega) (by omega),A1.dep_eq];rfl
  ·intro s i a ha hi;have e:Ar.ar .add .i64 (i:Int) 1=i+1:=C4 (by omega) (by omega);simp only[C1,A9,hi,decide_true,if_true,C5,ha,Option.bind_some,e];cases U6 N n a<;>rfl
  intro s;simp[C1,A9]
theorem M6 {α:Type}{l m:List α}(h:l.length+m.length≤1073741824):I3 l m=some (l++m):=by simp[I3,h]
theorem Mw {N:Nat} (hN:40000000≤N):∀(n:Nat) (x:A1),x.bulk≤n→x.bulk≤16777216→R6 N n x=some x.pre:=by
 intro n
 induction n with
 |zero=>intro x h;have:=JW x;omega
 | succ n ih=>
  intro x hx hb;have hl:=JJ x;unfold R6;rw[F2 x.cP (by omega) (mk:=fun(s:List A1) i=>(s,i)) (body:=fun(s:List A1) a=>(R6 N n a).bind fun r=>(I3 s r).bind fun l=>some (.inl l)) (fin:=fun s=>s) (s:=[x]) (by omega) ?_ ?_]
  ·have hp:=El x;have hpe:=A1.pre_eq x
   obtain⟨s',k1,k2⟩:=W5 (R:=List A1) (step:=fun(s:List A1) a=>(R6 N n a).bind fun r=>(I3 s r).bind fun l=>some (.inl l)) (fun r s=>(∀a∈r,a∈x.cP)∧s++A1.pres r=x.pre) (fun a r s ⟨h1,h2⟩=>by
    have hm:=JG (h1 a (by simp));have hlen:=congrArg List.length h2
    simp only[A1.pres,List.length_append]at hlen
    refine⟨_,by rw[ih a (by omega) (by omega)];simp only[Option.bind_some];rw[M6 (by omega)];rfl,fun b hb=>h1 b (by simp[hb]),?_⟩
    rw[←h2];simp[A1.pres]) (l:=x.cP) (s:=[x]) ⟨fun a h=>h,by rw[hpe];rfl⟩
   simp only[k1,Option.bind_some];have:=k2.2
   simp only[A1.pres,List.append_nil]at this
   rw[this]
  ·intro s i a ha hi;have e:Ar.ar .add .i64 (i:Int) 1=i+1:=C4 (by omega) (by omega);simp only[C1,A9,hi,decide_true,if_true,C5,ha,Option.bind_some,e]
   cases R6 N n a with
   |none=>rfl
   |some r=>simp only[Option.bind_some];cases I3 s r<;>rfl
  intro s;simp[C1,A9]
theorem YX {N:Nat} (hN:40000000≤N):∀(n:Nat) (x:A1),x.bulk≤n→x.bulk≤16777216→U1 N n x=some ((x.pre.length:Int),(x.dep:Int)):=by
 intro n
 induction n with
 |zero=>intro x h;have:=JW x;omega
 | succ n ih=>
  intro x hx hb;have hl:=JJ x;unfold U1;rw[F2 x.cP (by omega) (mk:=fun(s:Int×Int) i=>(s.1,s.2,i)) (body:=fun(s:Int×Int) a=>(U1 N n a).bind fun r=>some (.inl (Ar.ar .add .i64 s.1 r.1,Ar.mx s.2 r.2))) (fin:=fun s=>s) (s:=(1,0)) (by omega) ?_ ?_]
  ·have hp:=EU x.cP;have hd:=Fd x.cP;have hbe:=A1.bulk_eq x
   obtain⟨s',k1,k2⟩:=W5 (R:=Int×Int) (step:=fun(s:Int×Int) a=>(U1 N n a).bind fun r=>some (.inl (Ar.ar .add .i64 s.1 r.1,Ar.mx s.2 r.2))) (fun r s=>(∀a∈r,a∈x.cP)∧0≤s.2∧0≤s.1∧s.1+(A1.pres r).length=(A1.pres x.cP).length+1∧max s.2 (A1.deps r:Int)=(A1.deps x.cP:Int)) (fun a r s ⟨h1,h2,h3,h4,h5⟩=>by
    have hm:=JG (h1 a (by simp))
    simp only[A1.pres,List.length_append,A1.deps]at h4 h5
    refine⟨_,by rw[ih a (by omega) (by omega)];rfl,fun b hb=>h1 b (by simp[hb]),?_,?_,?_,?_⟩
    ·simp only[Hn];split<;>omega
    ·rw[C4 (by omega) (by omega)];omega
    ·rw[C4 (by omega) (by omega)];omega
    rw[←h5];simp only[Hn];split<;>omega) (l:=x.cP) (s:=(1,0)) ⟨fun a h=>h,by simp,by simp,by simp only;omega,by simp only;omega⟩
   simp only[k1,Option.bind_some];obtain⟨_,_,_,e1,e2⟩:=k2
   simp only[A1.pres,List.length_nil,A1.deps]at e1 e2
   have e3:s'.1=(x.pre.length:Int):=by rw[A1.pre_eq];simp only[List.length_cons];omega
   have e4:s'.2=(A1.deps x.cP:Int):=by omega
   rw[e3,e4,C4 (by omega) (by omega),A1.dep_eq];rfl
  ·intro s i a ha hi;have e:Ar.ar .add .i64 (i:Int) 1=i+1:=C4 (by omega) (by omega);simp only[C1,A9,hi,decide_true,if_true,C5,ha,Option.bind_some,e];cases U1 N n a<;>rfl
  intro s;simp[C1,A9]
theorem YQ {N:Nat} (hN:40000000≤N):∀(n:Nat) (x:A1),x.bulk≤n→x.bulk≤16777216→U0 N n x=some x.pre:=by
 intro n
 induction n with
 |zero=>intro x h;have:=JW x;omega
 | succ n ih=>
  intro x hx hb;have hl:=JJ x;unfold U0;rw[SW x.cP (mk:=fun(_:Unit) i=>i) (body:=fun(_:Unit) a=>(U0 N n a).bind fun l=>some (l,.inl ())) (fin:=fun _=>()) (s:=()) (by omega) ?_ ?_]
  ·obtain⟨w,s',k1,k2⟩:=Mn (R:=Unit) (step:=fun(_:Unit) a=>(U0 N n a).bind fun l=>some (l,.inl ())) (fun r w s=>(∀a∈r,a∈x.cP)∧w++A1.pres r=A1.pres x.cP) (fun a r w s ⟨h1,h2⟩=>by
    have hm:=JG (h1 a (by simp));refine⟨a.pre,(),by rw[ih a (by omega) (by omega)];rfl,fun b hb=>h1 b (by simp[hb]),?_⟩
    rw[←h2];simp[A1.pres]) (l:=x.cP) (w:=[]) (s:=()) ⟨fun a h=>h,by simp⟩
   have e:w=A1.pres x.cP:=by have:=k2.2;simpa[A1.pres]using this
   rw[k1,e,A1.pre_eq];simp[N6]
  ·intro s i a ha hi;have e:Ar.ar .add .i64 (i:Int) 1=i+1:=C4 (by omega) (by omega);simp only[C1,A9,hi,decide_true,if_true,C5,ha,Option.bind_some,e];cases U0 N n a<;>simp[N6]
  intro s;simp[C1,A9]
end Go.Ab
namespace Go.Ab
theorem RH {N:Nat} (hN:40000000≤N) (lim:Int):∀(n:Nat) (x:B1),x.bulk≤n→x.bulk≤16777216→∃r,U8 N n x lim=some r∧Cut lim x.pre.length r:=by
 intro n
 induction n with
 |zero=>intro x h;have:=CN x;omega
 | succ n ih=>
  intro x hx hb;have hxb:=B1.bulk_eq x;have hB:=LN x.cP;have hpb:=EV x.cP;unfold U8;rw[F2 x.cP (by omega) (mk:=fun(s:Int) i=>(s,i)) (body:=fun(s:Int) a=>if s≤lim then(U8 N n a lim).bind fun r=>some (.inl (Ar.ar .add .i64 s r))else some (.inr s)) (fin:=fun s=>s) (s:=1) (by omega) ?_ ?_]
  ·obtain⟨o,k1,v,k2,k3,k4,k5⟩:=Hh (lim:=lim) (f:=fun a=>U8 N n a lim) (cnt:=fun a=>a.pre.length) (B:=40000000) (by omega) x.cP 1 (by omega) (by rw[IB];omega) fun a ha=>ih a (by have:=hB.1 a ha;omega) (by have:=hB.1 a ha;omega)
   rw[IB]at k4 k5
   have hpe:x.pre.length=(B1.pres x.cP).length+1:=by rw[B1.pre_eq];rfl
   simp only[k1,Option.bind_some];refine⟨v,?_,by omega,by omega,?_⟩
   ·cases o<;>simp_all
   rcases k5 with k5|k5
   ·left;omega
   right;exact k5
  ·intro s i a ha hi;have e:Ar.ar .add .i64 (i:Int) 1=i+1:=C4 (by omega) (by omega);simp only[C1,Bg,K1,A9,hi,decide_true,Bool.true_and,C5,ha,Option.bind_some,e,decide_eq_true_eq]
   split
   ·cases U8 N n a lim<;>rfl
   rfl
  intro s;simp[C1,K1,A9]
theorem MZ {N:Nat} (hN:40000000≤N):∀(n:Nat) (x:B1),x.bulk≤n→x.bulk≤16777216→U7 N n x=some (x.dep:Int):=by
 intro n
 induction n with
 |zero=>intro x h;have:=CN x;omega
 | succ n ih=>
  intro x hx hb;have hl:=Et x;unfold U7;rw[F2 x.cP (by omega) (mk:=fun(s:Int) i=>(s,i)) (body:=fun(s:Int) a=>(U7 N n a).bind fun r=>some (.inl (Ar.mx s r))) (fin:=fun s=>s) (s:=0) (by omega) ?_ ?_]
  ·obtain⟨s',k1,k2⟩:=W5 (R:=Int) (step:=fun(s:Int) a=>(U7 N n a).bind fun r=>some (.inl (Ar.mx s r))) (fun r s=>(∀a∈r,a∈x.cP)∧0≤s∧max s (B1.deps r:Int)=(B1.deps x.cP:Int)) (fun a r s ⟨h1,h2,h3⟩=>by
    have hm:=X9 (h1 a (by simp));refine⟨_,by rw[ih a (by omega) (by omega)];rfl,fun b hb=>h1 b (by simp[hb]),?_,?_⟩
    ·rw[Hn];split<;>omega
    rw[←h3,Hn];simp only[B1.deps];split<;>omega) (l:=x.cP) (s:=0) ⟨fun a h=>h,Int.le_refl _,by omega⟩
   simp only[k1,Option.bind_some]
   have e:s'=(B1.deps x.cP:Int):=by have:=k2.2.2;simp only[B1.deps]at this;omega
   have hd:=Fe x.cP;have hd2:=B1.bulk_eq x;rw[e,C4 (by omega) (by omega),B1.dep_eq];rfl
  ·intro s i a ha hi;have e:Ar.ar .add .i64 (i:Int) 1=i+1:=C4 (by omega) (by omega);simp only[C1,A9,hi,decide_true,if_true,C5,ha,Option.bind_some,e];cases U7 N n a<;>rfl
  intro s;simp[C1,A9]
theorem UZ {N:Nat} (hN:40000000≤N):∀(n:Nat) (x:B1),x.bulk≤n→x.bulk≤16777216→Bf N n x=some ((x.pre.length:Int),(x.dep:Int)):=by
 intro n
 induction n with
 |zero=>intro x h;have:=CN x;omega
 | succ n ih=>
  intro x hx hb;have hl:=Et x;unfold Bf;rw[F2 x.cP (by omega) (mk:=fun(s:Int×Int) i=>(s.1,s.2,i)) (body:=fun(s:Int×Int) a=>(Bf N n a).bind fun r=>some (.inl (Ar.ar .add .i64 s.1 r.1,Ar.mx s.2 r.2))) (fin:=fun s=>s) (s:=(1,0)) (by omega) ?_ ?_]
  ·have hp:=EV x.cP;have hd:=Fe x.cP;have hbe:=B1.bulk_eq x
   obtain⟨s',k1,k2⟩:=W5 (R:=Int×Int) (step:=fun(s:Int×Int) a=>(Bf N n a).bind fun r=>some (.inl (Ar.ar .add .i64 s.1 r.1,Ar.mx s.2 r.2))) (fun r s=>(∀a∈r,a∈x.cP)∧0≤s.2∧0≤s.1∧s.1+(B1.pres r).length=(B1.pres x.cP).length+1∧max s.2 (B1.deps r:Int)=(B1.deps x.cP:Int)) (fun a r s ⟨h1,h2,h3,h4,h5⟩=>by
    have hm:=X9 (h1 a (by simp))
    simp only[B1.pres,List.length_append,B1.deps]at h4 h5
    refine⟨_,by rw[ih a (by omega) (by omega)];rfl,fun b hb=>h1 b (by simp[hb]),?_,?_,?_,?_⟩
    ·simp only[Hn];split<;>omega
    ·rw[C4 (by omega) (by omega)];omega
    ·rw[C4 (by omega) (by omega)];omega
    rw[←h5];simp only[Hn];split<;>omega) (l:=x.cP) (s:=(1,0)) ⟨fun a h=>h,by simp,by simp,by simp only;omega,by simp only;omega⟩
   simp only[k1,Option.bind_some];obtain⟨_,_,_,e1,e2⟩:=k2
   simp only[B1.pres,List.length_nil,B1.deps]at e1 e2
   have e3:s'.1=(x.pre.length:Int):=by rw[B1.pre_eq];simp only[List.length_cons];omega
   have e4:s'.2=(B1.deps x.cP:Int):=by omega
   rw[e3,e4,C4 (by omega) (by omega),B1.dep_eq];rfl
  ·intro s i a ha hi;have e:Ar.ar .add .i64 (i:Int) 1=i+1:=C4 (by omega) (by omega);simp only[C1,A9,hi,decide_true,if_true,C5,ha,Option.bind_some,e];cases Bf N n a<;>rfl
  intro s;simp[C1,A9]
theorem Ni {f:B1→Int}:∀l:List B1,P5 (fun a=>P5 f a.pre) l=P5 f (B1.pres l)
 |[]=>rfl
 |a::l=>by rw[B1.pres,Lm,P5,Ni l]
theorem Qh {a y:B1} (hy:y∈a.pre):∀l:List B1,a∈l→y∈B1.pres l
 |[],h=>by simp at h
 |b::l,h=>by
  rcases List.mem_cons.1 h with rfl|h
  ·simp[B1.pres,hy]
  simp[B1.pres,Qh hy l h]
theorem WJ {N:Nat} (hN:40000000≤N) {F:B1→Option Int} {f:B1→Int}:∀(n:Nat) (x:B1),x.bulk≤n→x.bulk≤16777216→(∀y∈x.pre,F y=some (f y))→AU N n x F=some (P5 f x.pre):=by
 intro n
 induction n with
 |zero=>intro x h;have:=CN x;omega
 | succ n ih=>
  intro x hx hb hF;have hl:=Et x;have hpe:=B1.pre_eq x;unfold AU;rw[hF x (by rw[hpe];simp)];simp only[Option.bind_some,G2];rw[hpe,P5]
  by_cases hz:f x=0
  ·simp only[hz,decide_true,Bool.not_true,Bool.false_eq_true,if_false,if_true];rw[F2 x.cP (by omega) (mk:=fun(_:Unit) i=>i) (body:=Y3 fun a=>AU N n a F) (fin:=fun _=>.inl ()) (s:=()) (by omega) ?_ ?_]
   ·rw[V0 (f:=fun a=>P5 f a.pre) fun a ha=>ih a (by have:=X9 ha;omega) (by have:=X9 ha;omega) fun y hy=>hF y (by rw[hpe];exact List.mem_cons_of_mem _ (Qh hy _ ha)),Ni]
    by_cases hz3:P5 f (B1.pres x.cP)=0
    ·simp[hz3]
    simp[hz3]
   ·intro s i a ha hi;have e:Ar.ar .add .i64 (i:Int) 1=i+1:=C4 (by omega) (by omega);simp only[C1,A9,hi,decide_true,if_true,C5,ha,Option.bind_some,e,Y3,G2]
    cases AU N n a F with
    |none=>rfl
    |some r=>by_cases h:r=0<;>simp[h]
   intro s;simp[C1,A9]
  simp[hz]
theorem VI {N:Nat} (hN:40000000≤N) {f:B1→Int} (hF:∀y,CB N y=some (f y)):∀(n:Nat) (x:B1),x.bulk≤n→x.bulk≤16777216→Z6 N n x=some (P5 f x.pre):=by
 intro n
 induction n with
 |zero=>intro x h;have:=CN x;omega
 | succ n ih=>
  intro x hx hb;have hl:=Et x;have hpe:=B1.pre_eq x;unfold Z6;rw[hF x];simp only[Option.bind_some,G2];rw[hpe,P5]
  by_cases hz:f x=0
  ·simp only[hz,decide_true,Bool.not_true,Bool.false_eq_true,if_false,if_true];rw[F2 x.cP (by omega) (mk:=fun(_:Unit) i=>i) (body:=Y3 fun a=>Z6 N n a) (fin:=fun _=>.inl ()) (s:=()) (by omega) ?_ ?_]
   ·rw[V0 (f:=fun a=>P5 f a.pre) fun a ha=>ih a (by have:=X9 ha;omega) (by have:=X9 ha;omega),Ni]
    by_cases hz3:P5 f (B1.pres x.cP)=0
    ·simp[hz3]
    simp[hz3]
   ·intro s i a ha hi;have e:Ar.ar .add .i64 (i:Int) 1=i+1:=C4 (by omega) (by omega);simp only[C1,A9,hi,decide_true,if_true,C5,ha,Option.bind_some,e,Y3,G2]
    cases Z6 N n a with
    |none=>rfl
    |some r=>by_cases h:r=0<;>simp[h]
   intro s;simp[C1,A9]
  simp[hz]
end Go.Ab
namespace Go.Ab
theorem LT {a b:ByteArray}:a.toList=b.toList↔a=b:=by
 rw[ByteArray.toList_eq,ByteArray.toList_eq]
 constructor
 ·intro h;obtain⟨⟨a⟩⟩:=a;obtain⟨⟨b⟩⟩:=b
  simp at h
  subst h;rfl
 intro h;rw[h]
theorem Qz (a b:ByteArray):Ar.scmp .neq a b= !decide (a=b):=by
 show(!(a.toList==b.toList))=_
 by_cases h:a=b
 ·subst h;simp
 have:a.toList≠b.toList:=fun e=>h (LT.1 e);simp[h,this]
theorem CX (a b:ByteArray):Ar.scmp .eql a b=decide (a=b):=by
 show(a.toList==b.toList)=_
 by_cases h:a=b
 ·subst h;simp
 have:a.toList≠b.toList:=fun e=>h (LT.1 e);simp[h,this]
theorem Ai8 (N:Nat)(op:Int):EB N op=some (if op<0∨12<op then(0,false)else if op<5 then(0,true)else if op=12 then(1,true)else(2,true)):=by
 unfold EB;simp only[C1,Q2,B8,I9,Bool.or_eq_true,decide_eq_true_eq]
 split
 ·rfl
 split
 ·rfl
 split<;>rfl
theorem Aa6 (N:Nat) (op:Int):Dh N op=some (if op<0∨12<op then -1 else if op<5 then 0 else if op=12 then 1 else 2):=by
 have h:op<0∨op=0∨op=1∨op=2∨op=3∨op=4∨op=5∨op=6∨op=7∨op=8∨op=9∨op=10∨op=11∨op=12∨12<op:=by omega
 unfold Dh;simp only[B8]
 rcases h with h|h|h|h|h|h|h|h|h|h|h|h|h|h|h
 all_goals first
  |(subst h;rfl)
  | (have h0:op≠0:=by omega
     have h1:op≠1:=by omega
     have h2:op≠2:=by omega
     have h3:op≠3:=by omega
     have h4:op≠4:=by omega
     have h5:op≠5:=by omega
     have h6:op≠6:=by omega
     have h7:op≠7:=by omega
     have h8:op≠8:=by omega
     have h9:op≠9:=by omega
     have ha:op≠10:=by omega
     have hb:op≠11:=by omega
     have hc:op≠12:=by omega
     simp[h0,h1,h2,h3,h4,h5,h6,h7,h8,h9,ha,hb,hc,h])
theorem Al7 (N:Nat)(op:Int):FK N op=some (decide (op=1∨op=2∨op=3∨op=4),decide (op=1∨op=4)):=by
 unfold FK;simp only[B8,decide_eq_true_eq]
 by_cases h1:op=1
 ·simp[h1]
 by_cases h4:op=4
 ·simp[h4]
 by_cases h2:op=2
 ·simp[h2]
 by_cases h3:op=3<;>simp[h1,h2,h3,h4]
theorem Af0 (N:Nat)(op:Int):Ef N op=some (decide (op=1∨op=2∨op=3∨op=4),decide (op=1∨op=4)):=by
 unfold Ef;simp only[B8,I9]
 by_cases h1:op=1
 ·simp[h1]
 by_cases h4:op=4
 ·simp[h4]
 by_cases h2:op=2
 ·simp[h2]
 by_cases h3:op=3<;>simp[h1,h2,h3,h4]
def I0 (v:A5):Int:=
 if v.Kind=0∨v.Kind=1 then
  if v.Text≠⟨#[]⟩then 3
  else if v.Kind=0∧(v.Num< -1099511627776∨1099511627776<v.Num)∨v.Kind=1∧v.Num≠0∧v.Num≠1 then 2 else 0
 else if v.Kind=2 then(if v.Num≠0 then 3 else if 64<(v.Text.size:Int)then 13 else 0)else 1
theorem Jr (N:Nat) (v:A5):U3 N v=some (I0 v):=by
 obtain⟨k,n,t⟩:=v;unfold U3 Ec I0;simp only[B8,G2,C1,Q2,K1,I9,Qz,Qn]
 by_cases h0:k=0
 ·subst h0
  by_cases ht:t=⟨#[]⟩
  ·subst ht
   by_cases h1:n< -1099511627776∨1099511627776<n
   ·simp[h1]
   simp[h1];decide
  simp[ht]
 by_cases h1:k=1
 ·subst h1
  by_cases ht:t=⟨#[]⟩
  ·subst ht
   by_cases h2:n=0
   ·simp[h2];decide
   by_cases h3:n=1
   ·simp[h3];decide
   simp[h2,h3]
  simp[ht]
 by_cases h2:k=2
 ·subst h2
  by_cases hn:n=0
  ·simp[hn];split<;>rfl
  simp[hn]
 simp[h0,h1,h2]
theorem HJ (N:Nat) (v:A5):X3 N v=some (I0 v):=by
 obtain⟨k,n,t⟩:=v;unfold X3 I0;simp only[B8,G2,C1,Q2,K1,I9,Qz,Qn]
 by_cases h0:k=0
 ·subst h0
  by_cases ht:t=⟨#[]⟩
  ·subst ht
   by_cases h1:n< -1099511627776∨1099511627776<n
   ·simp[h1]
   simp[h1]
  simp[ht]
 by_cases h1:k=1
 ·subst h1
  by_cases ht:t=⟨#[]⟩
  ·subst ht
   by_cases h2:n=0
   ·simp[h2]
   by_cases h3:n=1
   ·simp[h3]
   have:n<0∨1<n:=by omega
   simp[h2,h3,this]
  simp[ht]
 by_cases h2:k=2
 ·subst h2
  by_cases hn:n=0
  ·simp[hn];split<;>rfl
  simp[hn]
 have:k<0∨2<k:=by omega
 simp[h0,h1,h2,this]
theorem WP (N:Nat)(k:Int)(v:A5):EA N k v=some (decide (v.Kind=0∨k=4∨k=5)):=by
 unfold EA;simp only[B8,I9]
 by_cases h1:v.Kind=0<;>by_cases h2:k=4<;>by_cases h3:k=5<;>simp[h1,h2,h3]
theorem UT (N:Nat)(k:Int)(v:A5)(h:k≠0):U9 N k v=some (decide (v.Kind=0∨k=4∨k=5)):=by
 unfold U9;simp only[B8,I9]
 by_cases h1:v.Kind=0<;>by_cases h2:k=4<;>by_cases h3:k=5<;>simp[h,h1,h2,h3]
def WK (op:Int):Bool:=decide (op=1∨op=2∨op=3∨op=4)
def WL (op:Int):Bool:=decide (op=1∨op=4)
noncomputable def Pc (x:B1):Bool:=Ar.or (Ar.an (WK x.Op) (Ar.or (Ar.cmp .lss x.Var 0) (Ar.cmp .geq x.Var 16))) (Ar.an (WL x.Op) (Ar.or (Ar.cmp .lss x.Field 0) (Ar.cmp .geq x.Field 8)))
noncomputable def MJ (x:B1):Bool:=Ar.an (Ar.cmp .eql x.Op 4) (Ar.or (Ar.cmp .lss x.Kind 1) (Ar.cmp .gtr x.Kind 5))
noncomputable def ND (v:A5):Bool:=Ar.an (Ar.cmp .eql v.Kind 0) (Ar.an (Ar.cmp .eql v.Num 0) (Ar.an (Ar.scmp .eql v.Text (⟨#[]⟩)) true))
noncomputable def Fv (x:B1):Bool:=Ar.or (Ar.nt (decide (x.Value.Kind=0∨x.Kind=4∨x.Kind=5))) (Ar.an (Ar.cmp .eql x.Kind 1) (Ar.nt (ND x.Value)))
noncomputable def Eu (x:B1):Bool:=Ar.or (Ar.or (Ar.or (Ar.an (Ar.nt (WK x.Op)) (Ar.cmp .neq x.Var 0)) (Ar.an (Ar.nt (WL x.Op)) (Ar.cmp .neq x.Field 0))) (Ar.an (Ar.nt (Ar.cmp .eql x.Op 4)) (Ar.cmp .neq x.Kind 0))) (Ar.an (Ar.nt (Ar.or (Ar.cmp .eql x.Op 4) (Ar.cmp .eql x.Op 0))) (Ar.nt (ND x.Value)))
noncomputable def Y4 (x:B1):Int:=
 if x.Op<0∨12<x.Op then 1
 else if(x.cP.length:Int)≠(if x.Op<5 then 0 else if x.Op=12 then 1 else 2)then 15
 else if Pc x=true then 2
 else if MJ x=true then 1
 else if(x.Op=4∨x.Op=0)∧I0 x.Value≠0 then I0 x.Value
 else if x.Op=4∧Fv x=true then 9
 else if Eu x=true then 3 else 0
theorem VJ (N:Nat) (x:B1):CB N x=some (Y4 x):=by
 unfold CB Y4;rw[Aa6,Af0];simp only[Option.bind_some]
 by_cases h0:x.Op<0∨12<x.Op
 ·rw[if_pos h0,if_pos h0];rfl
 rw[if_neg h0,if_neg h0]
 have ha:¬(Ar.cmp .lss (if x.Op<5 then 0 else if x.Op=12 then 1 else 2) 0=true):=by
  rw[C1];simp only[decide_eq_true_eq];split
  ·omega
  split<;>omega
 rw[if_neg ha]
 by_cases h1:(x.cP.length:Int)≠(if x.Op<5 then 0 else if x.Op=12 then 1 else 2)
 ·rw[if_pos h1,if_pos (by simp[G2,A9,h1])]
 rw[if_neg h1,if_neg (by simp only[G2,A9];simpa using h1)]
 change (if Pc x=true then some 2 else _)=_
 by_cases h2:Pc x=true
 ·rw[if_pos h2,if_pos h2]
 rw[if_neg h2,if_neg h2]
 change (if MJ x=true then some 1 else _)=_
 by_cases h3:MJ x=true
 ·rw[if_pos h3,if_pos h3]
 rw[if_neg h3,if_neg h3];rw[HJ]
 have e4:(Ar.or (Ar.cmp .eql x.Op 4) (Ar.cmp .eql x.Op 0)=true)↔(x.Op=4∨x.Op=0):=by simp[B8,I9]
 have e6:(Ar.cmp .eql x.Op 4=true)↔x.Op=4:=by simp[B8]
 by_cases h4:x.Op=4∨x.Op=0
 ·rw [if_pos (e4.2 h4)];simp only[Option.bind_some]
  by_cases h5:I0 x.Value=0
  ·have n5:¬(Ar.cmp .neq (I0 x.Value) 0=true):=by simp[G2,h5]
   have n5':¬((x.Op=4∨x.Op=0)∧I0 x.Value≠0):=fun h=>h.2 h5;rw[if_neg n5,if_neg n5'];simp only[Option.bind_some]
   by_cases h6:x.Op=4
   ·rw[if_pos (e6.2 h6)]
    have hk:x.Kind≠0:=by
     intro e;apply h3;simp[MJ,K1,I9,B8,C1,h6,e]
    rw[UT N _ _ hk];simp only[Option.bind_some]
    change (if Fv x=true then some 9 else if Eu x=true then some 3 else some 0)=_
    by_cases h7:Fv x=true
    ·rw[if_pos h7,if_pos (show x.Op=4∧Fv x=true from⟨h6,h7⟩)]
    rw[if_neg h7,if_neg (show¬(x.Op=4∧Fv x=true)from fun h=>h7 h.2)]
    by_cases h8:Eu x=true
    ·rw[if_pos h8,if_pos h8]
    rw[if_neg h8,if_neg h8]
   rw[if_neg (show¬(Ar.cmp .eql x.Op 4=true)from fun h=>h6 (e6.1 h)),if_neg (show¬(x.Op=4∧Fv x=true)from fun h=>h6 h.1)]
   change (if Eu x=true then some 3 else some 0)=_
   by_cases h8:Eu x=true
   ·rw[if_pos h8,if_pos h8]
   rw[if_neg h8,if_neg h8]
  have n5:Ar.cmp .neq (I0 x.Value) 0=true:=by simp[G2,h5]
  rw[if_pos n5,if_pos (show(x.Op=4∨x.Op=0)∧I0 x.Value≠0 from⟨h4,h5⟩)];rfl
 rw[if_neg (show¬(Ar.or (Ar.cmp .eql x.Op 4) (Ar.cmp .eql x.Op 0)=true)from fun h=>h4 (e4.1 h)),if_neg (show¬((x.Op=4∨x.Op=0)∧I0 x.Value≠0)from fun h=>h4 h.1)];simp only[Option.bind_some];have h6:¬x.Op=4:=fun e=>h4 (.inl e);rw[if_neg (show¬(Ar.cmp .eql x.Op 4=true)from fun h=>h6 (e6.1 h)),if_neg (show¬(x.Op=4∧Fv x=true)from fun h=>h6 h.1)]
 change (if Eu x=true then some 3 else some 0)=_
 by_cases h8:Eu x=true
 ·rw[if_pos h8,if_pos h8]
 rw[if_neg h8,if_neg h8]
theorem Xv (N:Nat) (x:B1):DZ N x=some (Y4 x):=by
 unfold DZ Y4;rw[Ai8,Al7];simp only[Option.bind_some]
 by_cases h0:x.Op<0∨12<x.Op
 ·rw[if_pos h0,if_pos h0];rfl
 rw[if_neg h0,if_neg h0]
 have ha:(if x.Op<5 then((0:Int),true)else if x.Op=12 then(1,true)else(2,true))=((if x.Op<5 then 0 else if x.Op=12 then 1 else 2),true):=by
  split
  ·rfl
  split<;>rfl
 rw[ha];rw[if_neg (by simp[N5])]
 by_cases h1:(x.cP.length:Int)≠(if x.Op<5 then 0 else if x.Op=12 then 1 else 2)
 ·rw[if_pos h1,if_pos (by simp[G2,A9,h1])]
 rw[if_neg h1,if_neg (by simp only[G2,A9];simpa using h1)]
 change (if Pc x=true then some 2 else _)=_
 by_cases h2:Pc x=true
 ·rw[if_pos h2,if_pos h2]
 rw[if_neg h2,if_neg h2]
 change (if MJ x=true then some 1 else _)=_
 by_cases h3:MJ x=true
 ·rw[if_pos h3,if_pos h3]
 rw[if_neg h3,if_neg h3];unfold Cl;rw[Jr]
 have e4:(Ar.or (Ar.cmp .eql x.Op 4) (Ar.cmp .eql x.Op 0)=true)↔(x.Op=4∨x.Op=0):=by simp[B8,I9]
 have e6:(Ar.cmp .eql x.Op 4=true)↔x.Op=4:=by simp[B8]
 by_cases h4:x.Op=4∨x.Op=0
 ·rw[if_pos (e4.2 h4)];simp only[Option.bind_some]
  by_cases h5:I0 x.Value=0
  ·have n5:¬(Ar.cmp .neq (I0 x.Value) 0=true):=by simp[G2,h5]
   have n5':¬((x.Op=4∨x.Op=0)∧I0 x.Value≠0):=fun h=>h.2 h5;rw[if_neg n5,if_neg n5']
   by_cases h6:x.Op=4
   ·rw[if_pos (e6.2 h6),WP];simp only[Option.bind_some]
    change (((if Fv x=true then some 9 else some 0):Option Int).bind _).bind _=_
    by_cases h7:Fv x=true
    ·rw[if_pos h7,if_pos (show x.Op=4∧Fv x=true from⟨h6,h7⟩)];rfl
    rw[if_neg h7,if_neg (show¬(x.Op=4∧Fv x=true)from fun h=>h7 h.2)]
    change (if Eu x=true then some 3 else some 0)=_
    by_cases h8:Eu x=true
    ·rw[if_pos h8,if_pos h8]
    rw[if_neg h8,if_neg h8]
   rw[if_neg (show¬(Ar.cmp .eql x.Op 4=true)from fun h=>h6 (e6.1 h)),if_neg (show¬(x.Op=4∧Fv x=true)from fun h=>h6 h.1)]
   change (if Eu x=true then some 3 else some 0)=_
   by_cases h8:Eu x=true
   ·rw[if_pos h8,if_pos h8]
   rw[if_neg h8,if_neg h8]
  have n5:Ar.cmp .neq (I0 x.Value) 0=true:=by simp[G2,h5]
  rw[if_pos n5,if_pos (show(x.Op=4∨x.Op=0)∧I0 x.Value≠0 from⟨h4,h5⟩)];simp only[Option.bind_some];rw[if_pos n5];rfl
 rw[if_neg (show¬(Ar.or (Ar.cmp .eql x.Op 4) (Ar.cmp .eql x.Op 0)=true)from fun h=>h4 (e4.1 h)),if_neg (show¬((x.Op=4∨x.Op=0)∧I0 x.Value≠0)from fun h=>h4 h.1)];have h6:¬x.Op=4:=fun e=>h4 (.inl e);rw[if_neg (show¬(x.Op=4∧Fv x=true)from fun h=>h6 h.1)]
 change (if Eu x=true then some 3 else some 0)=_
 by_cases h8:Eu x=true
 ·rw[if_pos h8,if_pos h8]
 rw[if_neg h8,if_neg h8]
end Go.Ab
namespace Go.Ab
theorem R3 {a b:Int}(h:b<a):Ar.cmp .gtr a b=true:=by rw[Q2];exact decide_eq_true h
theorem N2 {a b:Int}(h:¬b<a):¬(Ar.cmp .gtr a b=true):=by rw[Q2];simpa using h
theorem I7 {a b:Int}(h:a≠b):Ar.cmp .neq a b=true:=by rw[G2];simpa using h
theorem H9 {a b:Int}(h:a=b):¬(Ar.cmp .neq a b=true):=by rw[G2];simpa using h
noncomputable def K5 (x:B1):Int:=if 64<x.pre.length then 5 else if 12<x.dep then 12 else P5 Y4 x.pre
theorem Ot {N:Nat}(hN:40000000≤N){x:B1}(hb:x.bulk≤16777216):CI N x=some (K5 x):=by
 unfold CI K5;rw[UZ hN N x (by omega) hb];simp only[Option.bind_some]
 by_cases h1:64<x.pre.length
 ·rw[if_pos h1,if_pos (R3 (by omega))]
 rw[if_neg h1,if_neg (N2 (by omega))]
 by_cases h2:12<x.dep
 ·rw[if_pos h2,if_pos (R3 (by omega))]
 rw[if_neg h2,if_neg (N2 (by omega)),WJ hN N x (by omega) hb fun y _=>Xv N y];rfl
theorem Nf {N:Nat}(hN:40000000≤N){x:B1}(hb:x.bulk≤16777216):AQ N x=some (K5 x):=by
 unfold AQ K5;obtain⟨r,h0,c1,c2,c3⟩:=RH hN 64 N x (by omega) hb;rw[h0];simp only[Option.bind_some]
 by_cases h1:64<x.pre.length
 ·rw[if_pos h1,if_pos (R3 (by omega))]
 rw[if_neg h1,if_neg (N2 (by omega)),MZ hN N x (by omega) hb];simp only[Option.bind_some]
 by_cases h2:12<x.dep
 ·rw[if_pos h2,if_pos (R3 (by omega))]
 rw[if_neg h2,if_neg (N2 (by omega)),VI hN (fun y=>VJ N y) N x (by omega) hb];rfl
noncomputable def MN (a b:B1):Bool:=Ar.or (Ar.or (Ar.or (Ar.or (Ar.or (Ar.cmp .neq a.Op b.Op) (Ar.cmp .neq a.Var b.Var)) (Ar.cmp .neq a.Field b.Field)) (Ar.cmp .neq a.Kind b.Kind)) (Ar.nt (Ar.an (Ar.cmp .eql a.Value.Kind b.Value.Kind) (Ar.an (Ar.cmp .eql a.Value.Num b.Value.Num) (Ar.an (Ar.scmp .eql a.Value.Text b.Value.Text) true))))) (Ar.cmp .neq (Ar.len a.cP) (Ar.len b.cP))
theorem NN (N:Nat):∀(n:Nat) (a b:B1),Ea N n a b=Q7 N n a b
 |0,_,_=>rfl
 |n+1,a,b=>by
  unfold Ea Q7;simp only[NN N n]
theorem NM {N:Nat} (hN:40000000≤N) (x:B1):∃b,Q7 N N x (⟨0,[],0,0,0,(⟨0,0,⟨#[]⟩⟩:A5)⟩:B1)=some b:=by
 obtain⟨M,rfl⟩:∃M,N=M+1:=⟨N - 1,by omega⟩;rw[Q7];generalize hz:(⟨0,[],0,0,0,(⟨0,0,⟨#[]⟩⟩:A5)⟩:B1)=z
 change ∃b,(if MN x z=true then some false else _)=some b
 by_cases h:MN x z=true
 ·rw[if_pos h];exact⟨_,rfl⟩
 rw[if_neg h]
 have hlen:x.cP.length=0:=by
  subst hz
  simp only[MN,I9,G2,A9,List.length_nil]at h
  simp at h
  simpa using h.2
 have:x.cP=[]:=List.length_eq_zero_iff.1 hlen;refine⟨true,?_⟩;rw[show M+1=(M+1 - 1)+1 by omega];simp only[loopN,this,C1,A9];rfl
end Go.Ab
namespace Go.Ab
def Dn (u:Bool)(n m:Int):Bool:=u&&(decide (n<0)||decide (m<n))
def O0 (u:Bool)(n:Int):Bool:=u||decide (n=0)
theorem HI (N:Nat)(u:Bool)(n m:Int):R7 N u n m=some (!Dn u n m):=by
 unfold R7;simp only[I9,K1,N5,J1,Bg,Dn];cases u
 ·rfl
 by_cases h1:n<0<;>by_cases h2:m<n<;>simp[h1,h2]<;>omega
theorem US (N:Nat)(u:Bool)(n:Int):L5 N u n=some (O0 u n):=rfl
theorem Ai7 (N:Nat)(u:Bool)(n m:Int):Y9 N u n m=some (Dn u n m):=rfl
noncomputable def IL (s:J6)(x:A1)(sz:Bool):Int:=
 if Dn s.cS x.Typ 15=true then 2
 else if Dn s.cS x.Var 15=true then 2
 else if Dn s.scope x.cT 63=true then 2
 else if Dn s.span x.Span 1099511627776=true then 2
 else if s.cond=true∧K5 x.cR≠0 then K5 x.cR
 else if(s.cond||sz)=true∧O0 s.cS x.Typ=true∧O0 s.cS x.Var=true∧O0 s.scope x.cT=true∧O0 s.span x.Span=true then 0 else 3
structure Kc (N:Nat) (x:A1) (s:J6) (ng:Bool):Prop where
 tab:B6 G3 x.Op=some s
 var:V8 N x=some s.cS
 neg:X8 N x=some ng
 tim:U5 N x=some s.span
 con:Ap N x=some s.cond
 sco:s.scope=(ng||s.span)
 ari:Df N x=some (decide (s.cV≤x.cP.length∧(x.cP.length:Int)≤s.most))
theorem Ai0 (n k:Int):decide (n=k)=(decide (k≤n)&&decide (n≤k)):=by
 rw[←Bool.decide_and];exact decide_eq_decide.2 ⟨fun h=>by omega,fun h=>by omega⟩
theorem Me (N:Nat) (x:A1) (h0:0≤x.Op) (h1:x.Op≤10) (hl:x.cP.length≤64):∃s ng,Kc N x s ng:=by
 obtain⟨op,args,typ,var,scope,span,c⟩:=x
 simp only at h0 h1 hl
 have h:op=0∨op=1∨op=2∨op=3∨op=4∨op=5∨op=6∨op=7∨op=8∨op=9∨op=10:=by omega
 rcases h with h|h|h|h|h|h|h|h|h|h|h
 all_goals
  subst h;refine⟨_,_,rfl,rfl,rfl,rfl,rfl,rfl,?_⟩;unfold Df;simp only[B8,J1,A9];simp
  try first|omega|exact Ai0 _ _
theorem Am4 {x:A1}(h0:0≤x.Op)(h1:x.Op≤10):¬(Ar.or (Ar.cmp .lss x.Op 0) (Ar.cmp .geq x.Op 11)=true):=by
 simp only[I9,C1,J1,Bool.or_eq_true,decide_eq_true_eq];omega
theorem Ag2 {x:A1}(h0:0≤x.Op)(h1:x.Op≤10):¬(Ar.or (Ar.cmp .lss x.Op 0) (Ar.cmp .gtr x.Op 10)=true):=by
 simp only[I9,C1,Q2,Bool.or_eq_true,decide_eq_true_eq];omega
theorem Ac9 {x:A1}(h:¬(0≤x.Op∧x.Op≤10)):Ar.or (Ar.cmp .lss x.Op 0) (Ar.cmp .geq x.Op 11)=true∧Ar.or (Ar.cmp .lss x.Op 0) (Ar.cmp .gtr x.Op 10)=true:=by
 simp only[I9,C1,J1,Q2,Bool.or_eq_true,decide_eq_true_eq];omega
theorem Wj {N:Nat} (hN:40000000≤N) {x:A1} (hb:x.cR.bulk≤16777216) (h0:0≤x.Op) (h1:x.Op≤10) {s:J6} {ng:Bool} (hs:Kc N x s ng) {sz:Bool}
 (hz:Q7 N N x.cR (⟨0,[],0,0,0,(⟨0,0,⟨#[]⟩⟩:A5)⟩:B1)=some sz):
 Q9 N x=some (if s.cV≤x.cP.length∧(x.cP.length:Int)≤s.most then IL s x sz else 15):=by
 unfold Q9;rw[if_neg (Am4 h0 h1),hs.tab];simp only[Option.bind_some]
 by_cases ha:s.cV≤x.cP.length∧(x.cP.length:Int)≤s.most
 ·rw [if_pos ha,if_neg (by simp only[I9,C1,Q2,A9,Bool.or_eq_true,decide_eq_true_eq];omega)];rw[HI,HI,HI,HI,Ot hN hb,NN,hz];simp only[US,Option.bind_some];unfold IL;generalize Dn s.cS x.Typ 15=b1;generalize Dn s.cS x.Var 15=b2;generalize Dn s.scope x.cT 63=b3;generalize Dn s.span x.Span 1099511627776=b4;generalize O0 s.cS x.Typ=c1;generalize O0 s.cS x.Var=c2;generalize O0 s.scope x.cT=c3;generalize O0 s.span x.Span=c4;generalize K5 x.cR=ec
  cases b1 with
  |true=>rfl
  | false =>
   cases b2 with
   |true=>rfl
   | false =>
    cases b3 with
    |true=>rfl
    | false=>
     cases b4 with
     |true=>rfl
     | false=>
      cases s.cond with
      | false=>
       cases sz with
       |false=>rfl
       | true=>
        cases c1 with
        |false=>rfl
        | true=>
         cases c2 with
         |false=>rfl
         | true=>
          cases c3 with
          |false=>rfl
          |true=>
           cases c4<;>rfl
      | true=>
       by_cases he:ec=0
       ·subst he
        cases c1 with
        |false=>cases sz<;>rfl
        | true=>
         cases c2 with
         |false=>cases sz<;>rfl
         | true=>
          cases c3 with
          |false=>cases sz<;>rfl
          |true=>
           cases c4<;>cases sz<;>rfl
       simp[N5,I7 he,he]
 rw[if_neg ha,if_pos (by simp only[I9,C1,Q2,A9,Bool.or_eq_true,decide_eq_true_eq];omega)]
theorem MK (u:Bool)(n:Int):Ar.an (Ar.nt u) (Ar.cmp .neq n 0)= !O0 u n:=by
 simp only[K1,N5,G2,O0,Bool.not_or]
theorem Uv (u w:Bool)(t v sc:Int):Ar.or (Ar.an (Ar.nt u) (Ar.or (Ar.cmp .neq t 0) (Ar.cmp .neq v 0))) (Ar.an (Ar.nt w) (Ar.cmp .neq sc 0))=((!O0 u t|| !O0 u v)|| !O0 w sc):=by
 rw[MK];simp only[I9,K1,N5,G2,O0];cases u<;>simp
theorem Gs {N:Nat} (hN:40000000≤N) {x:A1} (hb:x.cR.bulk≤16777216) (h0:0≤x.Op) (h1:x.Op≤10) {s:J6} {ng:Bool} (hs:Kc N x s ng) {sz:Bool}
 (hz:Q7 N N x.cR (⟨0,[],0,0,0,(⟨0,0,⟨#[]⟩⟩:A5)⟩:B1)=some sz):
 V9 N x=some (if s.cV≤x.cP.length∧(x.cP.length:Int)≤s.most then IL s x sz else 15):=by
 unfold V9;rw[if_neg (Ag2 h0 h1),hs.ari,hs.var,hs.neg,hs.tim,hs.con,Nf hN hb,hz];simp only[Option.bind_some]
 by_cases ha:s.cV≤x.cP.length∧(x.cP.length:Int)≤s.most
 ·rw [if_pos ha,if_neg (by simp[N5,ha])];have sco:=hs.sco;simp only[Ai7,Option.bind_some];cases ng
  ·rw [if_neg (by simp)]
   simp only[Bool.false_or]at sco
   rw[Uv,MK];unfold IL;rw[sco];generalize Dn s.cS x.Typ 15=b1;generalize Dn s.cS x.Var 15=b2;generalize Dn s.span x.cT 63=b3;generalize Dn s.span x.Span 1099511627776=b4;generalize O0 s.cS x.Typ=c1;generalize O0 s.cS x.Var=c2;generalize O0 s.span x.cT=c3;generalize O0 s.span x.Span=c4;generalize K5 x.cR=ec
   cases b1 with
   |true=>rfl
   | false=>
    cases b2 with
    |true=>rfl
    | false=>
     cases b3 with
     |true=>rfl
     | false=>
      cases b4 with
      |true=>rfl
      | false=>
       cases s.cond with
       |false=>cases sz<;>cases c1<;>cases c2<;>cases c3<;>cases c4<;>rfl
       |true=>
        by_cases he:ec=0
        ·subst he;cases sz<;>cases c1<;>cases c2<;>cases c3<;>cases c4<;>rfl
        simp[I7 he,he]
  rw[if_pos rfl]
  simp only[Bool.true_or]at sco
  rw[Uv,MK];unfold IL;rw[sco];generalize Dn s.cS x.Typ 15=b1;generalize Dn s.cS x.Var 15=b2;generalize Dn true x.cT 63=b3;generalize Dn s.span x.Span 1099511627776=b4;generalize O0 s.cS x.Typ=c1;generalize O0 s.cS x.Var=c2;generalize O0 true x.cT=c3;generalize O0 s.span x.Span=c4;generalize K5 x.cR=ec
  cases b1 with
  |true=>rfl
  | false=>
   cases b2 with
   |true=>rfl
   | false=>
    cases b3 with
    |true=>rfl
    | false=>
     cases b4 with
     |true=>rfl
     | false=>
      cases s.cond with
      |false=>cases sz<;>cases c1<;>cases c2<;>cases c3<;>cases c4<;>rfl
      |true=>
       by_cases he:ec=0
       ·subst he;cases sz<;>cases c1<;>cases c2<;>cases c3<;>cases c4<;>rfl
       simp[I7 he,he]
 rw[if_neg ha,if_pos (by simp only[N5,decide_eq_false ha];rfl)]
end Go.Ab
namespace Go.Ab
mutual
theorem EW :∀(x y:A1),y∈x.pre→y.bulk≤x.bulk∧y.pre.length≤x.pre.length
 |⟨op,args,typ,var,scope,span,c⟩,y,h=>by
  rw[A1.pre]at h
  rcases List.mem_cons.1 h with rfl|h
  ·exact⟨Nat.le_refl _,Nat.le_refl _⟩
  have:=MB args y h;simp only[A1.bulk,A1.pre,List.length_cons];omega
theorem MB :∀(l:List A1) (y:A1),y∈A1.pres l→y.bulk≤A1.bulks l∧y.pre.length≤(A1.pres l).length
 |[],y,h=>by simp[A1.pres]at h
 |a::l,y,h=>by
  rw[A1.pres]at h
  rcases List.mem_append.1 h with h|h
  ·have:=EW a y h;simp only[A1.bulks,A1.pres,List.length_append];omega
  have:=MB l y h;simp only[A1.bulks,A1.pres,List.length_append];omega
end
theorem Ov :∀l:List A1,l.length≤(A1.pres l).length
 |[]=>Nat.le_refl _
 |a::l=>by
  have:=Ov l;simp only[A1.pres,A1.pre_eq a,List.length_append,List.length_cons];omega
theorem BF (x:A1):x.cP.length<x.pre.length:=by
 rw[A1.pre_eq];have:=Ov x.cP;simp only[List.length_cons];omega
noncomputable def Bc (N:Nat)(y:A1):Int:=(V9 N y).getD 0
theorem DX {N:Nat} (hN:40000000≤N) {y:A1} (hb:y.bulk≤16777216) (hl:y.cP.length≤64):Q9 N y=some (Bc N y)∧V9 N y=some (Bc N y):=by
 have hc:y.cR.bulk≤16777216:=by have:=A1.bulk_eq y;omega
 have key:∃r,Q9 N y=some r∧V9 N y=some r:=by
  by_cases h:0≤y.Op∧y.Op≤10
  ·obtain⟨s,ng,hs⟩:=Me N y h.1 h.2 hl;obtain⟨sz,hz⟩:=NM hN y.cR;exact⟨_,Wj hN hc h.1 h.2 hs hz,Gs hN hc h.1 h.2 hs hz⟩
  obtain⟨h1,h2⟩:=Ac9 h;exact⟨1,by unfold Q9;rw[if_pos h1],by unfold V9;rw[if_pos h2]⟩
 obtain⟨r,h1,h2⟩:=key
 have e:Bc N y=r:=by unfold Bc;rw[h2];rfl
 rw[e];exact⟨h1,h2⟩
noncomputable def O6 (N:Nat)(x:A1):Int:=if 64<x.pre.length then 5 else if 12<x.dep then 12 else P5 (Bc N) x.pre
theorem Hi {N:Nat}(hN:40000000≤N){x:A1}(hb:x.bulk≤16777216):Q8 N x=some x.pre:=by
 unfold Q8 Af;rw[YQ hN N x (by omega) hb];simp[N6]
theorem Ze {N:Nat}(hN:40000000≤N){x:A1}(hb:x.bulk≤16777216):X4 N x=some (O6 N x):=by
 unfold X4 O6;rw[YX hN N x (by omega) hb];simp only[Option.bind_some]
 by_cases h1:64<x.pre.length
 ·rw[if_pos h1,if_pos (R3 (by omega))]
 rw[if_neg h1,if_neg (N2 (by omega))]
 by_cases h2:12<x.dep
 ·rw[if_pos h2,if_pos (R3 (by omega))]
 rw[if_neg h2,if_neg (N2 (by omega)),Hi hN hb];simp only[Option.bind_some];rw[NT (f:=Bc N) fun y hy=>(DX hN (by have:=EW x y hy;omega) (by have:=EW x y hy;have:=BF y;omega)).1]
 by_cases h3:P5 (Bc N) x.pre=0
 ·rw[if_pos h3];simp[h3]
 rw[if_neg h3];rfl
theorem Xj {N:Nat} (hN:40000000≤N) {x:A1} (hb:x.bulk≤16777216):Aq N x=some (O6 N x):=by
 unfold Aq O6;obtain⟨r,h0,c1,c2,c3⟩:=Qe hN 64 N x (by omega) hb;rw[h0];simp only[Option.bind_some]
 by_cases h1:64<x.pre.length
 ·rw[if_pos h1,if_pos (R3 (by omega))]
 rw[if_neg h1,if_neg (N2 (by omega)),RF hN N x (by omega) hb];simp only[Option.bind_some]
 by_cases h2:12<x.dep
 ·rw[if_pos h2,if_pos (R3 (by omega))]
 rw[if_neg h2,if_neg (N2 (by omega)),Mw hN N x (by omega) hb];simp only[Option.bind_some];rw[F2 x.pre (by omega) (mk:=fun(_:Unit) i=>i) (body:=Y3 (V9 N)) (fin:=fun _=>.inl ()) (s:=()) (by omega) ?_ ?_]
 ·rw[V0 (f:=Bc N) fun y hy=>(DX hN (by have:=EW x y hy;omega) (by have:=EW x y hy;have:=BF y;omega)).2]
  by_cases h3:P5 (Bc N) x.pre=0
  ·simp[h3]
  simp[h3]
 ·intro s i a ha hi;have e:Ar.ar .add .i64 (i:Int) 1=i+1:=C4 (by omega) (by omega);simp only[C1,A9,hi,decide_true,if_true,C5,ha,Option.bind_some,e,Y3,G2]
  cases V9 N a with
  |none=>rfl
  |some r=>by_cases h:r=0<;>simp[h]
 intro s;simp[C1,A9]
end Go.Ab
namespace Go.Ab
def Good (N:Nat)(x:A1):Prop:=∀y∈x.pre,Bc N y=0
theorem IC {a y:A1} (hy:y∈a.pre):∀l:List A1,a∈l→y∈A1.pres l
 |[],h=>by simp at h
 |b::l,h=>by
  rcases List.mem_cons.1 h with rfl|h
  ·simp[A1.pres,hy]
  simp[A1.pres,IC hy l h]
theorem Good.arg {N:Nat}{x a:A1}(h:Good N x)(ha:a∈x.cP):Good N a:=fun y hy=>h y (by
 rw[A1.pre_eq];exact List.mem_cons_of_mem _ (IC hy _ ha))
theorem O9 {x a:A1}(ha:a∈x.cP):a.pre.length<x.pre.length:=by
 have:=(MB x.cP a (IC (by rw[A1.pre_eq];simp) _ ha)).2;rw[A1.pre_eq x];simp only[List.length_cons];omega
theorem YA {N:Nat} (hN:40000000≤N) {y:A1} (hb:y.bulk≤16777216) (hl:y.cP.length≤64) (h:Bc N y=0) (ho:y.Op=1∨y.Op=7∨y.Op=8∨y.Op=9∨y.Op=10):∃a r,y.cP=a::r:=by
 have hc:y.cR.bulk≤16777216:=by have:=A1.bulk_eq y;omega
 obtain⟨s,ng,hs⟩:=Me N y (by omega) (by omega) hl;obtain⟨sz,hz⟩:=NM hN y.cR;have h1:=Gs hN hc (by omega) (by omega) hs hz
 rw[(DX hN hb hl).2,h]at h1
 have h2:s.cV≤y.cP.length:=by
  have h1:=Option.some.inj h1
  by_cases hc:s.cV≤y.cP.length∧(y.cP.length:Int)≤s.most
  ·exact hc.1
  rw[if_neg hc]at h1;cases h1
 have h3:1≤s.cV:=by
  have ht:=hs.tab
  rcases ho with h|h|h|h|h<;>rw[h]at ht<;>cases ht<;>decide
 match he:y.cP,h2 with
 |[],h2=>simp at h2;omega
 |a::r,_=>exact⟨a,r,rfl⟩
theorem few8 {N:Nat}(hN:40000000≤N){x:B1}(hb:x.bulk≤16777216):∃b,BT N x=some b:=by
 unfold BT;obtain⟨r,h0,_⟩:=RH hN 200 N x (by omega) hb;rw[h0];simp only[Option.bind_some]
 split
 ·rw[MZ hN N x (by omega) hb];exact⟨_,rfl⟩
 exact⟨_,rfl⟩
theorem Hf {α:Type} {F:α→Option Bool}:∀(l:List α),(∀a∈l,∃b,F a=some b)→∃o,H5 (fun(_:Unit) a=>(F a).bind fun r=>if Ar.nt r=true then some (Sum.inr (Sum.inr (α:=Unit) ()))else some (.inl ())) l ()=some o
 |[],_=>⟨_,rfl⟩
 |a::l,h=>by
  obtain⟨b,hb⟩:=h a (by simp);unfold H5;rw[hb]
  cases b with
  |false=>exact⟨_,rfl⟩
  |true=>exact Hf l fun a ha=>h a (by simp[ha])
theorem few9 {N:Nat} (hN:40000000≤N) {x:A1} (hb:x.bulk≤16777216):∃b,Fz N x=some b:=by
 unfold Fz;obtain⟨r,h0,_⟩:=Qe hN 150 N x (by omega) hb;rw[h0];simp only[Option.bind_some]
 split
 ·exact⟨_,rfl⟩
 rw[RF hN N x (by omega) hb];simp only[Option.bind_some]
 split
 ·exact⟨_,rfl⟩
 rw[Mw hN N x (by omega) hb];simp only[Option.bind_some];have hp:=El x;rw[F2 x.pre (by omega) (mk:=fun(_:Unit) i=>i) (body:=fun(_:Unit) a=>(BT N a.cR).bind fun r=>if Ar.nt r=true then some (.inr (.inr ()))else some (.inl ())) (fin:=fun _=>.inl ()) (s:=()) (by omega) ?_ ?_]
 ·obtain⟨o,ho⟩:=Hf (F:=fun(a:A1)=>BT N a.cR) x.pre fun a ha=>few8 hN (by have:=(EW x a ha).1;have:=A1.bulk_eq a;omega);rw[ho]
  cases o with
  |inl _=>exact⟨_,rfl⟩
  |inr o=>cases o<;>exact⟨_,rfl⟩
 ·intro s i a ha hi;have e:Ar.ar .add .i64 (i:Int) 1=i+1:=C4 (by omega) (by omega);simp only[C1,A9,hi,decide_true,if_true,C5,ha,Option.bind_some,e]
  cases BT N a.cR with
  |none=>rfl
  |some r=>cases r<;>rfl
 intro s;simp[C1,A9]
end Go.Ab
namespace Go.Ab
theorem MH {S R:Type} {step:S→Option (S ⊕ R)} (I:Nat→S→Prop) (Q:R→Prop):∀(k i:Nat) (s:S) (N:Nat),k<N→I i s→
 (∀j s,i≤j→j<i+k→I j s→∃o,step s=some o∧(match o with| .inl s'=>I (j+1) s'| .inr r=>Q r))→
 (∀s,I (i+k) s→∃r,step s=some (.inr r)∧Q r)→∃r,loopN step N s=some r∧Q r
 |0,i,s,N,hN,h0,_,he=>by
  obtain⟨N,rfl⟩:∃M,N=M+1:=⟨N - 1,by omega⟩;obtain⟨r,h1,h2⟩:=he s h0;exact⟨r,by simp only[loopN,h1],h2⟩
 | k+1,i,s,N,hN,h0,hs,he=>by
  obtain⟨N,rfl⟩:∃M,N=M+1:=⟨N - 1,by omega⟩;obtain⟨o,h1,h2⟩:=hs i s (Nat.le_refl _) (by omega) h0
  cases o with
  |inl s'=>
   obtain⟨r,h3,h4⟩:=MH I Q k (i+1) s' N (by omega) h2 (fun j s a b c=>hs j s (by omega) (by omega) c) (fun s h=>he s (by rw[show i+(k+1)=i+1+k by omega];exact h));exact⟨r,by simp only[loopN,h1,h3],h4⟩
  |inr r=>exact⟨r,by simp only[loopN,h1],h2⟩
noncomputable instance :DecidableEq B1:=Classical.typeDecidableEq _
noncomputable instance :DecidableEq A1:=Classical.typeDecidableEq _
noncomputable instance :DecidableEq Ke:=Classical.typeDecidableEq _
noncomputable instance :DecidableEq PJ:=Classical.typeDecidableEq _
noncomputable instance :DecidableEq J8:=Classical.typeDecidableEq _
theorem Ux {i:Nat}(h:i<1000000000000):Ar.ar .add .i64 (i:Int) 1=((i+1:Nat):Int):=by rw[C4 (by omega) (by omega)];omega
theorem Aa1 {α:Type} [DecidableEq α] {N:Nat} (l m:List α) (hl:l.length=m.length) (hs:l.length<1000000000000) (f:α→α→Option Bool) (hf:∀x∈l,∀y∈m,f x y=some (decide (x=y))) (hN:l.length<N):
 loopN (fun(i:Int)=>if Ar.cmp .lss i (Ar.len l)=true then(B6 l i).bind fun x=>(B6 m i).bind fun y=>(f x y).bind fun r=>if Ar.nt r=true then some (Sum.inr (Sum.inr (α:=Unit) ()))else some (.inl (Ar.ar .add .i64 i 1))else some (.inr (.inl ()))) N 0=some (if l=m then .inl ()else .inr ()):=by
 obtain⟨r,h1,h2⟩:=MH (step:=fun(i:Int)=>if Ar.cmp .lss i (Ar.len l)=true then(B6 l i).bind fun x=>(B6 m i).bind fun y=>(f x y).bind fun r=>if Ar.nt r=true then some (Sum.inr (Sum.inr (α:=Unit) ()))else some (.inl (Ar.ar .add .i64 i 1))else some (.inr (.inl ())))
  (fun j s=>s=(j:Int)∧l.take j=m.take j) (fun r=>r=if l=m then .inl ()else .inr ()) l.length 0 0 N hN ⟨rfl,by simp⟩
  (fun j s _ hj ⟨e,ht⟩=>by
   subst e
   simp only[Nat.zero_add]at hj
   have hj2:j<m.length:=by omega
   have e1:l[j]? =some l[j]:=by simp[hj]
   have e2:m[j]? =some m[j]:=by simp[hj2]
   simp only[C1,A9,show((j:Int)<(l.length:Int)) by omega,decide_true,if_true,C5,e1,e2,Option.bind_some,hf _ (List.getElem_mem hj) _ (List.getElem_mem hj2)]
   by_cases h:l[j]=m[j]
   ·simp only[h,decide_true,N5,Bool.not_true,Bool.false_eq_true,if_false];refine⟨_,rfl,Ux (by omega),?_⟩;rw[List.take_add_one,List.take_add_one,ht,e1,e2,h]
   simp only[h,decide_false,N5,Bool.not_false,if_true];refine⟨_,rfl,?_⟩
   rw[if_neg fun he=>h (by subst he;rfl)])
  (fun s ⟨e,ht⟩=>by
   subst e
   simp only[Nat.zero_add]at ht ⊢
   refine⟨.inl (),by simp[C1,A9],?_⟩
   rw[List.take_length,hl,List.take_length]at ht
   rw[if_pos ht])
 rw[h1,h2]
theorem JM {a b:B1}:a=b↔(a.Op=b.Op∧a.Var=b.Var∧a.Field=b.Field∧a.Kind=b.Kind∧a.Value=b.Value)∧a.cP=b.cP:=by
 cases a;cases b;simp;constructor
 ·rintro⟨h1,h2,h3,h4,h5,h6⟩;exact⟨⟨h1,h3,h4,h5,h6⟩,h2⟩
 rintro⟨⟨h1,h3,h4,h5,h6⟩,h2⟩;exact⟨h1,h2,h3,h4,h5,h6⟩
theorem VT {a b:A5}:a=b↔a.Kind=b.Kind∧a.Num=b.Num∧a.Text=b.Text:=by cases a;cases b;simp
theorem Og (a b:B1):MN a b=true↔¬((a.Op=b.Op∧a.Var=b.Var∧a.Field=b.Field∧a.Kind=b.Kind∧a.Value=b.Value)∧a.cP.length=b.cP.length):=by
 simp only[MN,I9,K1,N5,G2,B8,CX,A9,VT,Bool.or_eq_true,Bool.not_eq_true',decide_eq_false_iff_not,Bool.and_eq_false_iff,Bool.and_true,decide_eq_true_eq,Classical.not_and_iff_not_or_not]
 constructor
 ·rintro(((((h|h)|h)|h)|h)|h)
  ·simp[h]
  ·simp[h]
  ·simp[h]
  ·simp[h]
  ·rcases h with h|h|h<;>simp[h]
  right;omega
 rintro((h|h|h|h|h)|h)
 ·simp[h]
 ·simp[h]
 ·simp[h]
 ·simp[h]
 ·rcases h with h|h|h<;>simp[h]
 right;omega
theorem Ac5 {N:Nat} (hN:40000000≤N):∀(n:Nat) (a b:B1),a.bulk≤n→a.bulk≤16777216→Q7 N n a b=some (decide (a=b)):=by
 intro n
 induction n with
 |zero=>intro a b h;have:=CN a;omega
 | succ n ih=>
  intro a b hx hb;have hl:=Et a;unfold Q7
  change (if MN a b=true then some false else _)=_
  by_cases h:MN a b=true
  ·rw[if_pos h]
   rw[Og]at h
   rw[decide_eq_false];intro e;exact h ⟨(JM.1 e).1,by rw[(JM.1 e).2]⟩
  rw[if_neg h]
  rw[Og,Classical.not_not]at h
  rw[Aa1 a.cP b.cP h.2 (by omega) _ (fun x hx y hy=>ih x y (by have:=X9 hx;omega) (by have:=X9 hx;omega)) (by omega)];simp only[Option.bind_some]
  by_cases he:a.cP=b.cP
  ·rw[if_pos he,decide_eq_true (JM.2 ⟨h.1,he⟩)]
  rw[if_neg he,decide_eq_false fun e=>he (JM.1 e).2]
structure Arity (y:A1):Prop where
 op:0≤y.Op∧y.Op≤10
 ev:y.Op=0→y.cP=[]
 two:1≤y.Op→y.Op≤3→2≤y.cP.length
 one:4≤y.Op→y.Op≠8→∃a,y.cP=[a]
 more:y.Op=8→∃a b,y.cP=[a,b]
end Go.Ab
namespace Go.Ab
abbrev Pr :=Ke×J8
def zE :B1:=⟨0,[],0,0,0,⟨0,0,⟨#[]⟩⟩⟩
def zP :A1:=⟨0,[],0,0,0,0,zE⟩
def nd (op:Int)(args:List A1):A1:=⟨op,args,0,0,0,0,zE⟩
def Ae0 :J8:=⟨true,zP⟩
def Ad5 (op:Int)(l:List A1):A1:=match l with|[x]=>x|l=>nd op l
def An9 (r:J8)(more:List A1):J8:=
 match(if r.done=true then more else r.p::more)with
 |[]=>Ae0
 |l=>⟨false,Ad5 1 l⟩
def An4 (args:List A1)(i:Nat)(r:J8):J8:=
 ⟨false,Ad5 3 (if r.done=true then args.take i++args.drop (i+1)else args.set i r.p)⟩
def Esz (e:Ke)(k:Nat):Prop:=e.Opens.length≤k∧e.Closes.length≤k∧e.Checks.length≤k∧e.Limits.length≤k∧e.Inside.length≤k
def Al9 (p:A1) (x:Ke) (done opens:Bool):Ke:=
 {x with
  Opens:=if opens=true then p.cT::x.Opens else x.Opens
  Inside:=if p.Op=5∨p.Op=9 then p.cT::x.Inside else x.Inside
  Limits:=if p.Op=5∨p.Op=9 then x.Limits else⟨p.cT,p.Span⟩::x.Limits
  Closes:=if done=true then x.Closes++[p.cT]else x.Closes}
def rep (again:A1)(y:Pr):List Pr:=
 if y.2.done=true then[y,(y.1,⟨false,again⟩)]else match again.cP with|b::_=>[(y.1,⟨false,nd 8 [y.2.p,b]⟩)]|[]=>[]
def innE (x:A1)(y:Pr):Ke:=
 if x.Op=7 then(if y.2.done=true then{y.1 with Checks:=y.1.Checks++[x.cR]}else y.1)
 else Al9 x y.1 y.2.done (if x.Op=5∨x.Op=9 then decide (x.Op=5)else decide (x.Op=6))
def An6 (x:A1):Int:=if x.Op=7 then 7 else if x.Op=5∨x.Op=9 then 9 else 10
def innR (x:A1)(r:J8):J8:=if r.done=true then r else{r with p:={x with Op:=An6 x,cP:=[r.p]}}
def inn (x:A1)(y:Pr):Pr:=(innE x y,innR x y.2)
def comb (x:A1)(ls:List (List Pr)):List Pr:=
 if x.Op=0 then[(⟨0,0,x.Var,x.Typ,x.cR,[],[],[],[],[]⟩,Ae0)]
 else if x.Op=1 then(ls.headD []).map fun y=>(y.1,An9 y.2 (x.cP.drop 1))
 else if x.Op=2 then(List.range x.cP.length).flatMap fun i=>ls.getD i []
 else if x.Op=3 then(List.range x.cP.length).flatMap fun i=>(ls.getD i []).map fun y=>(y.1,An4 x.cP i y.2)
 else if x.Op=4 then(ls.headD []).flatMap (rep x)
 else if x.Op=8 then(ls.headD []).flatMap (rep (nd 4 (x.cP.drop 1)))
 else(ls.headD []).map (inn x)
mutual
def raw :A1→List Pr
 |⟨op,args,typ,var,scope,span,c⟩=>comb ⟨op,args,typ,var,scope,span,c⟩ (raws args)
def raws :List A1→List (List Pr)
 |[]=>[]
 |a::l=>raw a::raws l
end
theorem Esz.mono {e:Ke}{k m:Nat}(h:Esz e k)(hm:k≤m):Esz e m:=by obtain⟨h1,h2,h3,h4,h5⟩:=h;exact⟨by omega,by omega,by omega,by omega,by omega⟩
end Go.Ab
namespace Go.Ab
end Go.Ab
namespace Go.Ab
structure TD (B:Nat) (R:Nat) (y:Pr):Prop where
 from0:y.1.From=0
 to0:y.1.To=0
 done:y.2.done=true→y.2.p=zP
 cond:y.1.cR.bulk≤B
 checks:∀c∈y.1.Checks,c.bulk≤B
 rest:y.2.p.bulk≤R
theorem TD.mono {B R B' R':Nat}{y:Pr}(h:TD B R y)(hB:B≤B')(hR:R≤R'):TD B' R' y:=⟨h.from0,h.to0,h.done,Nat.le_trans h.cond hB,fun c hc=>Nat.le_trans (h.checks c hc) hB,Nat.le_trans h.rest hR⟩
def wth {α:Type}[DecidableEq α](l:List α)(x:α):List α:=if x∈l then l else l++[x]
def dd {α:Type}[DecidableEq α](l:List α):List α:=l.foldl wth []
section
variable {α:Type}[DecidableEq α]
theorem Ai1 (l m:List α):dd (l++m)=m.foldl wth (dd l):=by simp[dd,List.foldl_append]
end
end Go.Ab
