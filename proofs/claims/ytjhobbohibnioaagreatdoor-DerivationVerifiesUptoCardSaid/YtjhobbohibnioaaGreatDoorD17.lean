/- AbG1 AbI1 AbM1 AbG2 AbG3 GVBk GVM1 GVM2 GVM3 GVM4 GVM5 GVM6 GVM7 GVN1 GVD1 GVD2 GVD3 GVD4 GVD5 GVD6 -/
import Derived.Test.YtjhobbohibnioaaGreatDoorD16
import Derived.Deep.Slices
import Derived.Carry
import Derived.Lib.LaidTab
import Derived.Laws.Strings
set_option linter.all false
namespace Go.Ab
open Go.RowKit Go.ChangeShapes Go.WideShapes
variable [J9]
def g0 (W:World):Gh:=⟨fun _=>none,fun _=>⟨0,0,0⟩,fun _=>none,fun b o=>∃v,W.cell? ⟨b,o,none⟩=some v,0,W.heap.size⟩
theorem rl0 {W:World}(hg:∀n,VR (g0 W) W (.pointer (some ⟨n,0,none⟩)) (J9.gl n)):Rl (g0 W) (fun _=>none) W:=
 ⟨fun id b h=>(by cases h),fun id id' b h=>(by simp[Gh.at]at h),fun b o h=>h,fun id _=>⟨rfl,rfl,rfl⟩,Nat.le_refl _,hg⟩
def Dr (g:Gh)(w:World)(cs:List Value)(xs:List V):Prop:=
 cs.length=xs.length∧∀i,i<xs.length→(cs.getD i undef).oneCell'=true∧VR g w (cs.getD i undef) (xs.getD i .bad)
theorem Dr.nil (g:Gh)(w:World):Dr g w [] []:=⟨rfl,fun i hi=>by simp at hi⟩
theorem Dr.one {g:Gh}{w:World}{v:Value}{x:V}(h1:v.oneCell'=true)(h:VR g w v x):Dr g w [v] [x]:=by
 refine⟨rfl,fun i hi=>?_⟩
 have:i=0:=by simpa using hi
 subst this;exact⟨h1,h⟩
theorem Dr.append {g:Gh} {w:World} {cs ds:List Value} {xs ys:List V} (h:Dr g w cs xs) (k:Dr g w ds ys):Dr g w (cs++ds) (xs++ys):=by
 refine⟨by simp[h.1,k.1],fun i hi=>?_⟩;have hl:=h.1
 simp only[List.length_append]at hi
 by_cases hx:i<xs.length
 ·have e1:(cs++ds).getD i undef=cs.getD i undef:=by simp[List.getD,List.getElem?_append_left (show i<cs.length by omega)]
  have e2:(xs++ys).getD i .bad=xs.getD i .bad:=by simp[List.getD,List.getElem?_append_left hx]
  rw[e1,e2];exact h.2 i hx
 have e1:(cs++ds).getD i undef=ds.getD (i - xs.length) undef:=by simp[List.getD,List.getElem?_append_right (show cs.length≤i by omega),hl]
 have e2:(xs++ys).getD i .bad=ys.getD (i - xs.length) .bad:=by simp[List.getD,List.getElem?_append_right (show xs.length≤i by omega)]
 rw[e1,e2];exact k.2 _ (by omega)
theorem Dr.join {g:Gh}{w:World}{cs:List Value}{xs ys:List V}{a n m:Nat}(h:Dr g w ((cs.drop a).take n) xs)(k:Dr g w ((cs.drop (a+n)).take m) ys):Dr g w ((cs.drop a).take (n+m)) (xs++ys):=by
 have:=h.append k
 rwa[show(cs.drop (a+n))=(cs.drop a).drop n by rw[List.drop_drop],←List.take_add]at this
theorem Dr.agg {g:Gh} {w:World} {cs:Array Value} {xs:List V} (h:Dr g w cs.toList xs):VR g w (.agg cs) (.agg xs):=by
 refine .agg (by simpa using h.1) (fun i hi=>?_) fun i hi=>?_
 ·have:=(h.2 i hi).1
  simpa[List.getD,Array.getD_eq_getD_getElem?]using this
 have:=(h.2 i hi).2
 simpa[List.getD,Array.getD_eq_getD_getElem?]using this
section
variable {H α:Type}{enc:TypeId×Value→H}{P:Program}{W:World}{base:Nat}{spare:Nat→Bool}{held:Bool}{t e:TypeId}{n:Nat}
def Y8 (enc:TypeId×Value→H)(P:Program)(W:World)(base:Nat)(spare:Nat→Bool)(held:Bool)(t:TypeId)(f:α→V)(R:α→DataW H→Prop)(n:Nat):Prop:=
 ∀cs x,DataW.trod enc P W base spare held n t cs=some x→∃a,Dr (g0 W) W cs (f a).cells∧R a x.1
theorem Lm {k:IntKind}(ht:P.underlying t=some (.int k)):Y8 enc P W base spare held t (V.int k) (fun a d=>d= .lit (.int k a)) n:=by
 intro cs x h;obtain⟨a,rfl,rfl,_⟩:=DataW.trod_int ht h;exact⟨a,.one rfl (.int _ _),rfl⟩
theorem GE (ht:P.underlying t=some .bool):Y8 enc P W base spare held t V.bool (fun a d=>d= .lit (.bool a)) n:=by
 intro cs x h;obtain⟨a,rfl,rfl⟩:=DataW.trod_bool ht h;exact⟨a,.one rfl (.bool _),rfl⟩
theorem WZ (ht:P.underlying t=some .string):Y8 enc P W base spare held t V.str (fun a d=>d= .lit (.string a.data.toList)∧a.size≤maxLen) n:=by
 intro cs x h;obtain⟨a,rfl,rfl,hl⟩:=DataW.trod_string ht h;exact⟨a,.one rfl (.str _),rfl,hl⟩
def RL (R:α→DataW H→Prop)(l:List α)(ds:List (DataW H)):Prop:=l.length=ds.length∧∀(i:Nat) a d,l[i]? =some a→ds[i]? =some d→R a d
def RS (R:α→DataW H→Prop)(l:List α)(d:DataW H):Prop:=l.length≤maxLen∧((d= .nil∧l=[])∨∃es sp,d= .slice es sp∧RL R l es)
theorem DI {f:α→V} {R:α→DataW H→Prop} (ht:P.underlying t=some (.slice e)) (hc:0<P.cellsOf e) (he:Y8 enc P W base spare held e f R n):
 Y8 enc P W base spare held t (fun l:List α=>.sl (l.map f) .ro) (RS R) (n+1):=by
 intro cs x h
 rcases DataW.trod_slice ht h with⟨rfl,rfl⟩|⟨a,len,cap,elems,rest,n',hn,rfl,rfl,hb,hl,hm,hlen,hel,hsp,hns⟩
 ·exact⟨[],.one rfl (.sl0 rfl),Nat.zero_le _,.inl ⟨rfl,rfl⟩⟩
 have hn':n'=n:=by omega
 subst hn'
 rcases Nat.eq_zero_or_pos len with h0|h0
 ·subst h0;have:elems=[]:=List.length_eq_zero_iff.1 hlen;subst this;exact⟨[],.one rfl (.sle (.inl rfl)),Nat.zero_le _,.inr ⟨_,_,rfl,rfl,fun i a d hi=>by simp at hi⟩⟩
 have one:∀i,i<len→∃cs' y b,W.cells? base (a.add (i*P.cellsOf e)) (P.cellsOf e)=some cs'∧elems[i]? =some y∧Dr (g0 W) W cs' (f b).cells∧R b y.1:=by
  intro i hi;have h1:=hel i hi
  have h2:elems[i]? =some (elems[i]'(by omega)):=by simp[hlen,hi]
  rw[h2]at h1
  obtain⟨cs',hcs,hy⟩:=Option.bind_eq_some_iff.1 h1;obtain⟨b,hr,hR⟩:=he cs' _ hy;exact⟨cs',_,b,hcs,h2,hr,hR⟩
 obtain⟨_,_,b0,_⟩:=one 0 h0
 haveI:Inhabited α:=⟨b0⟩
 obtain⟨A,hA⟩:=Deep.choose_lt (α:=α) (p:=fun i b=>∃cs' y,W.cells? base (a.add (i*P.cellsOf e)) (P.cellsOf e)=some cs'∧elems[i]? =some y∧Dr (g0 W) W cs' (f b).cells∧R b y.1)
  (fun i hi=>let⟨cs',y,b,h1,h2,h3,h4⟩:=one i hi;⟨b,cs',y,h1,h2,h3,h4⟩)
 have hspot:a.spot=none:=by
  obtain⟨cs',y,h1,_,_,_⟩:=hA 0 h0;obtain⟨_,hcl,hcell⟩:=World.cells?_some h1;have h2:=hcell 0 hc
  have e0:(a.add (0*P.cellsOf e)).add 0=a:=by simp[Addr.add]
  rw[e0]at h2
  have h3:cs'[0]? =some (cs'[0]'(by omega)):=by simp[hcl,hc]
  rw[h3]at h2
  unfold World.cell? at h2
  split at h2
  ·split at h2
   ·cases h2
   rename_i hs;simpa using hs
  cases h2
 obtain⟨b,o,s⟩:=a
 simp only at hspot
 subst hspot
 let l:=(List.range len).map A
 have hll:l.length=len:=by simp[l]
 have hg:∀i,i<len→(l.map f).getD i .bad=f (A i):=fun i hi=>by simp[l,List.getD,hi]
 have cell:∀i j,i<len→j<P.cellsOf e→∃v,W.cell? ⟨b,o+i*P.cellsOf e+j,none⟩=some v∧v.oneCell'=true∧VR (g0 W) W v ((f (A i)).cells.getD j .bad):=by
  intro i j hi hj;obtain⟨cs',y,h1,_,hr,_⟩:=hA i hi;obtain⟨_,hcl,hcell⟩:=World.cells?_some h1;have h2:=hcell j hj
  rw[W2,W2]at h2
  have h3:cs'[j]? =some (cs'.getD j undef):=by simp[List.getD,hcl,hj]
  rw[h3]at h2
  have:=hr.2 j (by rw[←hr.1,hcl];exact hj);exact⟨_,h2,this.1,this.2⟩
 refine⟨l,.one rfl ?_,by omega,.inr ⟨_,_,rfl,by simp[hll,hlen],fun i a' d hi hd=>?_⟩⟩
 ·have hz:∀i,i<len→((l.map f).getD i .bad).cells.length=P.cellsOf e:=fun i hi=>by
   obtain⟨cs',y,h1,_,hr,_⟩:=hA i hi;obtain⟨_,hcl,_⟩:=World.cells?_some h1;rw[hg i hi,←hr.1,hcl]
  refine .sl (sz:=P.cellsOf e) (fun i j=>(W.cell? ⟨b,o+i*P.cellsOf e+j,none⟩).getD undef) (by simp[hll]) hl hz (fun i j hi hj=>?_) (fun i j hi hj=>?_) (fun i j hi hj=>?_) (fun i j hi hj=>?_) trivial
  ·obtain⟨v,h1,_⟩:=cell i j hi hj;exact⟨v,h1⟩
  ·obtain⟨v,h1,_⟩:=cell i j hi hj;rw[h1];rfl
  ·obtain⟨v,h1,h2,_⟩:=cell i j hi hj;rw[h1];exact h2
  obtain⟨v,h1,h2,h3⟩:=cell i j hi hj;rw[h1,hg i hi];exact h3
 have hi':i<len:=by
  rcases Nat.lt_or_ge i l.length with h|h
  ·omega
  rw[List.getElem?_eq_none h]at hi;cases hi
 obtain⟨cs',y,h1,h2,h3,h4⟩:=hA i hi'
 have e1:a'=A i:=by simp[l,hi']at hi;exact hi.symm
 have e2:d=y.1:=by simp[h2]at hd;exact hd.symm
 rw[e1,e2];exact h4
theorem UT {fs:Array Field} {xs:List (DataW H×List MemPlace)} {cs:List Value} {n:Nat} (hl:xs.length=fs.size)
 (hf:∀(i:Nat) (f:Field),fs[i]? =some f→DataW.trod enc P W base spare held n f.type ((cs.drop f.offset).take (P.cellsOf f.type))=xs[i]?) (i:Nat) {f:Field} (h:fs[i]? =some f):
 ∃y,xs[i]? =some y∧DataW.trod enc P W base spare held n f.type ((cs.drop f.offset).take (P.cellsOf f.type))=some y:=by
 have hi:i<fs.size:=by
  rcases Nat.lt_or_ge i fs.size with h'|h'
  ·exact h'
  rw[Array.getElem?_eq_none h']at h;cases h
 have h1:xs[i]? =some (xs[i]'(by omega)):=by simp[hl,hi]
 exact⟨_,h1,by rw[hf i f h,h1]⟩
end
end Go.Ab
namespace Go.Ab
noncomputable instance arInst :Ar where
 cmp:=JZ
 cmp_eq:=fun _ _ _=>rfl
 ar:=arI
 ar_eq:=fun _ _ _ _=>rfl
 sh:=shI
 sh_eq:=fun _ _ _ _=>rfl
 neg:=fun k n=>k.wrap (0 - n)
 neg_eq:=fun _ _=>rfl
 wr:=fun k n=>k.wrap n
 wr_eq:=fun _ _=>rfl
 scmp:=Ao6
 scmp_eq:=fun _ _ _=>rfl
 cat:=fun a b=>a++b
 cat_eq:=fun _ _=>rfl
 slen:=fun s=>s.size
 slen_eq:=fun _=>rfl
 sat:=fun s i=>match s[i.toNat]? with|some b=>(b.toNat:Int)|none=>0
 sat_eq:=fun _ _=>rfl
 beq:=fun a b=>a==b
 beq_eq:=fun _ _=>rfl
 nt:=fun a=> !a
 nt_eq:=fun _=>rfl
 an:=fun a b=>a&&b
 an_eq:=fun _ _=>rfl
 or:=fun a b=>a||b
 or_eq:=fun _ _=>rfl
 pk:=fun c a b=>if c then a else b
 pk_eq:=fun _ _ _=>rfl
 mx:=fun a b=>if a<b then b else a
 mx_eq:=fun _ _=>rfl
 mn:=fun a b=>if b<a then b else a
 mn_eq:=fun _ _=>rfl
 ofs:=fun a b=>a+b
 ofs_eq:=fun _ _=>rfl
 ofN:=fun n=>n
 ofN_eq:=fun _=>rfl
 len:=fun l=>l.length
 len_eq:=fun _=>rfl
 lst:=fun f l=>l.map f
 lst_eq:=fun _ _=>rfl
end Go.Ab
namespace Go.Ab
theorem C4 (a b:Int):Ar.cmp .lss a b=decide (a<b):=rfl
theorem AU (a b:Int):Ar.cmp .leq a b=decide (a≤b):=rfl
theorem Z0 (a b:Int):Ar.cmp .gtr a b=decide (b<a):=rfl
theorem L3 (a b:Int):Ar.cmp .geq a b=decide (b≤a):=rfl
theorem C5 (a b:Int):Ar.cmp .eql a b=decide (a=b):=rfl
theorem I9 (a b:Int):Ar.cmp .neq a b= !decide (a=b):=rfl
theorem K6 (a:Bool):Ar.nt a= !a:=rfl
theorem H6 (a b:Bool):Ar.an a b=(a&&b):=rfl
theorem G9 (a b:Bool):Ar.or a b=(a||b):=rfl
theorem B5 {α:Type}(l:List α):Ar.len l=(l.length:Int):=rfl
theorem GH (a b:Int):Ar.mx a b=if a<b then b else a:=rfl
theorem RC (s:ByteArray):Ar.slen s=(s.size:Int):=rfl
theorem Ba {n:Int} (h0: -9223372036854775808≤n) (h1:n<9223372036854775808):IntKind.wrap .i64 n=n:=by
 have e:IntKind.wrap .i64 n=(if n % 18446744073709551616≥9223372036854775808 then n % 18446744073709551616 - 18446744073709551616 else n % 18446744073709551616):=by
  unfold IntKind.wrap;simp[IntKind.bits,IntKind.signed]
 rw[e]
 split<;>omega
theorem D2 {a b:Int}(h0: -9223372036854775808≤a+b)(h1:a+b<9223372036854775808):Ar.ar .add .i64 a b=a+b:=Ba h0 h1
theorem SH {S σ R α:Type} (l:List α) (hl:l.length<1000000000000) (step:S→Option (S ⊕ R)) (mk:σ→Int→S) (body:σ→α→Option (σ ⊕ R)) (fin:σ→R)
 (hstep:∀s (i:Nat) x,l[i]? =some x→step (mk s i)=(body s x).bind fun o=>match o with| .inl s'=>some (.inl (mk s' (i+1)))| .inr r=>some (.inr r))
 (hend:∀s,step (mk s l.length)=some (.inr (fin s))):
 ∀(k:Nat) (i:Nat) (s:σ) (N:Nat),i+k=l.length→k<N→loopN step N (mk s i)=(G5 body (l.drop i) s).bind fun o=>match o with| .inl s=>some (fin s)| .inr r=>some r:=by
 intro k
 induction k with
 |zero=>
  intro i s N hi hN;obtain⟨N,rfl⟩:∃M,N=M+1:=⟨N - 1,by omega⟩;have e:l.drop i=[]:=List.drop_eq_nil_of_le (by omega)
  have ei:((i:Nat):Int)=l.length:=by omega
  rw[e,ei];simp only[loopN,hend,G5,Option.bind_some]
 | succ k ih=>
  intro i s N hi hN;obtain⟨N,rfl⟩:∃M,N=M+1:=⟨N - 1,by omega⟩
  have hlt:i<l.length:=by omega
  have hx:l[i]? =some l[i]:=by simp[hlt]
  have e:l.drop i=l[i]::l.drop (i+1):=List.drop_eq_getElem_cons hlt;rw[e];simp only[loopN,hstep s i _ hx,G5]
  cases hb:body s l[i]with
  |none=>rfl
  | some o=>
   cases o with
   |inl s'=>
    simp only[Option.bind_some];have:=ih (i+1) s' N (by omega) (by omega);rw[show((i:Int)+1)=((i+1:Nat):Int) by omega];exact this
   |inr r=>rfl
theorem E2 {α:Type}{l:List α}{i:Nat}:B9 l (i:Int)=l[i]? :=by simp[B9]
theorem Qx {β S σ R α:Type} (l:List α) (step:S→Option (List β×(S ⊕ R))) (mk:σ→Int→S) (body:σ→α→Option (List β×(σ ⊕ R))) (fin:σ→R)
 (hstep:∀s (i:Nat) x,l[i]? =some x→step (mk s i)=(body s x).bind fun o=>match o with|(w,.inl s')=>some (w,.inl (mk s' (i+1)))|(w,.inr r)=>some (w,.inr r))
 (hend:∀s,step (mk s l.length)=some ([],.inr (fin s))):
 ∀(k:Nat) (i:Nat) (s:σ) (N:Nat),i+k=l.length→k<N→HM step N (mk s i)=(Am body (l.drop i) s).bind fun o=>match o with|(w,.inl s)=>some (w,fin s)|(w,.inr r)=>some (w,r):=by
 intro k
 induction k with
 |zero=>
  intro i s N hi hN;obtain⟨N,rfl⟩:∃M,N=M+1:=⟨N - 1,by omega⟩;have e:l.drop i=[]:=List.drop_eq_nil_of_le (by omega)
  have ei:((i:Nat):Int)=l.length:=by omega
  rw[e,ei];simp only[HM,hend,Am,Option.bind_some]
 | succ k ih=>
  intro i s N hi hN;obtain⟨N,rfl⟩:∃M,N=M+1:=⟨N - 1,by omega⟩
  have hlt:i<l.length:=by omega
  have hx:l[i]? =some l[i]:=by simp[hlt]
  have e:l.drop i=l[i]::l.drop (i+1):=List.drop_eq_getElem_cons hlt;rw[e];simp only[HM,hstep s i _ hx,Am]
  cases hb:body s l[i]with
  |none=>rfl
  | some o=>
   obtain⟨w,o⟩:=o
   cases o with
   | inl s'=>
    simp only[Option.bind_some];have:=ih (i+1) s' N (by omega) (by omega);rw[show((i:Int)+1)=((i+1:Nat):Int) by omega,this]
    cases hr:Am body (l.drop (i+1)) s' with
    |none=>rfl
    |some q=>
     obtain⟨w',o'⟩:=q;cases o'<;>rfl
   |inr r=>rfl
theorem G4 {S σ R α:Type} (l:List α) (hl:l.length<1000000000000) {step:S→Option (S ⊕ R)} (mk:σ→Int→S) (body:σ→α→Option (σ ⊕ R)) (fin:σ→R) (s:σ) {N:Nat} (hN:l.length<N)
 (hstep:∀s (i:Nat) x,l[i]? =some x→(i:Int)<l.length→step (mk s i)=(body s x).bind fun o=>match o with| .inl s'=>some (.inl (mk s' (i+1)))| .inr r=>some (.inr r))
 (hend:∀s,step (mk s l.length)=some (.inr (fin s))):loopN step N (mk s 0)=(G5 body l s).bind fun o=>match o with| .inl s=>some (fin s)| .inr r=>some r:=by
 have:=SH l hl step mk body fin (fun s i x h=>hstep s i x h (by
  rcases Nat.lt_or_ge i l.length with h'|h'
  ·omega
  rw[List.getElem?_eq_none h']at h;cases h)) hend l.length 0 s N (by omega) hN
 simpa using this
theorem UD {β S σ R α:Type} (l:List α) {step:S→Option (List β×(S ⊕ R))} (mk:σ→Int→S) (body:σ→α→Option (List β×(σ ⊕ R))) (fin:σ→R) (s:σ) {N:Nat} (hN:l.length<N)
 (hstep:∀s (i:Nat) x,l[i]? =some x→(i:Int)<l.length→step (mk s i)=(body s x).bind fun o=>match o with|(w,.inl s')=>some (w,.inl (mk s' (i+1)))|(w,.inr r)=>some (w,.inr r))
 (hend:∀s,step (mk s l.length)=some ([],.inr (fin s))):HM step N (mk s 0)=(Am body l s).bind fun o=>match o with|(w,.inl s)=>some (w,fin s)|(w,.inr r)=>some (w,r):=by
 have:=Qx l step mk body fin (fun s i x h=>hstep s i x h (by
  rcases Nat.lt_or_ge i l.length with h'|h'
  ·omega
  rw[List.getElem?_eq_none h']at h;cases h)) hend l.length 0 s N (by omega) hN
 simpa using this
theorem Cw {α σ R:Type} {step:σ→α→Option (σ ⊕ R)} (I:List α→σ→Prop) (hs:∀x r s,I (x::r) s→∃s',step s x=some (.inl s')∧I r s'):∀{l:List α} {s:σ},I l s→∃s',G5 step l s=some (.inl s')∧I [] s'
 |[],s,h=>⟨s,rfl,h⟩
 |x::l,s,h=>by
  obtain⟨s',h1,h2⟩:=hs x l s h;obtain⟨s2,h3,h4⟩:=Cw I hs h2;exact⟨s2,by simp only[G5,h1,h3],h4⟩
theorem Ni {α β σ R:Type} {step:σ→α→Option (List β×(σ ⊕ R))} (I:List α→List β→σ→Prop) (hs:∀x r w s,I (x::r) w s→∃w' s',step s x=some (w',.inl s')∧I r (w++w') s'):
 ∀{l:List α} {w:List β} {s:σ},I l w s→∃w' s',Am step l s=some (w',.inl s')∧I [] (w++w') s'
 |[],w,s,h=>⟨[],s,rfl,by simpa using h⟩
 |x::l,w,s,h=>by
  obtain⟨w1,s1,h1,h2⟩:=hs x l w s h;obtain⟨w2,s2,h3,h4⟩:=Ni I hs h2;exact⟨w1++w2,s2,by simp only[Am,h1,h3],by rw[←List.append_assoc];exact h4⟩
def S9 {α:Type}(f:α→Int):List α→Int
 |[]=>0
 |x::l=>if f x=0 then S9 f l else f x
theorem Dp {α:Type} {f:α→Int}:∀{l:List α},S9 f l=0↔∀x∈l,f x=0
 |[]=>by simp[S9]
 |x::l=>by
  unfold S9
  split
  ·rename_i h;rw[Dp];simp[h]
  rename_i h;simp[h]
theorem Mb {α:Type} {f:α→Int}:∀{l m:List α},S9 f (l++m)=if S9 f l=0 then S9 f m else S9 f l
 |[],m=>by simp[S9]
 |x::l,m=>by
  simp only[List.cons_append,S9]
  split
  ·rw[Mb]
  rename_i h;simp[h]
theorem OX {α:Type} {F:α→Option Int} {f:α→Int}:∀{l:List α},(∀x∈l,F x=some (f x))→
 G5 (fun(_:Unit) x=>(F x).bind fun r=>if Ar.cmp .neq r 0=true then some (Sum.inr r)else some (.inl ())) l ()=some (if S9 f l=0 then .inl ()else .inr (S9 f l))
 |[],_=>rfl
 | x::l,h=>by
  have h1:=OX (l:=l) fun y hy=>h y (by simp[hy]);unfold G5;simp only[h x (by simp),Option.bind_some,I9,S9]
  by_cases hz:f x=0
  ·simp only[hz,decide_true,Bool.not_true,Bool.false_eq_true,if_false,if_true]
   simpa only[I9]using h1
  simp[hz]
noncomputable def AM {α:Type}(F:α→Option Int)(_:Unit)(a:α):Option (Unit ⊕ (Unit ⊕ Int)):=(F a).bind fun r=>if Ar.cmp .neq r 0=true then some (.inr (.inr r))else some (.inl ())
theorem Y3 {α:Type} {F:α→Option Int} {f:α→Int}:∀{l:List α},(∀x∈l,F x=some (f x))→G5 (AM F) l ()=some (if S9 f l=0 then .inl ()else .inr (.inr (S9 f l)))
 |[],_=>rfl
 |x::l,h=>by
  have h1:=Y3 (l:=l) fun y hy=>h y (by simp[hy]);unfold G5 AM;simp only[h x (by simp),Option.bind_some,I9,S9]
  by_cases hz:f x=0
  ·simp only[hz,decide_true,Bool.not_true,Bool.false_eq_true,if_false,if_true];exact h1
  simp[hz]
end Go.Ab
namespace Go.Ab
open Go.RowKit Go.ChangeShapes Go.WideShapes
variable [J9]
section
variable {H α:Type}{enc:TypeId×Value→H}{P:Program}{W:World}{base:Nat}{spare:Nat→Bool}{held:Bool}{t e:TypeId}{n:Nat}
theorem OT {cs:List Value} {sz:Nat} {f:α→V}:∀(l:List α) (o:Nat),(∀(i:Nat) a,l[i]? =some a→Dr (g0 W) W ((cs.drop (o+i*sz)).take sz) (f a).cells)→Dr (g0 W) W ((cs.drop o).take (l.length*sz)) (l.flatMap fun a=>(f a).cells)
 |[],o,_=>by simp;exact .nil _ _
 | a::l,o,h=>by
  have h0:=h 0 a rfl
  rw[Nat.zero_mul,Nat.add_zero]at h0
  have h1:=OT l (o+sz) fun i b hi=>by
   have:=h (i+1) b (by simpa using hi)
   rwa[show o+(i+1)*sz=o+sz+i*sz by rw[Nat.add_mul];omega]at this
  have:=h0.join h1;rw[List.length_cons,List.flatMap_cons,show(l.length+1)*sz=sz+l.length*sz by rw[Nat.add_mul];omega];exact this
theorem Ss {f:α→V} {R:α→DataW H→Prop} {m:Nat} (ht:P.underlying t=some (.array m e)) (hct:P.cellsOf t=m*P.cellsOf e) (hm:0<m) (he:∀n,Y8 enc P W base spare held e f R n) {cs:List Value} {x:DataW H×List MemPlace}
 (h:DataW.trod enc P W base spare held n t cs=some x):∃l:List α,Dr (g0 W) W cs (l.flatMap fun a=>(f a).cells)∧∃ds,x.1= .agg ds∧RL R l ds:=by
 cases n with
 |zero=>simp[DataW.trod]at h
 | succ n=>
  simp only[DataW.trod,ht]at h
  split at h
  ·rename_i hl;obtain⟨xs,hmm,rfl⟩:=Option.map_eq_some_iff.1 h
   have hxl:xs.length=m:=by simpa using mapM_some_length hmm
   have one:∀i,i<m→∃b,Dr (g0 W) W ((cs.drop (i*P.cellsOf e)).take (P.cellsOf e)) (f b).cells∧∀y,xs[i]? =some y→R b y.1:=by
    intro i hi;have h1:=mapM_some_get hmm i i (by simp[hi])
    have h2:xs[i]? =some (xs[i]'(by omega)):=by simp[hxl,hi]
    rw[h2]at h1
    obtain⟨b,hr,hR⟩:=he n _ _ h1;exact⟨b,hr,fun y hy=>by rw[h2]at hy;cases hy;exact hR⟩
   obtain⟨b0,_⟩:=one 0 hm
   haveI:Inhabited α:=⟨b0⟩
   obtain⟨A,hA⟩:=Deep.choose_lt one
   have hat:∀(i:Nat) a,((List.range m).map A)[i]? =some a→i<m∧a=A i:=fun i a hi=>by
    rcases Nat.lt_or_ge i m with hlt|hge
    ·simp[hlt]at hi;exact⟨hlt,hi.symm⟩
    rw[List.getElem?_eq_none (by simpa using hge)]at hi;cases hi
   refine⟨(List.range m).map A,?_,_,rfl,by simp[hxl],fun i a d hi hd=>?_⟩
   ·have:=OT (cs:=cs) (sz:=P.cellsOf e) (f:=f) (W:=W) ((List.range m).map A) 0 (fun i a hi=>by
     obtain⟨h1,rfl⟩:=hat i a hi
     simpa using(hA i h1).1)
    simpa[List.take_of_length_le,hl,hct]using this
   obtain⟨h1,rfl⟩:=hat i a hi
   simp only[List.getElem?_map,Option.map_eq_some_iff]at hd
   obtain⟨y,hy,rfl⟩:=hd;exact(hA i h1).2 y hy
  cases h
theorem SR {g:Nat} {cs:Array Value} {xs:List V} {name:String} (hg:P.globalNamed name=some g) (hv:W.var? P name=some cs) (hr:Dr (g0 W) W cs.toList xs):VR (g0 W) W (.pointer (some ⟨g,0,none⟩)) (.eref xs 0):=by
 have cell:∀j,j<xs.length→W.cell? ⟨g,0+j,none⟩=some (cs.toList.getD j undef):=fun j hj=>by
  have h1:=World.var?_cell hg hv j
  have h2:j<cs.size:=by have:=hr.1;simp at this;omega
  rw[Nat.zero_add,h1];simp[List.getD,h2]
 exact .eref (g:=g0 W) (o:=0) (off:=0) (fun j=>cs.toList.getD j undef) (fun j hj=>(⟨_,cell j hj⟩:∃v,W.cell? ⟨g,0+j,none⟩=some v)) (fun j hj=>cell j hj) (fun j hj=>(hr.2 j hj).1) fun j hj=>(hr.2 j hj).2
end
end Go.Ab
namespace Go.Ab
open Go.RowKit Go.ChangeShapes Go.WideShapes
variable [J9]
section
variable {H:Type}{enc:TypeId×Value→H}{P:Program}{W:World}{base:Nat}{spare:Nat→Bool}{held:Bool}{t e:TypeId}{n:Nat}
end
end Go.Ab
namespace Go.Ab
mutual
def B4.bulk :B4→Nat
 |⟨_,args,_,_,_,v⟩=>B4.bulks args+v.Text.size+9
def B4.bulks :List B4→Nat
 |[]=>1
 |a::r=>B4.bulk a+B4.bulks r
end
mutual
def A0.bulk :A0→Nat
 |⟨_,args,_,_,_,_,c⟩=>A0.bulks args+B4.bulk c+6
def A0.bulks :List A0→Nat
 |[]=>1
 |a::r=>A0.bulk a+A0.bulks r
end
mutual
def A1.bulk :A1→Nat
 |⟨_,_,ks⟩=>A1.bulks ks+6
def A1.bulks :List A1→Nat
 |[]=>1
 |a::r=>A1.bulk a+A1.bulks r
end
end Go.Ab
namespace Go.Ab
mutual
def B4.pre :B4→List B4
 |⟨op,args,var,field,kind,val⟩=>⟨op,args,var,field,kind,val⟩::B4.pres args
def B4.pres :List B4→List B4
 |[]=>[]
 |a::r=>B4.pre a++B4.pres r
end
mutual
def B4.dep :B4→Nat
 |⟨_,args,_,_,_,_⟩=>B4.deps args+1
def B4.deps :List B4→Nat
 |[]=>0
 |a::r=>max (B4.dep a) (B4.deps r)
end
mutual
def A0.pre :A0→List A0
 |⟨op,args,typ,var,scope,span,c⟩=>⟨op,args,typ,var,scope,span,c⟩::A0.pres args
def A0.pres :List A0→List A0
 |[]=>[]
 |a::r=>A0.pre a++A0.pres r
end
mutual
def A0.dep :A0→Nat
 |⟨_,args,_,_,_,_,_⟩=>A0.deps args+1
def A0.deps :List A0→Nat
 |[]=>0
 |a::r=>max (A0.dep a) (A0.deps r)
end
theorem B4.pre_eq (x:B4):x.pre=x::B4.pres x.cK:=by cases x;simp[B4.pre]
theorem A0.pre_eq (x:A0):x.pre=x::A0.pres x.cK:=by cases x;simp[A0.pre]
theorem B4.dep_eq (x:B4):x.dep=B4.deps x.cK+1:=by cases x;simp[B4.dep]
theorem A0.dep_eq (x:A0):x.dep=A0.deps x.cK+1:=by cases x;simp[A0.dep]
theorem B4.bulk_eq (x:B4):x.bulk=B4.bulks x.cK+x.Value.Text.size+9:=by cases x;simp[B4.bulk]
theorem A0.bulk_eq (x:A0):x.bulk=A0.bulks x.cK+x.cL.bulk+6:=by cases x;simp[A0.bulk]
theorem MH :∀(l:List B4),(∀a∈l,B4.bulk a≤B4.bulks l)∧l.length≤B4.bulks l
 |[]=>⟨fun a h=>by simp at h,by simp[B4.bulks]⟩
 |b::l=>by
  have h:=MH l;have hb:=B4.bulk_eq b;simp only[B4.bulks,List.length_cons];refine⟨fun a ha=>?_,by omega⟩
  rcases List.mem_cons.1 ha with rfl|ha
  ·omega
  have:=h.1 a ha;omega
theorem MG :∀(l:List A0),(∀a∈l,A0.bulk a≤A0.bulks l)∧l.length≤A0.bulks l
 |[]=>⟨fun a h=>by simp at h,by simp[A0.bulks]⟩
 |b::l=>by
  have h:=MG l;have hb:=A0.bulk_eq b;simp only[A0.bulks,List.length_cons];refine⟨fun a ha=>?_,by omega⟩
  rcases List.mem_cons.1 ha with rfl|ha
  ·omega
  have:=h.1 a ha;omega
mutual
theorem Uv :∀x:B4,x.pre.length≤x.bulk
 |⟨op,args,var,field,kind,val⟩=>by
  have:=Fo args;simp only[B4.pre,B4.bulk,List.length_cons];omega
theorem Fo :∀l:List B4,(B4.pres l).length≤B4.bulks l
 |[]=>by simp[B4.pres]
 |a::l=>by
  have h1:=Uv a;have h2:=Fo l;simp only[B4.pres,B4.bulks,List.length_append];omega
end
mutual
theorem GC :∀x:A0,x.pre.length≤x.bulk
 |⟨op,args,typ,var,scope,span,c⟩=>by
  have:=Fm args;simp only[A0.pre,A0.bulk,List.length_cons];omega
theorem Fm :∀l:List A0,(A0.pres l).length≤A0.bulks l
 |[]=>by simp[A0.pres]
 |a::l=>by
  have h1:=GC a;have h2:=Fm l;simp only[A0.pres,A0.bulks,List.length_append];omega
end
mutual
theorem JY :∀x:B4,x.dep≤x.bulk
 |⟨op,args,var,field,kind,val⟩=>by
  have:=FA args;simp only[B4.dep,B4.bulk];omega
theorem FA :∀l:List B4,B4.deps l≤B4.bulks l
 |[]=>by simp[B4.deps]
 |a::l=>by
  have h1:=JY a;have h2:=FA l;simp only[B4.deps,B4.bulks];omega
end
mutual
theorem Va :∀x:A0,x.dep≤x.bulk
 |⟨op,args,typ,var,scope,span,c⟩=>by
  have:=Fz args;simp only[A0.dep,A0.bulk];omega
theorem Fz :∀l:List A0,A0.deps l≤A0.bulks l
 |[]=>by simp[A0.deps]
 |a::l=>by
  have h1:=Va a;have h2:=Fz l;simp only[A0.deps,A0.bulks];omega
end
def Cut (lim:Int)(cnt:Nat)(r:Int):Prop:=1≤r∧r≤cnt∧(r=cnt∨lim<r)
section
variable {α:Type}
theorem HD {lim:Int} {f:α→Option Int} {cnt:α→Nat} {B:Nat} (hB:B≤1000000000000):∀(l:List α) (s:Int),0≤s→s+(l.map cnt).sum≤B→(∀a∈l,∃r,f a=some r∧Cut lim (cnt a) r)→
 ∃o,G5 (fun(s:Int) x=>if s≤lim then(f x).bind fun r=>some (.inl (Ar.ar .add .i64 s r))else some (.inr s)) l s=some o∧
  ∃v,v=(match o with| .inl s=>s| .inr s=>s)∧s≤v∧v≤s+(l.map cnt).sum∧(v=s+(l.map cnt).sum∨lim<v)
 |[],s,h0,_,_=>⟨.inl s,rfl,s,rfl,Int.le_refl _,by simp,.inl (by simp)⟩
 | a::l,s,h0,hb,hf=>by
  simp only[List.map_cons,List.sum_cons]at hb ⊢
  unfold G5
  by_cases hs:s≤lim
  ·obtain⟨r,h1,h2,h3,h4⟩:=hf a (by simp);simp only[if_pos hs,h1,Option.bind_some];have e:Ar.ar .add .i64 s r=s+r:=D2 (by omega) (by omega);rw[e];obtain⟨o,k1,v,k2,k3,k4,k5⟩:=HD hB l (s+r) (by omega) (by omega) fun b hb=>hf b (by simp[hb]);refine⟨o,k1,v,k2,by omega,by omega,?_⟩
   rcases k5 with k5|k5
   ·rcases h4 with h4|h4
    ·left;omega
    right;omega
   exact .inr k5
  simp only[if_neg hs];exact⟨_,rfl,s,rfl,Int.le_refl _,by omega,.inr (by omega)⟩
end
theorem Jq :∀l:List A0,(l.map fun a=>a.pre.length).sum=(A0.pres l).length
 |[]=>rfl
 |a::l=>by simp[A0.pres,Jq l]
theorem Jr :∀l:List B4,(l.map fun a=>a.pre.length).sum=(B4.pres l).length
 |[]=>rfl
 |a::l=>by simp[B4.pres,Jr l]
theorem Rt {N:Nat} (hN:40000000≤N) (lim:Int):∀(n:Nat) (x:A0),x.bulk≤n→x.bulk≤16777216→∃r,U7 N n x lim=some r∧Cut lim x.pre.length r:=by
 intro n
 induction n with
 |zero=>intro x h;have:=A0.bulk_eq x;omega
 | succ n ih=>
  intro x hx hb;have hxb:=A0.bulk_eq x;have hB:=MG x.cK;have hpb:=Fm x.cK;unfold U7;rw[G4 x.cK (by omega) (mk:=fun(s:Int) i=>(s,i)) (body:=fun(s:Int) a=>if s≤lim then(U7 N n a lim).bind fun r=>some (.inl (Ar.ar .add .i64 s r))else some (.inr s)) (fin:=fun s=>s) (s:=1) (by omega) ?_ ?_]
  ·obtain⟨o,k1,v,k2,k3,k4,k5⟩:=HD (lim:=lim) (f:=fun a=>U7 N n a lim) (cnt:=fun a=>a.pre.length) (B:=40000000) (by omega) x.cK 1 (by omega) (by rw[Jq];omega) fun a ha=>ih a (by have:=hB.1 a ha;omega) (by have:=hB.1 a ha;omega)
   rw[Jq]at k4 k5
   have hpe:x.pre.length=(A0.pres x.cK).length+1:=by rw[A0.pre_eq];rfl
   simp only[k1,Option.bind_some];refine⟨v,?_,by omega,by omega,?_⟩
   ·cases o<;>simp_all
   rcases k5 with k5|k5
   ·left;omega
   right;exact k5
  ·intro s i a ha hi;have e:Ar.ar .add .i64 (i:Int) 1=i+1:=D2 (by omega) (by omega);simp only[C4,AU,H6,B5,hi,decide_true,Bool.true_and,E2,ha,Option.bind_some,e,decide_eq_true_eq]
   split
   ·cases U7 N n a lim<;>rfl
   rfl
  intro s;simp[C4,H6,B5]
end Go.Ab
namespace Go.Ab
theorem Ky {x a:A0}(h:a∈x.cK):a.bulk<x.bulk:=by
 have h1:=(MG x.cK).1 a h;have h2:=A0.bulk_eq x;omega
theorem Y6 {x a:B4}(h:a∈x.cK):a.bulk<x.bulk:=by
 have h1:=(MH x.cK).1 a h;have h2:=B4.bulk_eq x;omega
theorem KA (x:A0):x.cK.length≤x.bulk:=by
 have h1:=(MG x.cK).2;have h2:=A0.bulk_eq x;omega
theorem EK (x:B4):x.cK.length≤x.bulk:=by
 have h1:=(MH x.cK).2;have h2:=B4.bulk_eq x;omega
theorem KP (x:A0):0<x.bulk:=by have:=A0.bulk_eq x;omega
theorem Dn (x:B4):0<x.bulk:=by have:=B4.bulk_eq x;omega
theorem Tl {N:Nat} (hN:40000000≤N):∀(n:Nat) (x:A0),x.bulk≤n→x.bulk≤16777216→U9 N n x=some (x.dep:Int):=by
 intro n
 induction n with
 |zero=>intro x h;have:=KP x;omega
 | succ n ih=>
  intro x hx hb;have hl:=KA x;unfold U9;rw[G4 x.cK (by omega) (mk:=fun(s:Int) i=>(s,i)) (body:=fun(s:Int) a=>(U9 N n a).bind fun r=>some (.inl (Ar.mx s r))) (fin:=fun s=>s) (s:=0) (by omega) ?_ ?_]
  ·obtain⟨s',k1,k2⟩:=Cw (R:=Int) (step:=fun(s:Int) a=>(U9 N n a).bind fun r=>some (.inl (Ar.mx s r))) (fun r s=>(∀a∈r,a∈x.cK)∧0≤s∧max s (A0.deps r:Int)=(A0.deps x.cK:Int)) (fun a r s ⟨h1,h2,h3⟩=>by
    have hm:=Ky (h1 a (by simp));refine⟨_,by rw[ih a (by omega) (by omega)];rfl,fun b hb=>h1 b (by simp[hb]),?_,?_⟩
    ·rw[GH];split<;>omega
    rw[←h3,GH];simp only[A0.deps];split<;>omega) (l:=x.cK) (s:=0) ⟨fun a h=>h,Int.le_refl _,by omega⟩
   simp only[k1,Option.bind_some]
   have e:s'=(A0.deps x.cK:Int):=by have:=k2.2.2;simp only[A0.deps]at this;omega
   have hd:=Fz x.cK;have hd2:=A0.bulk_eq x;rw[e,D2 (by omega) (by omega),A0.dep_eq];rfl
  ·intro s i a ha hi;have e:Ar.ar .add .i64 (i:Int) 1=i+1:=D2 (by omega) (by omega);simp only[C4,B5,hi,decide_true,if_true,E2,ha,Option.bind_some,e];cases U9 N n a<;>rfl
  intro s;simp[C4,B5]
theorem AV {α:Type}{l m:List α}(h:l.length+m.length≤1073741824):M5 l m=some (l++m):=by simp[M5,h]
theorem No {N:Nat} (hN:40000000≤N):∀(n:Nat) (x:A0),x.bulk≤n→x.bulk≤16777216→S4 N n x=some x.pre:=by
 intro n
 induction n with
 |zero=>intro x h;have:=KP x;omega
 | succ n ih=>
  intro x hx hb;have hl:=KA x;unfold S4;rw[G4 x.cK (by omega) (mk:=fun(s:List A0) i=>(s,i)) (body:=fun(s:List A0) a=>(S4 N n a).bind fun r=>(M5 s r).bind fun l=>some (.inl l)) (fin:=fun s=>s) (s:=[x]) (by omega) ?_ ?_]
  ·have hp:=GC x;have hpe:=A0.pre_eq x
   obtain⟨s',k1,k2⟩:=Cw (R:=List A0) (step:=fun(s:List A0) a=>(S4 N n a).bind fun r=>(M5 s r).bind fun l=>some (.inl l)) (fun r s=>(∀a∈r,a∈x.cK)∧s++A0.pres r=x.pre) (fun a r s ⟨h1,h2⟩=>by
    have hm:=Ky (h1 a (by simp));have hlen:=congrArg List.length h2
    simp only[A0.pres,List.length_append]at hlen
    refine⟨_,by rw[ih a (by omega) (by omega)];simp only[Option.bind_some];rw[AV (by omega)];rfl,fun b hb=>h1 b (by simp[hb]),?_⟩
    rw[←h2];simp[A0.pres]) (l:=x.cK) (s:=[x]) ⟨fun a h=>h,by rw[hpe];rfl⟩
   simp only[k1,Option.bind_some];have:=k2.2
   simp only[A0.pres,List.append_nil]at this
   rw[this]
  ·intro s i a ha hi;have e:Ar.ar .add .i64 (i:Int) 1=i+1:=D2 (by omega) (by omega);simp only[C4,B5,hi,decide_true,if_true,E2,ha,Option.bind_some,e]
   cases S4 N n a with
   |none=>rfl
   |some r=>simp only[Option.bind_some];cases M5 s r<;>rfl
  intro s;simp[C4,B5]
theorem Ab5 {N:Nat} (hN:40000000≤N):∀(n:Nat) (x:A0),x.bulk≤n→x.bulk≤16777216→O0 N n x=some ((x.pre.length:Int),(x.dep:Int)):=by
 intro n
 induction n with
 |zero=>intro x h;have:=KP x;omega
 | succ n ih=>
  intro x hx hb;have hl:=KA x;unfold O0;rw[G4 x.cK (by omega) (mk:=fun(s:Int×Int) i=>(s.1,s.2,i)) (body:=fun(s:Int×Int) a=>(O0 N n a).bind fun r=>some (.inl (Ar.ar .add .i64 s.1 r.1,Ar.mx s.2 r.2))) (fin:=fun s=>s) (s:=(1,0)) (by omega) ?_ ?_]
  ·have hp:=Fm x.cK;have hd:=Fz x.cK;have hbe:=A0.bulk_eq x
   obtain⟨s',k1,k2⟩:=Cw (R:=Int×Int) (step:=fun(s:Int×Int) a=>(O0 N n a).bind fun r=>some (.inl (Ar.ar .add .i64 s.1 r.1,Ar.mx s.2 r.2))) (fun r s=>(∀a∈r,a∈x.cK)∧0≤s.2∧0≤s.1∧s.1+(A0.pres r).length=(A0.pres x.cK).length+1∧max s.2 (A0.deps r:Int)=(A0.deps x.cK:Int)) (fun a r s ⟨h1,h2,h3,h4,h5⟩=>by
    have hm:=Ky (h1 a (by simp))
    simp only[A0.pres,List.length_append,A0.deps]at h4 h5
    refine⟨_,by rw[ih a (by omega) (by omega)];rfl,fun b hb=>h1 b (by simp[hb]),?_,?_,?_,?_⟩
    ·simp only[GH];split<;>omega
    ·rw[D2 (by omega) (by omega)];omega
    ·rw[D2 (by omega) (by omega)];omega
    rw[←h5];simp only[GH];split<;>omega) (l:=x.cK) (s:=(1,0)) ⟨fun a h=>h,by simp,by simp,by simp only;omega,by simp only;omega⟩
   simp only[k1,Option.bind_some];obtain⟨_,_,_,e1,e2⟩:=k2
   simp only[A0.pres,List.length_nil,A0.deps]at e1 e2
   have e3:s'.1=(x.pre.length:Int):=by rw[A0.pre_eq];simp only[List.length_cons];omega
   have e4:s'.2=(A0.deps x.cK:Int):=by omega
   rw[e3,e4,D2 (by omega) (by omega),A0.dep_eq];rfl
  ·intro s i a ha hi;have e:Ar.ar .add .i64 (i:Int) 1=i+1:=D2 (by omega) (by omega);simp only[C4,B5,hi,decide_true,if_true,E2,ha,Option.bind_some,e];cases O0 N n a<;>rfl
  intro s;simp[C4,B5]
theorem Aa8 {N:Nat} (hN:40000000≤N):∀(n:Nat) (x:A0),x.bulk≤n→x.bulk≤16777216→U4 N n x=some x.pre:=by
 intro n
 induction n with
 |zero=>intro x h;have:=KP x;omega
 | succ n ih=>
  intro x hx hb;have hl:=KA x;unfold U4;rw[UD x.cK (mk:=fun(_:Unit) i=>i) (body:=fun(_:Unit) a=>(U4 N n a).bind fun l=>some (l,.inl ())) (fin:=fun _=>()) (s:=()) (by omega) ?_ ?_]
  ·obtain⟨w,s',k1,k2⟩:=Ni (R:=Unit) (step:=fun(_:Unit) a=>(U4 N n a).bind fun l=>some (l,.inl ())) (fun r w s=>(∀a∈r,a∈x.cK)∧w++A0.pres r=A0.pres x.cK) (fun a r w s ⟨h1,h2⟩=>by
    have hm:=Ky (h1 a (by simp));refine⟨a.pre,(),by rw[ih a (by omega) (by omega)];rfl,fun b hb=>h1 b (by simp[hb]),?_⟩
    rw[←h2];simp[A0.pres]) (l:=x.cK) (w:=[]) (s:=()) ⟨fun a h=>h,by simp⟩
   have e:w=A0.pres x.cK:=by have:=k2.2;simpa[A0.pres]using this
   rw[k1,e,A0.pre_eq];simp[Bc]
  ·intro s i a ha hi;have e:Ar.ar .add .i64 (i:Int) 1=i+1:=D2 (by omega) (by omega);simp only[C4,B5,hi,decide_true,if_true,E2,ha,Option.bind_some,e];cases U4 N n a<;>simp[Bc]
  intro s;simp[C4,B5]
end Go.Ab
namespace Go.Ab
theorem Tn {N:Nat} (hN:40000000≤N) (lim:Int):∀(n:Nat) (x:B4),x.bulk≤n→x.bulk≤16777216→∃r,V1 N n x lim=some r∧Cut lim x.pre.length r:=by
 intro n
 induction n with
 |zero=>intro x h;have:=Dn x;omega
 | succ n ih=>
  intro x hx hb;have hxb:=B4.bulk_eq x;have hB:=MH x.cK;have hpb:=Fo x.cK;unfold V1;rw[G4 x.cK (by omega) (mk:=fun(s:Int) i=>(s,i)) (body:=fun(s:Int) a=>if s≤lim then(V1 N n a lim).bind fun r=>some (.inl (Ar.ar .add .i64 s r))else some (.inr s)) (fin:=fun s=>s) (s:=1) (by omega) ?_ ?_]
  ·obtain⟨o,k1,v,k2,k3,k4,k5⟩:=HD (lim:=lim) (f:=fun a=>V1 N n a lim) (cnt:=fun a=>a.pre.length) (B:=40000000) (by omega) x.cK 1 (by omega) (by rw[Jr];omega) fun a ha=>ih a (by have:=hB.1 a ha;omega) (by have:=hB.1 a ha;omega)
   rw[Jr]at k4 k5
   have hpe:x.pre.length=(B4.pres x.cK).length+1:=by rw[B4.pre_eq];rfl
   simp only[k1,Option.bind_some];refine⟨v,?_,by omega,by omega,?_⟩
   ·cases o<;>simp_all
   rcases k5 with k5|k5
   ·left;omega
   right;exact k5
  ·intro s i a ha hi;have e:Ar.ar .add .i64 (i:Int) 1=i+1:=D2 (by omega) (by omega);simp only[C4,AU,H6,B5,hi,decide_true,Bool.true_and,E2,ha,Option.bind_some,e,decide_eq_true_eq]
   split
   ·cases V1 N n a lim<;>rfl
   rfl
  intro s;simp[C4,H6,B5]
theorem NS {N:Nat} (hN:40000000≤N):∀(n:Nat) (x:B4),x.bulk≤n→x.bulk≤16777216→V0 N n x=some (x.dep:Int):=by
 intro n
 induction n with
 |zero=>intro x h;have:=Dn x;omega
 | succ n ih=>
  intro x hx hb;have hl:=EK x;unfold V0;rw[G4 x.cK (by omega) (mk:=fun(s:Int) i=>(s,i)) (body:=fun(s:Int) a=>(V0 N n a).bind fun r=>some (.inl (Ar.mx s r))) (fin:=fun s=>s) (s:=0) (by omega) ?_ ?_]
  ·obtain⟨s',k1,k2⟩:=Cw (R:=Int) (step:=fun(s:Int) a=>(V0 N n a).bind fun r=>some (.inl (Ar.mx s r))) (fun r s=>(∀a∈r,a∈x.cK)∧0≤s∧max s (B4.deps r:Int)=(B4.deps x.cK:Int)) (fun a r s ⟨h1,h2,h3⟩=>by
    have hm:=Y6 (h1 a (by simp));refine⟨_,by rw[ih a (by omega) (by omega)];rfl,fun b hb=>h1 b (by simp[hb]),?_,?_⟩
    ·rw[GH];split<;>omega
    rw[←h3,GH];simp only[B4.deps];split<;>omega) (l:=x.cK) (s:=0) ⟨fun a h=>h,Int.le_refl _,by omega⟩
   simp only[k1,Option.bind_some]
   have e:s'=(B4.deps x.cK:Int):=by have:=k2.2.2;simp only[B4.deps]at this;omega
   have hd:=FA x.cK;have hd2:=B4.bulk_eq x;rw[e,D2 (by omega) (by omega),B4.dep_eq];rfl
  ·intro s i a ha hi;have e:Ar.ar .add .i64 (i:Int) 1=i+1:=D2 (by omega) (by omega);simp only[C4,B5,hi,decide_true,if_true,E2,ha,Option.bind_some,e];cases V0 N n a<;>rfl
  intro s;simp[C4,B5]
theorem WC {N:Nat} (hN:40000000≤N):∀(n:Nat) (x:B4),x.bulk≤n→x.bulk≤16777216→BB N n x=some ((x.pre.length:Int),(x.dep:Int)):=by
 intro n
 induction n with
 |zero=>intro x h;have:=Dn x;omega
 | succ n ih=>
  intro x hx hb;have hl:=EK x;unfold BB;rw[G4 x.cK (by omega) (mk:=fun(s:Int×Int) i=>(s.1,s.2,i)) (body:=fun(s:Int×Int) a=>(BB N n a).bind fun r=>some (.inl (Ar.ar .add .i64 s.1 r.1,Ar.mx s.2 r.2))) (fin:=fun s=>s) (s:=(1,0)) (by omega) ?_ ?_]
  ·have hp:=Fo x.cK;have hd:=FA x.cK;have hbe:=B4.bulk_eq x
   obtain⟨s',k1,k2⟩:=Cw (R:=Int×Int) (step:=fun(s:Int×Int) a=>(BB N n a).bind fun r=>some (.inl (Ar.ar .add .i64 s.1 r.1,Ar.mx s.2 r.2))) (fun r s=>(∀a∈r,a∈x.cK)∧0≤s.2∧0≤s.1∧s.1+(B4.pres r).length=(B4.pres x.cK).length+1∧max s.2 (B4.deps r:Int)=(B4.deps x.cK:Int)) (fun a r s ⟨h1,h2,h3,h4,h5⟩=>by
    have hm:=Y6 (h1 a (by simp))
    simp only[B4.pres,List.length_append,B4.deps]at h4 h5
    refine⟨_,by rw[ih a (by omega) (by omega)];rfl,fun b hb=>h1 b (by simp[hb]),?_,?_,?_,?_⟩
    ·simp only[GH];split<;>omega
    ·rw[D2 (by omega) (by omega)];omega
    ·rw[D2 (by omega) (by omega)];omega
    rw[←h5];simp only[GH];split<;>omega) (l:=x.cK) (s:=(1,0)) ⟨fun a h=>h,by simp,by simp,by simp only;omega,by simp only;omega⟩
   simp only[k1,Option.bind_some];obtain⟨_,_,_,e1,e2⟩:=k2
   simp only[B4.pres,List.length_nil,B4.deps]at e1 e2
   have e3:s'.1=(x.pre.length:Int):=by rw[B4.pre_eq];simp only[List.length_cons];omega
   have e4:s'.2=(B4.deps x.cK:Int):=by omega
   rw[e3,e4,D2 (by omega) (by omega),B4.dep_eq];rfl
  ·intro s i a ha hi;have e:Ar.ar .add .i64 (i:Int) 1=i+1:=D2 (by omega) (by omega);simp only[C4,B5,hi,decide_true,if_true,E2,ha,Option.bind_some,e];cases BB N n a<;>rfl
  intro s;simp[C4,B5]
theorem Oe {f:B4→Int}:∀l:List B4,S9 (fun a=>S9 f a.pre) l=S9 f (B4.pres l)
 |[]=>rfl
 |a::l=>by rw[B4.pres,Mb,S9,Oe l]
theorem Rz {a y:B4} (hy:y∈a.pre):∀l:List B4,a∈l→y∈B4.pres l
 |[],h=>by simp at h
 |b::l,h=>by
  rcases List.mem_cons.1 h with rfl|h
  ·simp[B4.pres,hy]
  simp[B4.pres,Rz hy l h]
theorem XY {N:Nat} (hN:40000000≤N) {F:B4→Option Int} {f:B4→Int}:∀(n:Nat) (x:B4),x.bulk≤n→x.bulk≤16777216→(∀y∈x.pre,F y=some (f y))→Bo N n x F=some (S9 f x.pre):=by
 intro n
 induction n with
 |zero=>intro x h;have:=Dn x;omega
 | succ n ih=>
  intro x hx hb hF;have hl:=EK x;have hpe:=B4.pre_eq x;unfold Bo;rw[hF x (by rw[hpe];simp)];simp only[Option.bind_some,I9];rw[hpe,S9]
  by_cases hz:f x=0
  ·simp only[hz,decide_true,Bool.not_true,Bool.false_eq_true,if_false,if_true];rw[G4 x.cK (by omega) (mk:=fun(_:Unit) i=>i) (body:=AM fun a=>Bo N n a F) (fin:=fun _=>.inl ()) (s:=()) (by omega) ?_ ?_]
   ·rw[Y3 (f:=fun a=>S9 f a.pre) fun a ha=>ih a (by have:=Y6 ha;omega) (by have:=Y6 ha;omega) fun y hy=>hF y (by rw[hpe];exact List.mem_cons_of_mem _ (Rz hy _ ha)),Oe]
    by_cases hz3:S9 f (B4.pres x.cK)=0
    ·simp[hz3]
    simp[hz3]
   ·intro s i a ha hi;have e:Ar.ar .add .i64 (i:Int) 1=i+1:=D2 (by omega) (by omega);simp only[C4,B5,hi,decide_true,if_true,E2,ha,Option.bind_some,e,AM,I9]
    cases Bo N n a F with
    |none=>rfl
    |some r=>by_cases h:r=0<;>simp[h]
   intro s;simp[C4,B5]
  simp[hz]
theorem Xe {N:Nat} (hN:40000000≤N) {f:B4→Int} (hF:∀y,CX N y=some (f y)):∀(n:Nat) (x:B4),x.bulk≤n→x.bulk≤16777216→Ae N n x=some (S9 f x.pre):=by
 intro n
 induction n with
 |zero=>intro x h;have:=Dn x;omega
 | succ n ih=>
  intro x hx hb;have hl:=EK x;have hpe:=B4.pre_eq x;unfold Ae;rw[hF x];simp only[Option.bind_some,I9];rw[hpe,S9]
  by_cases hz:f x=0
  ·simp only[hz,decide_true,Bool.not_true,Bool.false_eq_true,if_false,if_true];rw[G4 x.cK (by omega) (mk:=fun(_:Unit) i=>i) (body:=AM fun a=>Ae N n a) (fin:=fun _=>.inl ()) (s:=()) (by omega) ?_ ?_]
   ·rw[Y3 (f:=fun a=>S9 f a.pre) fun a ha=>ih a (by have:=Y6 ha;omega) (by have:=Y6 ha;omega),Oe]
    by_cases hz3:S9 f (B4.pres x.cK)=0
    ·simp[hz3]
    simp[hz3]
   ·intro s i a ha hi;have e:Ar.ar .add .i64 (i:Int) 1=i+1:=D2 (by omega) (by omega);simp only[C4,B5,hi,decide_true,if_true,E2,ha,Option.bind_some,e,AM,I9]
    cases Ae N n a with
    |none=>rfl
    |some r=>by_cases h:r=0<;>simp[h]
   intro s;simp[C4,B5]
  simp[hz]
end Go.Ab
namespace Go.Ab
theorem MM {a b:ByteArray}:a.toList=b.toList↔a=b:=by
 rw[ByteArray.toList_eq,ByteArray.toList_eq]
 constructor
 ·intro h;obtain⟨⟨a⟩⟩:=a;obtain⟨⟨b⟩⟩:=b
  simp at h
  subst h;rfl
 intro h;rw[h]
theorem RP (a b:ByteArray):Ar.scmp .neq a b= !decide (a=b):=by
 show(!(a.toList==b.toList))=_
 by_cases h:a=b
 ·subst h;simp
 have:a.toList≠b.toList:=fun e=>h (MM.1 e);simp[h,this]
theorem DC (a b:ByteArray):Ar.scmp .eql a b=decide (a=b):=by
 show(a.toList==b.toList)=_
 by_cases h:a=b
 ·subst h;simp
 have:a.toList≠b.toList:=fun e=>h (MM.1 e);simp[h,this]
theorem Ap1 (N:Nat)(op:Int):EU N op=some (if op<0∨12<op then(0,false)else if op<5 then(0,true)else if op=12 then(1,true)else(2,true)):=by
 unfold EU;simp only[C4,Z0,C5,G9,Bool.or_eq_true,decide_eq_true_eq]
 split
 ·rfl
 split
 ·rfl
 split<;>rfl
theorem Ai3 (N:Nat) (op:Int):DG N op=some (if op<0∨12<op then -1 else if op<5 then 0 else if op=12 then 1 else 2):=by
 have h:op<0∨op=0∨op=1∨op=2∨op=3∨op=4∨op=5∨op=6∨op=7∨op=8∨op=9∨op=10∨op=11∨op=12∨12<op:=by omega
 unfold DG;simp only[C5]
 rcases h with h|h|h|h|h|h|h|h|h|h|h|h|h|h|h
 all_goals first
  |(subst h;rfl)
  | (have h0:op≠0:=by omega
     have h1:op≠1:=by omega
     have h2:op≠2:=by omega
     have h3:op≠3:=by omega
     have h4:op≠4:=by omega
     have h5:op≠5:=by omega
     have h6:op≠6:=by omega
     have h7:op≠7:=by omega
     have h8:op≠8:=by omega
     have h9:op≠9:=by omega
     have ha:op≠10:=by omega
     have hb:op≠11:=by omega
     have hc:op≠12:=by omega
     simp[h0,h1,h2,h3,h4,h5,h6,h7,h8,h9,ha,hb,hc,h])
theorem Ar1 (N:Nat)(op:Int):Gm N op=some (decide (op=1∨op=2∨op=3∨op=4),decide (op=1∨op=4)):=by
 unfold Gm;simp only[C5,decide_eq_true_eq]
 by_cases h1:op=1
 ·simp[h1]
 by_cases h4:op=4
 ·simp[h4]
 by_cases h2:op=2
 ·simp[h2]
 by_cases h3:op=3<;>simp[h1,h2,h3,h4]
theorem Am5 (N:Nat)(op:Int):EA N op=some (decide (op=1∨op=2∨op=3∨op=4),decide (op=1∨op=4)):=by
 unfold EA;simp only[C5,G9]
 by_cases h1:op=1
 ·simp[h1]
 by_cases h4:op=4
 ·simp[h4]
 by_cases h2:op=2
 ·simp[h2]
 by_cases h3:op=3<;>simp[h1,h2,h3,h4]
def J3 (v:A6):Int:=
 if v.Kind=0∨v.Kind=1 then
  if v.Text≠⟨#[]⟩then 3
  else if v.Kind=0∧(v.Num< -1099511627776∨1099511627776<v.Num)∨v.Kind=1∧v.Num≠0∧v.Num≠1 then 2 else 0
 else if v.Kind=2 then(if v.Num≠0 then 3 else if 64<(v.Text.size:Int)then 13 else 0)else 1
theorem Kj (N:Nat) (v:A6):U5 N v=some (J3 v):=by
 obtain⟨k,n,t⟩:=v;unfold U5 Ev J3;simp only[C5,I9,C4,Z0,H6,G9,RP,RC]
 by_cases h0:k=0
 ·subst h0
  by_cases ht:t=⟨#[]⟩
  ·subst ht
   by_cases h1:n< -1099511627776∨1099511627776<n
   ·simp[h1]
   simp[h1];decide
  simp[ht]
 by_cases h1:k=1
 ·subst h1
  by_cases ht:t=⟨#[]⟩
  ·subst ht
   by_cases h2:n=0
   ·simp[h2];decide
   by_cases h3:n=1
   ·simp[h3];decide
   simp[h2,h3]
  simp[ht]
 by_cases h2:k=2
 ·subst h2
  by_cases hn:n=0
  ·simp[hn];split<;>rfl
  simp[hn]
 simp[h0,h1,h2]
theorem Im (N:Nat) (v:A6):X3 N v=some (J3 v):=by
 obtain⟨k,n,t⟩:=v;unfold X3 J3;simp only[C5,I9,C4,Z0,H6,G9,RP,RC]
 by_cases h0:k=0
 ·subst h0
  by_cases ht:t=⟨#[]⟩
  ·subst ht
   by_cases h1:n< -1099511627776∨1099511627776<n
   ·simp[h1]
   simp[h1]
  simp[ht]
 by_cases h1:k=1
 ·subst h1
  by_cases ht:t=⟨#[]⟩
  ·subst ht
   by_cases h2:n=0
   ·simp[h2]
   by_cases h3:n=1
   ·simp[h3]
   have:n<0∨1<n:=by omega
   simp[h2,h3,this]
  simp[ht]
 by_cases h2:k=2
 ·subst h2
  by_cases hn:n=0
  ·simp[hn];split<;>rfl
  simp[hn]
 have:k<0∨2<k:=by omega
 simp[h0,h1,h2,this]
theorem Ye (N:Nat)(k:Int)(v:A6):ET N k v=some (decide (v.Kind=0∨k=4∨k=5)):=by
 unfold ET;simp only[C5,G9]
 by_cases h1:v.Kind=0<;>by_cases h2:k=4<;>by_cases h3:k=5<;>simp[h1,h2,h3]
theorem WA (N:Nat)(k:Int)(v:A6)(h:k≠0):V2 N k v=some (decide (v.Kind=0∨k=4∨k=5)):=by
 unfold V2;simp only[C5,G9]
 by_cases h1:v.Kind=0<;>by_cases h2:k=4<;>by_cases h3:k=5<;>simp[h,h1,h2,h3]
def XZ (op:Int):Bool:=decide (op=1∨op=2∨op=3∨op=4)
def Ya (op:Int):Bool:=decide (op=1∨op=4)
noncomputable def Qp (x:B4):Bool:=Ar.or (Ar.an (XZ x.Op) (Ar.or (Ar.cmp .lss x.Var 0) (Ar.cmp .geq x.Var 16))) (Ar.an (Ya x.Op) (Ar.or (Ar.cmp .lss x.Field 0) (Ar.cmp .geq x.Field 8)))
noncomputable def Ny (x:B4):Bool:=Ar.an (Ar.cmp .eql x.Op 4) (Ar.or (Ar.cmp .lss x.Kind 1) (Ar.cmp .gtr x.Kind 5))
noncomputable def OE (v:A6):Bool:=Ar.an (Ar.cmp .eql v.Kind 0) (Ar.an (Ar.cmp .eql v.Num 0) (Ar.an (Ar.scmp .eql v.Text (⟨#[]⟩)) true))
noncomputable def FO (x:B4):Bool:=Ar.or (Ar.nt (decide (x.Value.Kind=0∨x.Kind=4∨x.Kind=5))) (Ar.an (Ar.cmp .eql x.Kind 1) (Ar.nt (OE x.Value)))
noncomputable def EN (x:B4):Bool:=Ar.or (Ar.or (Ar.or (Ar.an (Ar.nt (XZ x.Op)) (Ar.cmp .neq x.Var 0)) (Ar.an (Ar.nt (Ya x.Op)) (Ar.cmp .neq x.Field 0))) (Ar.an (Ar.nt (Ar.cmp .eql x.Op 4)) (Ar.cmp .neq x.Kind 0))) (Ar.an (Ar.nt (Ar.or (Ar.cmp .eql x.Op 4) (Ar.cmp .eql x.Op 0))) (Ar.nt (OE x.Value)))
noncomputable def Y9 (x:B4):Int:=
 if x.Op<0∨12<x.Op then 1
 else if(x.cK.length:Int)≠(if x.Op<5 then 0 else if x.Op=12 then 1 else 2)then 15
 else if Qp x=true then 2
 else if Ny x=true then 1
 else if(x.Op=4∨x.Op=0)∧J3 x.Value≠0 then J3 x.Value
 else if x.Op=4∧FO x=true then 9
 else if EN x=true then 3 else 0
theorem Xf (N:Nat) (x:B4):CX N x=some (Y9 x):=by
 unfold CX Y9;rw[Ai3,Am5];simp only[Option.bind_some]
 by_cases h0:x.Op<0∨12<x.Op
 ·rw[if_pos h0,if_pos h0];rfl
 rw[if_neg h0,if_neg h0]
 have ha:¬(Ar.cmp .lss (if x.Op<5 then 0 else if x.Op=12 then 1 else 2) 0=true):=by
  rw[C4];simp only[decide_eq_true_eq];split
  ·omega
  split<;>omega
 rw[if_neg ha]
 by_cases h1:(x.cK.length:Int)≠(if x.Op<5 then 0 else if x.Op=12 then 1 else 2)
 ·rw[if_pos h1,if_pos (by simp[I9,B5,h1])]
 rw[if_neg h1,if_neg (by simp only[I9,B5];simpa using h1)]
 change (if Qp x=true then some 2 else _)=_
 by_cases h2:Qp x=true
 ·rw[if_pos h2,if_pos h2]
 rw[if_neg h2,if_neg h2]
 change (if Ny x=true then some 1 else _)=_
 by_cases h3:Ny x=true
 ·rw[if_pos h3,if_pos h3]
 rw[if_neg h3,if_neg h3];rw[Im]
 have e4:(Ar.or (Ar.cmp .eql x.Op 4) (Ar.cmp .eql x.Op 0)=true)↔(x.Op=4∨x.Op=0):=by simp[C5,G9]
 have e6:(Ar.cmp .eql x.Op 4=true)↔x.Op=4:=by simp[C5]
 by_cases h4:x.Op=4∨x.Op=0
 ·rw [if_pos (e4.2 h4)];simp only[Option.bind_some]
  by_cases h5:J3 x.Value=0
  ·have n5:¬(Ar.cmp .neq (J3 x.Value) 0=true):=by simp[I9,h5]
   have n5':¬((x.Op=4∨x.Op=0)∧J3 x.Value≠0):=fun h=>h.2 h5;rw[if_neg n5,if_neg n5'];simp only[Option.bind_some]
   by_cases h6:x.Op=4
   ·rw[if_pos (e6.2 h6)]
    have hk:x.Kind≠0:=by
     intro e;apply h3;simp[Ny,H6,G9,C5,C4,h6,e]
    rw[WA N _ _ hk];simp only[Option.bind_some]
    change (if FO x=true then some 9 else if EN x=true then some 3 else some 0)=_
    by_cases h7:FO x=true
    ·rw[if_pos h7,if_pos (show x.Op=4∧FO x=true from⟨h6,h7⟩)]
    rw[if_neg h7,if_neg (show¬(x.Op=4∧FO x=true)from fun h=>h7 h.2)]
    by_cases h8:EN x=true
    ·rw[if_pos h8,if_pos h8]
    rw[if_neg h8,if_neg h8]
   rw[if_neg (show¬(Ar.cmp .eql x.Op 4=true)from fun h=>h6 (e6.1 h)),if_neg (show¬(x.Op=4∧FO x=true)from fun h=>h6 h.1)]
   change (if EN x=true then some 3 else some 0)=_
   by_cases h8:EN x=true
   ·rw[if_pos h8,if_pos h8]
   rw[if_neg h8,if_neg h8]
  have n5:Ar.cmp .neq (J3 x.Value) 0=true:=by simp[I9,h5]
  rw[if_pos n5,if_pos (show(x.Op=4∨x.Op=0)∧J3 x.Value≠0 from⟨h4,h5⟩)];rfl
 rw[if_neg (show¬(Ar.or (Ar.cmp .eql x.Op 4) (Ar.cmp .eql x.Op 0)=true)from fun h=>h4 (e4.1 h)),if_neg (show¬((x.Op=4∨x.Op=0)∧J3 x.Value≠0)from fun h=>h4 h.1)];simp only[Option.bind_some];have h6:¬x.Op=4:=fun e=>h4 (.inl e);rw[if_neg (show¬(Ar.cmp .eql x.Op 4=true)from fun h=>h6 (e6.1 h)),if_neg (show¬(x.Op=4∧FO x=true)from fun h=>h6 h.1)]
 change (if EN x=true then some 3 else some 0)=_
 by_cases h8:EN x=true
 ·rw[if_pos h8,if_pos h8]
 rw[if_neg h8,if_neg h8]
theorem YN (N:Nat) (x:B4):Es N x=some (Y9 x):=by
 unfold Es Y9;rw[Ap1,Ar1];simp only[Option.bind_some]
 by_cases h0:x.Op<0∨12<x.Op
 ·rw[if_pos h0,if_pos h0];rfl
 rw[if_neg h0,if_neg h0]
 have ha:(if x.Op<5 then((0:Int),true)else if x.Op=12 then(1,true)else(2,true))=((if x.Op<5 then 0 else if x.Op=12 then 1 else 2),true):=by
  split
  ·rfl
  split<;>rfl
 rw[ha];rw[if_neg (by simp[K6])]
 by_cases h1:(x.cK.length:Int)≠(if x.Op<5 then 0 else if x.Op=12 then 1 else 2)
 ·rw[if_pos h1,if_pos (by simp[I9,B5,h1])]
 rw[if_neg h1,if_neg (by simp only[I9,B5];simpa using h1)]
 change (if Qp x=true then some 2 else _)=_
 by_cases h2:Qp x=true
 ·rw[if_pos h2,if_pos h2]
 rw[if_neg h2,if_neg h2]
 change (if Ny x=true then some 1 else _)=_
 by_cases h3:Ny x=true
 ·rw[if_pos h3,if_pos h3]
 rw[if_neg h3,if_neg h3];unfold CJ;rw[Kj]
 have e4:(Ar.or (Ar.cmp .eql x.Op 4) (Ar.cmp .eql x.Op 0)=true)↔(x.Op=4∨x.Op=0):=by simp[C5,G9]
 have e6:(Ar.cmp .eql x.Op 4=true)↔x.Op=4:=by simp[C5]
 by_cases h4:x.Op=4∨x.Op=0
 ·rw[if_pos (e4.2 h4)];simp only[Option.bind_some]
  by_cases h5:J3 x.Value=0
  ·have n5:¬(Ar.cmp .neq (J3 x.Value) 0=true):=by simp[I9,h5]
   have n5':¬((x.Op=4∨x.Op=0)∧J3 x.Value≠0):=fun h=>h.2 h5;rw[if_neg n5,if_neg n5']
   by_cases h6:x.Op=4
   ·rw[if_pos (e6.2 h6),Ye];simp only[Option.bind_some]
    change (((if FO x=true then some 9 else some 0):Option Int).bind _).bind _=_
    by_cases h7:FO x=true
    ·rw[if_pos h7,if_pos (show x.Op=4∧FO x=true from⟨h6,h7⟩)];rfl
    rw[if_neg h7,if_neg (show¬(x.Op=4∧FO x=true)from fun h=>h7 h.2)]
    change (if EN x=true then some 3 else some 0)=_
    by_cases h8:EN x=true
    ·rw[if_pos h8,if_pos h8]
    rw[if_neg h8,if_neg h8]
   rw[if_neg (show¬(Ar.cmp .eql x.Op 4=true)from fun h=>h6 (e6.1 h)),if_neg (show¬(x.Op=4∧FO x=true)from fun h=>h6 h.1)]
   change (if EN x=true then some 3 else some 0)=_
   by_cases h8:EN x=true
   ·rw[if_pos h8,if_pos h8]
   rw[if_neg h8,if_neg h8]
  have n5:Ar.cmp .neq (J3 x.Value) 0=true:=by simp[I9,h5]
  rw[if_pos n5,if_pos (show(x.Op=4∨x.Op=0)∧J3 x.Value≠0 from⟨h4,h5⟩)];simp only[Option.bind_some];rw[if_pos n5];rfl
 rw[if_neg (show¬(Ar.or (Ar.cmp .eql x.Op 4) (Ar.cmp .eql x.Op 0)=true)from fun h=>h4 (e4.1 h)),if_neg (show¬((x.Op=4∨x.Op=0)∧J3 x.Value≠0)from fun h=>h4 h.1)];have h6:¬x.Op=4:=fun e=>h4 (.inl e);rw[if_neg (show¬(x.Op=4∧FO x=true)from fun h=>h6 h.1)]
 change (if EN x=true then some 3 else some 0)=_
 by_cases h8:EN x=true
 ·rw[if_pos h8,if_pos h8]
 rw[if_neg h8,if_neg h8]
end Go.Ab
namespace Go.Ab
theorem W5 {a b:Int}(h:b<a):Ar.cmp .gtr a b=true:=by rw[Z0];exact decide_eq_true h
theorem U1 {a b:Int}(h:¬b<a):¬(Ar.cmp .gtr a b=true):=by rw[Z0];simpa using h
theorem J5 {a b:Int}(h:a≠b):Ar.cmp .neq a b=true:=by rw[I9];simpa using h
theorem J6 {a b:Int}(h:a=b):¬(Ar.cmp .neq a b=true):=by rw[I9];simpa using h
noncomputable def L8 (x:B4):Int:=if 64<x.pre.length then 5 else if 12<x.dep then 12 else S9 Y9 x.pre
theorem PD {N:Nat}(hN:40000000≤N){x:B4}(hb:x.bulk≤16777216):Df N x=some (L8 x):=by
 unfold Df L8;rw[WC hN N x (by omega) hb];simp only[Option.bind_some]
 by_cases h1:64<x.pre.length
 ·rw[if_pos h1,if_pos (W5 (by omega))]
 rw[if_neg h1,if_neg (U1 (by omega))]
 by_cases h2:12<x.dep
 ·rw[if_pos h2,if_pos (W5 (by omega))]
 rw[if_neg h2,if_neg (U1 (by omega)),XY hN N x (by omega) hb fun y _=>YN N y];rfl
theorem NX {N:Nat}(hN:40000000≤N){x:B4}(hb:x.bulk≤16777216):Bk N x=some (L8 x):=by
 unfold Bk L8;obtain⟨r,h0,c1,c2,c3⟩:=Tn hN 64 N x (by omega) hb;rw[h0];simp only[Option.bind_some]
 by_cases h1:64<x.pre.length
 ·rw[if_pos h1,if_pos (W5 (by omega))]
 rw[if_neg h1,if_neg (U1 (by omega)),NS hN N x (by omega) hb];simp only[Option.bind_some]
 by_cases h2:12<x.dep
 ·rw[if_pos h2,if_pos (W5 (by omega))]
 rw[if_neg h2,if_neg (U1 (by omega)),Xe hN (fun y=>Xf N y) N x (by omega) hb];rfl
noncomputable def ND (a b:B4):Bool:=Ar.or (Ar.or (Ar.or (Ar.or (Ar.or (Ar.cmp .neq a.Op b.Op) (Ar.cmp .neq a.Var b.Var)) (Ar.cmp .neq a.Field b.Field)) (Ar.cmp .neq a.Kind b.Kind)) (Ar.nt (Ar.an (Ar.cmp .eql a.Value.Kind b.Value.Kind) (Ar.an (Ar.cmp .eql a.Value.Num b.Value.Num) (Ar.an (Ar.scmp .eql a.Value.Text b.Value.Text) true))))) (Ar.cmp .neq (Ar.len a.cK) (Ar.len b.cK))
theorem OQ (N:Nat):∀(n:Nat) (a b:B4),Et N n a b=Q9 N n a b
 |0,_,_=>rfl
 |n+1,a,b=>by
  unfold Et Q9;simp only[OQ N n]
theorem OP {N:Nat} (hN:40000000≤N) (x:B4):∃b,Q9 N N x (⟨0,[],0,0,0,(⟨0,0,⟨#[]⟩⟩:A6)⟩:B4)=some b:=by
 obtain⟨M,rfl⟩:∃M,N=M+1:=⟨N - 1,by omega⟩;rw[Q9];generalize hz:(⟨0,[],0,0,0,(⟨0,0,⟨#[]⟩⟩:A6)⟩:B4)=z
 change ∃b,(if ND x z=true then some false else _)=some b
 by_cases h:ND x z=true
 ·rw[if_pos h];exact⟨_,rfl⟩
 rw[if_neg h]
 have hlen:x.cK.length=0:=by
  subst hz
  simp only[ND,G9,I9,B5,List.length_nil]at h
  simp at h
  simpa using h.2
 have:x.cK=[]:=List.length_eq_zero_iff.1 hlen;refine⟨true,?_⟩;rw[show M+1=(M+1 - 1)+1 by omega];simp only[loopN,this,C4,B5];rfl
end Go.Ab
namespace Go.Ab
def DM (u:Bool)(n m:Int):Bool:=u&&(decide (n<0)||decide (m<n))
def P0 (u:Bool)(n:Int):Bool:=u||decide (n=0)
theorem Il (N:Nat)(u:Bool)(n m:Int):S5 N u n m=some (!DM u n m):=by
 unfold S5;simp only[G9,H6,K6,L3,AU,DM];cases u
 ·rfl
 by_cases h1:n<0<;>by_cases h2:m<n<;>simp[h1,h2]<;>omega
theorem Wz (N:Nat)(u:Bool)(n:Int):M0 N u n=some (P0 u n):=rfl
theorem Ao9 (N:Nat)(u:Bool)(n m:Int):Z3 N u n m=some (DM u n m):=rfl
noncomputable def JF (s:L1)(x:A0)(sz:Bool):Int:=
 if DM s.cN x.Typ 15=true then 2
 else if DM s.cN x.Var 15=true then 2
 else if DM s.scope x.cO 63=true then 2
 else if DM s.span x.Span 1099511627776=true then 2
 else if s.cond=true∧L8 x.cL≠0 then L8 x.cL
 else if(s.cond||sz)=true∧P0 s.cN x.Typ=true∧P0 s.cN x.Var=true∧P0 s.scope x.cO=true∧P0 s.span x.Span=true then 0 else 3
structure KW (N:Nat) (x:A0) (s:L1) (ng:Bool):Prop where
 tab:B9 H7 x.Op=some s
 var:V9 N x=some s.cN
 neg:Y2 N x=some ng
 tim:U8 N x=some s.span
 con:Az N x=some s.cond
 sco:s.scope=(ng||s.span)
 ari:DE N x=some (decide (s.cR≤x.cK.length∧(x.cK.length:Int)≤s.most))
theorem Ao2 (n k:Int):decide (n=k)=(decide (k≤n)&&decide (n≤k)):=by
 rw[←Bool.decide_and];exact decide_eq_decide.2 ⟨fun h=>by omega,fun h=>by omega⟩
theorem MX (N:Nat) (x:A0) (h0:0≤x.Op) (h1:x.Op≤10) (hl:x.cK.length≤64):∃s ng,KW N x s ng:=by
 obtain⟨op,args,typ,var,scope,span,c⟩:=x
 simp only at h0 h1 hl
 have h:op=0∨op=1∨op=2∨op=3∨op=4∨op=5∨op=6∨op=7∨op=8∨op=9∨op=10:=by omega
 rcases h with h|h|h|h|h|h|h|h|h|h|h
 all_goals
  subst h;refine⟨_,_,rfl,rfl,rfl,rfl,rfl,rfl,?_⟩;unfold DE;simp only[C5,L3,B5];simp
  try first|omega|exact Ao2 _ _
theorem Ar8 {x:A0}(h0:0≤x.Op)(h1:x.Op≤10):¬(Ar.or (Ar.cmp .lss x.Op 0) (Ar.cmp .geq x.Op 11)=true):=by
 simp only[G9,C4,L3,Bool.or_eq_true,decide_eq_true_eq];omega
theorem An0 {x:A0}(h0:0≤x.Op)(h1:x.Op≤10):¬(Ar.or (Ar.cmp .lss x.Op 0) (Ar.cmp .gtr x.Op 10)=true):=by
 simp only[G9,C4,Z0,Bool.or_eq_true,decide_eq_true_eq];omega
theorem Ak5 {x:A0}(h:¬(0≤x.Op∧x.Op≤10)):Ar.or (Ar.cmp .lss x.Op 0) (Ar.cmp .geq x.Op 11)=true∧Ar.or (Ar.cmp .lss x.Op 0) (Ar.cmp .gtr x.Op 10)=true:=by
 simp only[G9,C4,L3,Z0,Bool.or_eq_true,decide_eq_true_eq];omega
theorem XB {N:Nat} (hN:40000000≤N) {x:A0} (hb:x.cL.bulk≤16777216) (h0:0≤x.Op) (h1:x.Op≤10) {s:L1} {ng:Bool} (hs:KW N x s ng) {sz:Bool}
 (hz:Q9 N N x.cL (⟨0,[],0,0,0,(⟨0,0,⟨#[]⟩⟩:A6)⟩:B4)=some sz):
 R6 N x=some (if s.cR≤x.cK.length∧(x.cK.length:Int)≤s.most then JF s x sz else 15):=by
 unfold R6;rw[if_neg (Ar8 h0 h1),hs.tab];simp only[Option.bind_some]
 by_cases ha:s.cR≤x.cK.length∧(x.cK.length:Int)≤s.most
 ·rw [if_pos ha,if_neg (by simp only[G9,C4,Z0,B5,Bool.or_eq_true,decide_eq_true_eq];omega)];rw[Il,Il,Il,Il,PD hN hb,OQ,hz];simp only[Wz,Option.bind_some];unfold JF;generalize DM s.cN x.Typ 15=b1;generalize DM s.cN x.Var 15=b2;generalize DM s.scope x.cO 63=b3;generalize DM s.span x.Span 1099511627776=b4;generalize P0 s.cN x.Typ=c1;generalize P0 s.cN x.Var=c2;generalize P0 s.scope x.cO=c3;generalize P0 s.span x.Span=c4;generalize L8 x.cL=ec
  cases b1 with
  |true=>rfl
  | false =>
   cases b2 with
   |true=>rfl
   | false =>
    cases b3 with
    |true=>rfl
    | false=>
     cases b4 with
     |true=>rfl
     | false=>
      cases s.cond with
      | false=>
       cases sz with
       |false=>rfl
       | true=>
        cases c1 with
        |false=>rfl
        | true=>
         cases c2 with
         |false=>rfl
         | true=>
          cases c3 with
          |false=>rfl
          |true=>
           cases c4<;>rfl
      | true=>
       by_cases he:ec=0
       ·subst he
        cases c1 with
        |false=>cases sz<;>rfl
        | true=>
         cases c2 with
         |false=>cases sz<;>rfl
         | true=>
          cases c3 with
          |false=>cases sz<;>rfl
          |true=>
           cases c4<;>cases sz<;>rfl
       simp[K6,J5 he,he]
 rw[if_neg ha,if_pos (by simp only[G9,C4,Z0,B5,Bool.or_eq_true,decide_eq_true_eq];omega)]
theorem Nz (u:Bool)(n:Int):Ar.an (Ar.nt u) (Ar.cmp .neq n 0)= !P0 u n:=by
 simp only[H6,K6,I9,P0,Bool.not_or]
theorem VT (u w:Bool)(t v sc:Int):Ar.or (Ar.an (Ar.nt u) (Ar.or (Ar.cmp .neq t 0) (Ar.cmp .neq v 0))) (Ar.an (Ar.nt w) (Ar.cmp .neq sc 0))=((!P0 u t|| !P0 u v)|| !P0 w sc):=by
 rw[Nz];simp only[G9,H6,K6,I9,P0];cases u<;>simp
theorem GR {N:Nat} (hN:40000000≤N) {x:A0} (hb:x.cL.bulk≤16777216) (h0:0≤x.Op) (h1:x.Op≤10) {s:L1} {ng:Bool} (hs:KW N x s ng) {sz:Bool}
 (hz:Q9 N N x.cL (⟨0,[],0,0,0,(⟨0,0,⟨#[]⟩⟩:A6)⟩:B4)=some sz):
 W0 N x=some (if s.cR≤x.cK.length∧(x.cK.length:Int)≤s.most then JF s x sz else 15):=by
 unfold W0;rw[if_neg (An0 h0 h1),hs.ari,hs.var,hs.neg,hs.tim,hs.con,NX hN hb,hz];simp only[Option.bind_some]
 by_cases ha:s.cR≤x.cK.length∧(x.cK.length:Int)≤s.most
 ·rw [if_pos ha,if_neg (by simp[K6,ha])];have sco:=hs.sco;simp only[Ao9,Option.bind_some];cases ng
  ·rw [if_neg (by simp)]
   simp only[Bool.false_or]at sco
   rw[VT,Nz];unfold JF;rw[sco];generalize DM s.cN x.Typ 15=b1;generalize DM s.cN x.Var 15=b2;generalize DM s.span x.cO 63=b3;generalize DM s.span x.Span 1099511627776=b4;generalize P0 s.cN x.Typ=c1;generalize P0 s.cN x.Var=c2;generalize P0 s.span x.cO=c3;generalize P0 s.span x.Span=c4;generalize L8 x.cL=ec
   cases b1 with
   |true=>rfl
   | false=>
    cases b2 with
    |true=>rfl
    | false=>
     cases b3 with
     |true=>rfl
     | false=>
      cases b4 with
      |true=>rfl
      | false=>
       cases s.cond with
       |false=>cases sz<;>cases c1<;>cases c2<;>cases c3<;>cases c4<;>rfl
       |true=>
        by_cases he:ec=0
        ·subst he;cases sz<;>cases c1<;>cases c2<;>cases c3<;>cases c4<;>rfl
        simp[J5 he,he]
  rw[if_pos rfl]
  simp only[Bool.true_or]at sco
  rw[VT,Nz];unfold JF;rw[sco];generalize DM s.cN x.Typ 15=b1;generalize DM s.cN x.Var 15=b2;generalize DM true x.cO 63=b3;generalize DM s.span x.Span 1099511627776=b4;generalize P0 s.cN x.Typ=c1;generalize P0 s.cN x.Var=c2;generalize P0 true x.cO=c3;generalize P0 s.span x.Span=c4;generalize L8 x.cL=ec
  cases b1 with
  |true=>rfl
  | false=>
   cases b2 with
   |true=>rfl
   | false=>
    cases b3 with
    |true=>rfl
    | false=>
     cases b4 with
     |true=>rfl
     | false=>
      cases s.cond with
      |false=>cases sz<;>cases c1<;>cases c2<;>cases c3<;>cases c4<;>rfl
      |true=>
       by_cases he:ec=0
       ·subst he;cases sz<;>cases c1<;>cases c2<;>cases c3<;>cases c4<;>rfl
       simp[J5 he,he]
 rw[if_neg ha,if_pos (by simp only[K6,decide_eq_false ha];rfl)]
end Go.Ab
namespace Go.Ab
mutual
theorem Fp :∀(x y:A0),y∈x.pre→y.bulk≤x.bulk∧y.pre.length≤x.pre.length
 |⟨op,args,typ,var,scope,span,c⟩,y,h=>by
  rw[A0.pre]at h
  rcases List.mem_cons.1 h with rfl|h
  ·exact⟨Nat.le_refl _,Nat.le_refl _⟩
  have:=Nu args y h;simp only[A0.bulk,A0.pre,List.length_cons];omega
theorem Nu :∀(l:List A0) (y:A0),y∈A0.pres l→y.bulk≤A0.bulks l∧y.pre.length≤(A0.pres l).length
 |[],y,h=>by simp[A0.pres]at h
 |a::l,y,h=>by
  rw[A0.pres]at h
  rcases List.mem_append.1 h with h|h
  ·have:=Fp a y h;simp only[A0.bulks,A0.pres,List.length_append];omega
  have:=Nu l y h;simp only[A0.bulks,A0.pres,List.length_append];omega
end
theorem PG :∀l:List A0,l.length≤(A0.pres l).length
 |[]=>Nat.le_refl _
 |a::l=>by
  have:=PG l;simp only[A0.pres,A0.pre_eq a,List.length_append,List.length_cons];omega
theorem EY (x:A0):x.cK.length<x.pre.length:=by
 rw[A0.pre_eq];have:=PG x.cK;simp only[List.length_cons];omega
noncomputable def Bw (N:Nat)(y:A0):Int:=(W0 N y).getD 0
theorem El {N:Nat} (hN:40000000≤N) {y:A0} (hb:y.bulk≤16777216) (hl:y.cK.length≤64):R6 N y=some (Bw N y)∧W0 N y=some (Bw N y):=by
 have hc:y.cL.bulk≤16777216:=by have:=A0.bulk_eq y;omega
 have key:∃r,R6 N y=some r∧W0 N y=some r:=by
  by_cases h:0≤y.Op∧y.Op≤10
  ·obtain⟨s,ng,hs⟩:=MX N y h.1 h.2 hl;obtain⟨sz,hz⟩:=OP hN y.cL;exact⟨_,XB hN hc h.1 h.2 hs hz,GR hN hc h.1 h.2 hs hz⟩
  obtain⟨h1,h2⟩:=Ak5 h;exact⟨1,by unfold R6;rw[if_pos h1],by unfold W0;rw[if_pos h2]⟩
 obtain⟨r,h1,h2⟩:=key
 have e:Bw N y=r:=by unfold Bw;rw[h2];rfl
 rw[e];exact⟨h1,h2⟩
noncomputable def Q5 (N:Nat)(x:A0):Int:=if 64<x.pre.length then 5 else if 12<x.dep then 12 else S9 (Bw N) x.pre
theorem HF {N:Nat}(hN:40000000≤N){x:A0}(hb:x.bulk≤16777216):O3 N x=some x.pre:=by
 unfold O3 An;rw[Aa8 hN N x (by omega) hb];simp[Bc]
theorem Ac1 {N:Nat}(hN:40000000≤N){x:A0}(hb:x.bulk≤16777216):X4 N x=some (Q5 N x):=by
 unfold X4 Q5;rw[Ab5 hN N x (by omega) hb];simp only[Option.bind_some]
 by_cases h1:64<x.pre.length
 ·rw[if_pos h1,if_pos (W5 (by omega))]
 rw[if_neg h1,if_neg (U1 (by omega))]
 by_cases h2:12<x.dep
 ·rw[if_pos h2,if_pos (W5 (by omega))]
 rw[if_neg h2,if_neg (U1 (by omega)),HF hN hb];simp only[Option.bind_some];rw[OX (f:=Bw N) fun y hy=>(El hN (by have:=Fp x y hy;omega) (by have:=Fp x y hy;have:=EY y;omega)).1]
 by_cases h3:S9 (Bw N) x.pre=0
 ·rw[if_pos h3];simp[h3]
 rw[if_neg h3];rfl
theorem Yw {N:Nat} (hN:40000000≤N) {x:A0} (hb:x.bulk≤16777216):AA N x=some (Q5 N x):=by
 unfold AA Q5;obtain⟨r,h0,c1,c2,c3⟩:=Rt hN 64 N x (by omega) hb;rw[h0];simp only[Option.bind_some]
 by_cases h1:64<x.pre.length
 ·rw[if_pos h1,if_pos (W5 (by omega))]
 rw[if_neg h1,if_neg (U1 (by omega)),Tl hN N x (by omega) hb];simp only[Option.bind_some]
 by_cases h2:12<x.dep
 ·rw[if_pos h2,if_pos (W5 (by omega))]
 rw[if_neg h2,if_neg (U1 (by omega)),No hN N x (by omega) hb];simp only[Option.bind_some];rw[G4 x.pre (by omega) (mk:=fun(_:Unit) i=>i) (body:=AM (W0 N)) (fin:=fun _=>.inl ()) (s:=()) (by omega) ?_ ?_]
 ·rw[Y3 (f:=Bw N) fun y hy=>(El hN (by have:=Fp x y hy;omega) (by have:=Fp x y hy;have:=EY y;omega)).2]
  by_cases h3:S9 (Bw N) x.pre=0
  ·simp[h3]
  simp[h3]
 ·intro s i a ha hi;have e:Ar.ar .add .i64 (i:Int) 1=i+1:=D2 (by omega) (by omega);simp only[C4,B5,hi,decide_true,if_true,E2,ha,Option.bind_some,e,AM,I9]
  cases W0 N a with
  |none=>rfl
  |some r=>by_cases h:r=0<;>simp[h]
 intro s;simp[C4,B5]
end Go.Ab
namespace Go.Ab
def XJ (N:Nat)(x:A0):Prop:=∀y∈x.pre,Bw N y=0
theorem Js {a y:A0} (hy:y∈a.pre):∀l:List A0,a∈l→y∈A0.pres l
 |[],h=>by simp at h
 |b::l,h=>by
  rcases List.mem_cons.1 h with rfl|h
  ·simp[A0.pres,hy]
  simp[A0.pres,Js hy l h]
theorem XJ.arg {N:Nat}{x a:A0}(h:XJ N x)(ha:a∈x.cK):XJ N a:=fun y hy=>h y (by
 rw[A0.pre_eq];exact List.mem_cons_of_mem _ (Js hy _ ha))
theorem Cc {x a:A0}(ha:a∈x.cK):a.pre.length<x.pre.length:=by
 have:=(Nu x.cK a (Js (by rw[A0.pre_eq];simp) _ ha)).2;rw[A0.pre_eq x];simp only[List.length_cons];omega
theorem ZQ {N:Nat} (hN:40000000≤N) {y:A0} (hb:y.bulk≤16777216) (hl:y.cK.length≤64) (h:Bw N y=0) (ho:y.Op=1∨y.Op=7∨y.Op=8∨y.Op=9∨y.Op=10):∃a r,y.cK=a::r:=by
 have hc:y.cL.bulk≤16777216:=by have:=A0.bulk_eq y;omega
 obtain⟨s,ng,hs⟩:=MX N y (by omega) (by omega) hl;obtain⟨sz,hz⟩:=OP hN y.cL;have h1:=GR hN hc (by omega) (by omega) hs hz
 rw[(El hN hb hl).2,h]at h1
 have h2:s.cR≤y.cK.length:=by
  have h1:=Option.some.inj h1
  by_cases hc:s.cR≤y.cK.length∧(y.cK.length:Int)≤s.most
  ·exact hc.1
  rw[if_neg hc]at h1;cases h1
 have h3:1≤s.cR:=by
  have ht:=hs.tab
  rcases ho with h|h|h|h|h<;>rw[h]at ht<;>cases ht<;>decide
 match he:y.cK,h2 with
 |[],h2=>simp at h2;omega
 |a::r,_=>exact⟨a,r,rfl⟩
theorem K9 {a b:Int}(h:a=b):Ar.cmp .eql a b=true:=by rw[C5];exact decide_eq_true h
theorem Z7 {a b:Int}(h:¬a=b):Ar.cmp .eql a b=false:=by rw[C5];exact decide_eq_false h
theorem few8 {N:Nat}(hN:40000000≤N){x:B4}(hb:x.bulk≤16777216):∃b,Cs N x=some b:=by
 unfold Cs;obtain⟨r,h0,_⟩:=Tn hN 200 N x (by omega) hb;rw[h0];simp only[Option.bind_some]
 split
 ·rw[NS hN N x (by omega) hb];exact⟨_,rfl⟩
 exact⟨_,rfl⟩
theorem HB {α:Type} {F:α→Option Bool}:∀(l:List α),(∀a∈l,∃b,F a=some b)→∃o,G5 (fun(_:Unit) a=>(F a).bind fun r=>if Ar.nt r=true then some (Sum.inr (Sum.inr (α:=Unit) ()))else some (.inl ())) l ()=some o
 |[],_=>⟨_,rfl⟩
 |a::l,h=>by
  obtain⟨b,hb⟩:=h a (by simp);unfold G5;rw[hb]
  cases b with
  |false=>exact⟨_,rfl⟩
  |true=>exact HB l fun a ha=>h a (by simp[ha])
theorem few9 {N:Nat} (hN:40000000≤N) {x:A0} (hb:x.bulk≤16777216):∃b,FW N x=some b:=by
 unfold FW;obtain⟨r,h0,_⟩:=Rt hN 150 N x (by omega) hb;rw[h0];simp only[Option.bind_some]
 split
 ·exact⟨_,rfl⟩
 rw[Tl hN N x (by omega) hb];simp only[Option.bind_some]
 split
 ·exact⟨_,rfl⟩
 rw[No hN N x (by omega) hb];simp only[Option.bind_some];have hp:=GC x;rw[G4 x.pre (by omega) (mk:=fun(_:Unit) i=>i) (body:=fun(_:Unit) a=>(Cs N a.cL).bind fun r=>if Ar.nt r=true then some (.inr (.inr ()))else some (.inl ())) (fin:=fun _=>.inl ()) (s:=()) (by omega) ?_ ?_]
 ·obtain⟨o,ho⟩:=HB (F:=fun(a:A0)=>Cs N a.cL) x.pre fun a ha=>few8 hN (by have:=(Fp x a ha).1;have:=A0.bulk_eq a;omega);rw[ho]
  cases o with
  |inl _=>exact⟨_,rfl⟩
  |inr o=>cases o<;>exact⟨_,rfl⟩
 ·intro s i a ha hi;have e:Ar.ar .add .i64 (i:Int) 1=i+1:=D2 (by omega) (by omega);simp only[C4,B5,hi,decide_true,if_true,E2,ha,Option.bind_some,e]
  cases Cs N a.cL with
  |none=>rfl
  |some r=>cases r<;>rfl
 intro s;simp[C4,B5]
end Go.Ab
namespace Go.Ab
theorem Nw {S R:Type} {step:S→Option (S ⊕ R)} (I:Nat→S→Prop) (Q:R→Prop):∀(k i:Nat) (s:S) (N:Nat),k<N→I i s→
 (∀j s,i≤j→j<i+k→I j s→∃o,step s=some o∧(match o with| .inl s'=>I (j+1) s'| .inr r=>Q r))→
 (∀s,I (i+k) s→∃r,step s=some (.inr r)∧Q r)→∃r,loopN step N s=some r∧Q r
 |0,i,s,N,hN,h0,_,he=>by
  obtain⟨N,rfl⟩:∃M,N=M+1:=⟨N - 1,by omega⟩;obtain⟨r,h1,h2⟩:=he s h0;exact⟨r,by simp only[loopN,h1],h2⟩
 | k+1,i,s,N,hN,h0,hs,he=>by
  obtain⟨N,rfl⟩:∃M,N=M+1:=⟨N - 1,by omega⟩;obtain⟨o,h1,h2⟩:=hs i s (Nat.le_refl _) (by omega) h0
  cases o with
  |inl s'=>
   obtain⟨r,h3,h4⟩:=Nw I Q k (i+1) s' N (by omega) h2 (fun j s a b c=>hs j s (by omega) (by omega) c) (fun s h=>he s (by rw[show i+(k+1)=i+1+k by omega];exact h));exact⟨r,by simp only[loopN,h1,h3],h4⟩
  |inr r=>exact⟨r,by simp only[loopN,h1],h2⟩
noncomputable instance :DecidableEq B4:=Classical.typeDecidableEq _
noncomputable instance :DecidableEq A0:=Classical.typeDecidableEq _
theorem VX {i:Nat}(h:i<1000000000000):Ar.ar .add .i64 (i:Int) 1=((i+1:Nat):Int):=by rw[D2 (by omega) (by omega)];omega
theorem Ah3 {α:Type} [DecidableEq α] {N:Nat} (l m:List α) (hl:l.length=m.length) (hs:l.length<1000000000000) (f:α→α→Option Bool) (hf:∀x∈l,∀y∈m,f x y=some (decide (x=y))) (hN:l.length<N):
 loopN (fun(i:Int)=>if Ar.cmp .lss i (Ar.len l)=true then(B9 l i).bind fun x=>(B9 m i).bind fun y=>(f x y).bind fun r=>if Ar.nt r=true then some (Sum.inr (Sum.inr (α:=Unit) ()))else some (.inl (Ar.ar .add .i64 i 1))else some (.inr (.inl ()))) N 0=some (if l=m then .inl ()else .inr ()):=by
 obtain⟨r,h1,h2⟩:=Nw (step:=fun(i:Int)=>if Ar.cmp .lss i (Ar.len l)=true then(B9 l i).bind fun x=>(B9 m i).bind fun y=>(f x y).bind fun r=>if Ar.nt r=true then some (Sum.inr (Sum.inr (α:=Unit) ()))else some (.inl (Ar.ar .add .i64 i 1))else some (.inr (.inl ())))
  (fun j s=>s=(j:Int)∧l.take j=m.take j) (fun r=>r=if l=m then .inl ()else .inr ()) l.length 0 0 N hN ⟨rfl,by simp⟩
  (fun j s _ hj ⟨e,ht⟩=>by
   subst e
   simp only[Nat.zero_add]at hj
   have hj2:j<m.length:=by omega
   have e1:l[j]? =some l[j]:=by simp[hj]
   have e2:m[j]? =some m[j]:=by simp[hj2]
   simp only[C4,B5,show((j:Int)<(l.length:Int)) by omega,decide_true,if_true,E2,e1,e2,Option.bind_some,hf _ (List.getElem_mem hj) _ (List.getElem_mem hj2)]
   by_cases h:l[j]=m[j]
   ·simp only[h,decide_true,K6,Bool.not_true,Bool.false_eq_true,if_false];refine⟨_,rfl,VX (by omega),?_⟩;rw[List.take_add_one,List.take_add_one,ht,e1,e2,h]
   simp only[h,decide_false,K6,Bool.not_false,if_true];refine⟨_,rfl,?_⟩
   rw[if_neg fun he=>h (by subst he;rfl)])
  (fun s ⟨e,ht⟩=>by
   subst e
   simp only[Nat.zero_add]at ht ⊢
   refine⟨.inl (),by simp[C4,B5],?_⟩
   rw[List.take_length,hl,List.take_length]at ht
   rw[if_pos ht])
 rw[h1,h2]
theorem KE {a b:B4}:a=b↔(a.Op=b.Op∧a.Var=b.Var∧a.Field=b.Field∧a.Kind=b.Kind∧a.Value=b.Value)∧a.cK=b.cK:=by
 cases a;cases b;simp;constructor
 ·rintro⟨h1,h2,h3,h4,h5,h6⟩;exact⟨⟨h1,h3,h4,h5,h6⟩,h2⟩
 rintro⟨⟨h1,h3,h4,h5,h6⟩,h2⟩;exact⟨h1,h2,h3,h4,h5,h6⟩
theorem Xo {a b:A6}:a=b↔a.Kind=b.Kind∧a.Num=b.Num∧a.Text=b.Text:=by cases a;cases b;simp
theorem Pq (a b:B4):ND a b=true↔¬((a.Op=b.Op∧a.Var=b.Var∧a.Field=b.Field∧a.Kind=b.Kind∧a.Value=b.Value)∧a.cK.length=b.cK.length):=by
 simp only[ND,G9,H6,K6,I9,C5,DC,B5,Xo,Bool.or_eq_true,Bool.not_eq_true',decide_eq_false_iff_not,Bool.and_eq_false_iff,Bool.and_true,decide_eq_true_eq,Classical.not_and_iff_not_or_not]
 constructor
 ·rintro(((((h|h)|h)|h)|h)|h)
  ·simp[h]
  ·simp[h]
  ·simp[h]
  ·simp[h]
  ·rcases h with h|h|h<;>simp[h]
  right;omega
 rintro((h|h|h|h|h)|h)
 ·simp[h]
 ·simp[h]
 ·simp[h]
 ·simp[h]
 ·rcases h with h|h|h<;>simp[h]
 right;omega
theorem Ak2 {N:Nat} (hN:40000000≤N):∀(n:Nat) (a b:B4),a.bulk≤n→a.bulk≤16777216→Q9 N n a b=some (decide (a=b)):=by
 intro n
 induction n with
 |zero=>intro a b h;have:=Dn a;omega
 | succ n ih=>
  intro a b hx hb;have hl:=EK a;unfold Q9
  change (if ND a b=true then some false else _)=_
  by_cases h:ND a b=true
  ·rw[if_pos h]
   rw[Pq]at h
   rw[decide_eq_false];intro e;exact h ⟨(KE.1 e).1,by rw[(KE.1 e).2]⟩
  rw[if_neg h]
  rw[Pq,Classical.not_not]at h
  rw[Ah3 a.cK b.cK h.2 (by omega) _ (fun x hx y hy=>ih x y (by have:=Y6 hx;omega) (by have:=Y6 hx;omega)) (by omega)];simp only[Option.bind_some]
  by_cases he:a.cK=b.cK
  ·rw[if_pos he,decide_eq_true (KE.2 ⟨h.1,he⟩)]
  rw[if_neg he,decide_eq_false fun e=>he (KE.1 e).2]
structure Arity (y:A0):Prop where
 op:0≤y.Op∧y.Op≤10
 ev:y.Op=0→y.cK=[]
 two:1≤y.Op→y.Op≤3→2≤y.cK.length
 one:4≤y.Op→y.Op≠8→∃a,y.cK=[a]
 more:y.Op=8→∃a b,y.cK=[a,b]
end Go.Ab
namespace Go.Ab
def zE :B4:=⟨0,[],0,0,0,⟨0,0,⟨#[]⟩⟩⟩
def nd (op:Int)(args:List A0):A0:=⟨op,args,0,0,0,0,zE⟩
end Go.Ab
namespace Go.Ab
end Go.Ab
namespace Go.Ab
def wth {α:Type}[DecidableEq α](l:List α)(x:α):List α:=if x∈l then l else l++[x]
def dd {α:Type}[DecidableEq α](l:List α):List α:=l.foldl wth []
section
variable {α:Type}[DecidableEq α]
end
end Go.Ab
namespace Go.Ab
end Go.Ab
namespace Go.Ab
theorem JA {α R:Type} (P:α→Bool) (r:R):∀l:List α,G5 (fun(_:Unit) y=>if P y=true then some (Sum.inr r)else some (.inl ())) l ()=some (if l.any P=true then .inr r else .inl ())
 |[]=>rfl
 | y::l=>by
  unfold G5
  cases h:P y with
  |true=>simp[h]
  |false=>
   simp only[Bool.false_eq_true,if_false,List.any_cons,h,Bool.false_or];exact JA P r l
theorem XJ.sub {N:Nat}{x y:A0}(h:XJ N x)(hy:y∈x.pre):Bw N y=0:=h y hy
theorem XX {N:Nat} (hN:40000000≤N) {x:A0} (hb:x.bulk≤16777216):BU N x=some (if Q5 N x≠0 then Q5 N x else if x.pre.any (fun y=>Ar.cmp .geq y.Op 8)=true then 1 else 0):=by
 unfold BU;rw[Ac1 hN hb];simp only[Option.bind_some]
 by_cases h:Q5 N x=0
 ·rw[if_neg (J6 h),if_neg (by simpa using h),HF hN hb];simp only[Option.bind_some];rw[JA (fun y:A0=>Ar.cmp .geq y.Op 8) (1:Int) x.pre]
  by_cases h2:x.pre.any (fun y=>Ar.cmp .geq y.Op 8)=true
  ·rw[if_pos h2,if_pos h2];rfl
  rw[if_neg h2,if_neg h2];rfl
 rw[if_pos (J5 h),if_pos h]
theorem Iv {N:Nat} {x:A0} (hz:Q5 N x=0):x.pre.length≤64∧x.dep≤12∧XJ N x:=by
 have hp:x.pre.length≤64:=by
  by_cases h:64<x.pre.length
  ·rw[Q5,if_pos h]at hz;cases hz
  omega
 have hd:¬12<x.dep:=fun h=>by rw[Q5,if_neg (by omega),if_pos h]at hz;cases hz
 rw[Q5,if_neg (by omega),if_neg hd]at hz
 exact⟨hp,by omega,Dp.1 hz⟩
theorem Ko (x:A0):x∈x.pre:=by rw[A0.pre_eq];simp
theorem Wn {α β:Type}{m:Option α}{F:α→Option β}{a:α}{r:Option β}(h1:m=some a)(h2:F a=r):m.bind F=r:=by rw[h1];exact h2
end Go.Ab
