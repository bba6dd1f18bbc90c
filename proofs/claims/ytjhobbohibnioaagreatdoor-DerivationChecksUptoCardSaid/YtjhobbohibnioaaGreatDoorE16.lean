/- GVCo7 AbG1 AbI1 AbM1 AbG2 AbG3 GVBk GVM1 GVM2 GVM3 -/
import Derived.Test.YtjhobbohibnioaaGreatDoorE15
import Derived.Deep.Slices
import Derived.Carry
import Derived.Lib.LaidTab
set_option linter.all false
namespace Go.Ab
open Go.RowKit Go.Proofs Go.Proofs.Tryz I8
variable [Ar][I8]
set_option maxRecDepth 100000
def cf25 :Cf:=⟨[4],[],[],[],[],[]⟩
theorem c25 (N aA aG r)(h:CY N aA aG=some r):B6 prog 25 [(B7 aA),(C2 aG)] (.tup [(Dy r.1),vi r.2]):=by
 unfold CY at h
 refine J9 cf25 func25 call25 ntmps25 ?_;intro E H0 K hE hK hO;cbv;refine D2 hE hO fun b1 H hO=>?_;cbv;refine A7 hE h (c27 N aA aG) (.refl _) fun r2 h=>?_;cbv;refine A8 hE h (fun _ h=>?_) fun _ h=>?_
 ·cbv;refine B2 hE hO 0 rfl rfl fun H hO=>?_;cbv;refine B0 hE hO 0 rfl ?_;cbv;cases h;exact hK hO (.tup (.cons (.agg (.cons (.lit _ (D0)) (.refl _))) (.refl _)))
 cbv;refine A7 hE h (c81 N N aA aG) (.refl _) fun r3 h=>?_;cbv;refine A7 hE h (c80 N r3) (.refl _) fun r4 h=>?_;cbv;refine A8 hE h (fun _ h=>?_) fun _ h=>?_
 ·cbv;refine B2 hE hO 0 rfl rfl fun H hO=>?_;cbv;refine B0 hE hO 0 rfl ?_;cbv;cases h;exact hK hO (.tup (.cons (.agg (.cons (.lit _ (D0)) (.refl _))) (.refl _)))
 cbv;refine A7 hE h (c48 N (⟨r4.1⟩:T8)) (.refl _) fun r5 h=>?_;cbv;refine A8 hE h (fun _ h=>?_) fun _ h=>?_
 ·cbv;refine B2 hE hO 0 rfl rfl fun H hO=>?_;cbv;refine B0 hE hO 0 rfl ?_;cbv;cases h;exact hK hO (.tup (.cons (.agg (.cons (.lit _ (D0)) (.refl _))) (.refl _)))
 cbv;refine B2 hE hO 0 rfl rfl fun H hO=>?_;cbv;refine B0 hE hO 0 rfl ?_;cbv;cases h;exact hK hO (.refl _)
def cf4 :Cf:=⟨[],[(5,25)],[],[],[],[]⟩
theorem c4 (N aA aG r) (h:T7 N aA aG=some r):B6 prog 4 [(B7 aA),(C2 aG)] (.bool r):=by
 unfold T7 at h
 refine J9 cf4 func4 call4 ntmps4 ?_;intro E H0 K hE hK hO;cbv;refine A7 hE h (c23 N aA ([]) aG) (.cons (.refl _) (.cons (.lit _ (D0)) (.refl _))) fun r1 h=>?_;cbv;refine A8 hE h (fun _ h=>?_) fun _ h=>?_
 ·cbv;refine A7 hE h (c24 N) (.refl _) fun r2 h=>?_;cbv;cases h;exact hK hO (.refl _)
 cbv;refine A7 hE h (c17 N aA aG) (.refl _) fun r3 h=>?_;cbv;refine A7 hE h (c25 N aA aG) (.refl _) fun r4 h=>?_;cbv;refine C6 hE (g:=fun r5=>.bool r5) h (c24 N) (.refl _) fun r5 h=>?_;cbv;refine A8 hE h (fun _ h=>?_) fun _ h=>?_
 ·cbv;refine C6 hE (g:=fun r6=>vi r6) h (c26 N aA aG) (.refl _) fun r6 h=>?_;cbv;refine C6 hE (g:=fun r7=>vi r7) h (c27 N aA aG) (.refl _) fun r7 h=>?_;cbv;refine A8 hE h (fun _ h=>?_) fun _ h=>?_
  ·cbv;refine C6 hE (g:=fun r8=>vi r8) h (c28 N r3.1 r4.1) (.refl _) fun r8 h=>?_;cbv;refine A8 hE h (fun _ h=>?_) fun _ h=>?_
   ·cbv;refine C6 hE (g:=fun r9=>vi r9) h (c29 N N aG) (.refl _) fun r9 h=>?_;cbv;refine A7 hE h (c30 N N aG) (.refl _) fun r10 h=>?_;cbv;cases h;exact hK hO (.refl _)
   cbv;cases h;exact hK hO (.refl _)
  cbv;cases h;exact hK hO (.refl _)
 cbv;cases h;exact hK hO (.refl _)
end Go.Ab
namespace Go.Ab
open Go.RowKit Go.ChangeShapes Go.WideShapes
variable [I4]
def g0 (W:World):Gh:=⟨fun _=>none,fun _=>⟨0,0,0⟩,fun _=>none,fun b o=>∃v,W.cell? ⟨b,o,none⟩=some v,0,W.heap.size⟩
theorem rl0 {W:World}(hg:∀n,VR (g0 W) W (.pointer (some ⟨n,0,none⟩)) (I4.gl n)):Rl (g0 W) (fun _=>none) W:=
 ⟨fun id b h=>(by cases h),fun id id' b h=>(by simp[Gh.at]at h),fun b o h=>h,fun id _=>⟨rfl,rfl,rfl⟩,Nat.le_refl _,hg⟩
def CO (g:Gh)(w:World)(cs:List Value)(xs:List V):Prop:=
 cs.length=xs.length∧∀i,i<xs.length→(cs.getD i undef).oneCell'=true∧VR g w (cs.getD i undef) (xs.getD i .bad)
theorem CO.nil (g:Gh)(w:World):CO g w [] []:=⟨rfl,fun i hi=>by simp at hi⟩
theorem CO.one {g:Gh}{w:World}{v:Value}{x:V}(h1:v.oneCell'=true)(h:VR g w v x):CO g w [v] [x]:=by
 refine⟨rfl,fun i hi=>?_⟩
 have:i=0:=by simpa using hi
 subst this;exact⟨h1,h⟩
theorem CO.append {g:Gh} {w:World} {cs ds:List Value} {xs ys:List V} (h:CO g w cs xs) (k:CO g w ds ys):CO g w (cs++ds) (xs++ys):=by
 refine⟨by simp[h.1,k.1],fun i hi=>?_⟩;have hl:=h.1
 simp only[List.length_append]at hi
 by_cases hx:i<xs.length
 ·have e1:(cs++ds).getD i undef=cs.getD i undef:=by simp[List.getD,List.getElem?_append_left (show i<cs.length by omega)]
  have e2:(xs++ys).getD i .bad=xs.getD i .bad:=by simp[List.getD,List.getElem?_append_left hx]
  rw[e1,e2];exact h.2 i hx
 have e1:(cs++ds).getD i undef=ds.getD (i - xs.length) undef:=by simp[List.getD,List.getElem?_append_right (show cs.length≤i by omega),hl]
 have e2:(xs++ys).getD i .bad=ys.getD (i - xs.length) .bad:=by simp[List.getD,List.getElem?_append_right (show xs.length≤i by omega)]
 rw[e1,e2];exact k.2 _ (by omega)
theorem CO.join {g:Gh}{w:World}{cs:List Value}{xs ys:List V}{a n m:Nat}(h:CO g w ((cs.drop a).take n) xs)(k:CO g w ((cs.drop (a+n)).take m) ys):CO g w ((cs.drop a).take (n+m)) (xs++ys):=by
 have:=h.append k
 rwa[show(cs.drop (a+n))=(cs.drop a).drop n by rw[List.drop_drop],←List.take_add]at this
theorem CO.agg {g:Gh} {w:World} {cs:Array Value} {xs:List V} (h:CO g w cs.toList xs):VR g w (.agg cs) (.agg xs):=by
 refine .agg (by simpa using h.1) (fun i hi=>?_) fun i hi=>?_
 ·have:=(h.2 i hi).1
  simpa[List.getD,Array.getD_eq_getD_getElem?]using this
 have:=(h.2 i hi).2
 simpa[List.getD,Array.getD_eq_getD_getElem?]using this
section
variable {H α:Type}{enc:TypeId×Value→H}{P:Program}{W:World}{base:Nat}{spare:Nat→Bool}{held:Bool}{t e:TypeId}{n:Nat}
def AB (enc:TypeId×Value→H)(P:Program)(W:World)(base:Nat)(spare:Nat→Bool)(held:Bool)(t:TypeId)(f:α→V)(R:α→DataW H→Prop)(n:Nat):Prop:=
 ∀cs x,DataW.trod enc P W base spare held n t cs=some x→∃a,CO (g0 W) W cs (f a).cells∧R a x.1
theorem JI {k:IntKind}(ht:P.underlying t=some (.int k)):AB enc P W base spare held t (V.int k) (fun a d=>d= .lit (.int k a)) n:=by
 intro cs x h;obtain⟨a,rfl,rfl,_⟩:=DataW.trod_int ht h;exact⟨a,.one rfl (.int _ _),rfl⟩
theorem FB (ht:P.underlying t=some .bool):AB enc P W base spare held t V.bool (fun a d=>d= .lit (.bool a)) n:=by
 intro cs x h;obtain⟨a,rfl,rfl⟩:=DataW.trod_bool ht h;exact⟨a,.one rfl (.bool _),rfl⟩
theorem Ur (ht:P.underlying t=some .string):AB enc P W base spare held t V.str (fun a d=>d= .lit (.string a.data.toList)∧a.size≤maxLen) n:=by
 intro cs x h;obtain⟨a,rfl,rfl,hl⟩:=DataW.trod_string ht h;exact⟨a,.one rfl (.str _),rfl,hl⟩
def RL (R:α→DataW H→Prop)(l:List α)(ds:List (DataW H)):Prop:=l.length=ds.length∧∀(i:Nat) a d,l[i]? =some a→ds[i]? =some d→R a d
def RS (R:α→DataW H→Prop)(l:List α)(d:DataW H):Prop:=l.length≤maxLen∧((d= .nil∧l=[])∨∃es sp,d= .slice es sp∧RL R l es)
theorem GE {f:α→V} {R:α→DataW H→Prop} (ht:P.underlying t=some (.slice e)) (hc:0<P.cellsOf e) (he:AB enc P W base spare held e f R n):
 AB enc P W base spare held t (fun l:List α=>.sl (l.map f) .ro) (RS R) (n+1):=by
 intro cs x h
 rcases DataW.trod_slice ht h with⟨rfl,rfl⟩|⟨a,len,cap,elems,rest,n',hn,rfl,rfl,hb,hl,hm,hlen,hel,hsp,hns⟩
 ·exact⟨[],.one rfl (.sl0 rfl),Nat.zero_le _,.inl ⟨rfl,rfl⟩⟩
 have hn':n'=n:=by omega
 subst hn'
 rcases Nat.eq_zero_or_pos len with h0|h0
 ·subst h0;have:elems=[]:=List.length_eq_zero_iff.1 hlen;subst this;exact⟨[],.one rfl (.sle (.inl rfl)),Nat.zero_le _,.inr ⟨_,_,rfl,rfl,fun i a d hi=>by simp at hi⟩⟩
 have one:∀i,i<len→∃cs' y b,W.cells? base (a.add (i*P.cellsOf e)) (P.cellsOf e)=some cs'∧elems[i]? =some y∧CO (g0 W) W cs' (f b).cells∧R b y.1:=by
  intro i hi;have h1:=hel i hi
  have h2:elems[i]? =some (elems[i]'(by omega)):=by simp[hlen,hi]
  rw[h2]at h1
  obtain⟨cs',hcs,hy⟩:=Option.bind_eq_some_iff.1 h1;obtain⟨b,hr,hR⟩:=he cs' _ hy;exact⟨cs',_,b,hcs,h2,hr,hR⟩
 obtain⟨_,_,b0,_⟩:=one 0 h0
 haveI:Inhabited α:=⟨b0⟩
 obtain⟨A,hA⟩:=Deep.choose_lt (α:=α) (p:=fun i b=>∃cs' y,W.cells? base (a.add (i*P.cellsOf e)) (P.cellsOf e)=some cs'∧elems[i]? =some y∧CO (g0 W) W cs' (f b).cells∧R b y.1)
  (fun i hi=>let⟨cs',y,b,h1,h2,h3,h4⟩:=one i hi;⟨b,cs',y,h1,h2,h3,h4⟩)
 have hspot:a.spot=none:=by
  obtain⟨cs',y,h1,_,_,_⟩:=hA 0 h0;obtain⟨_,hcl,hcell⟩:=World.cells?_some h1;have h2:=hcell 0 hc
  have e0:(a.add (0*P.cellsOf e)).add 0=a:=by simp[Addr.add]
  rw[e0]at h2
  have h3:cs'[0]? =some (cs'[0]'(by omega)):=by simp[hcl,hc]
  rw[h3]at h2
  unfold World.cell? at h2
  split at h2
  ·split at h2
   ·cases h2
   rename_i hs;simpa using hs
  cases h2
 obtain⟨b,o,s⟩:=a
 simp only at hspot
 subst hspot
 let l:=(List.range len).map A
 have hll:l.length=len:=by simp[l]
 have hg:∀i,i<len→(l.map f).getD i .bad=f (A i):=fun i hi=>by simp[l,List.getD,hi]
 have cell:∀i j,i<len→j<P.cellsOf e→∃v,W.cell? ⟨b,o+i*P.cellsOf e+j,none⟩=some v∧v.oneCell'=true∧VR (g0 W) W v ((f (A i)).cells.getD j .bad):=by
  intro i j hi hj;obtain⟨cs',y,h1,_,hr,_⟩:=hA i hi;obtain⟨_,hcl,hcell⟩:=World.cells?_some h1;have h2:=hcell j hj
  rw[V6,V6]at h2
  have h3:cs'[j]? =some (cs'.getD j undef):=by simp[List.getD,hcl,hj]
  rw[h3]at h2
  have:=hr.2 j (by rw[←hr.1,hcl];exact hj);exact⟨_,h2,this.1,this.2⟩
 refine⟨l,.one rfl ?_,by omega,.inr ⟨_,_,rfl,by simp[hll,hlen],fun i a' d hi hd=>?_⟩⟩
 ·have hz:∀i,i<len→((l.map f).getD i .bad).cells.length=P.cellsOf e:=fun i hi=>by
   obtain⟨cs',y,h1,_,hr,_⟩:=hA i hi;obtain⟨_,hcl,_⟩:=World.cells?_some h1;rw[hg i hi,←hr.1,hcl]
  refine .sl (sz:=P.cellsOf e) (fun i j=>(W.cell? ⟨b,o+i*P.cellsOf e+j,none⟩).getD undef) (by simp[hll]) hl hz (fun i j hi hj=>?_) (fun i j hi hj=>?_) (fun i j hi hj=>?_) (fun i j hi hj=>?_) trivial
  ·obtain⟨v,h1,_⟩:=cell i j hi hj;exact⟨v,h1⟩
  ·obtain⟨v,h1,_⟩:=cell i j hi hj;rw[h1];rfl
  ·obtain⟨v,h1,h2,_⟩:=cell i j hi hj;rw[h1];exact h2
  obtain⟨v,h1,h2,h3⟩:=cell i j hi hj;rw[h1,hg i hi];exact h3
 have hi':i<len:=by
  rcases Nat.lt_or_ge i l.length with h|h
  ·omega
  rw[List.getElem?_eq_none h]at hi;cases hi
 obtain⟨cs',y,h1,h2,h3,h4⟩:=hA i hi'
 have e1:a'=A i:=by simp[l,hi']at hi;exact hi.symm
 have e2:d=y.1:=by simp[h2]at hd;exact hd.symm
 rw[e1,e2];exact h4
theorem Sj {fs:Array Field} {xs:List (DataW H×List MemPlace)} {cs:List Value} {n:Nat} (hl:xs.length=fs.size)
 (hf:∀(i:Nat) (f:Field),fs[i]? =some f→DataW.trod enc P W base spare held n f.type ((cs.drop f.offset).take (P.cellsOf f.type))=xs[i]?) (i:Nat) {f:Field} (h:fs[i]? =some f):
 ∃y,xs[i]? =some y∧DataW.trod enc P W base spare held n f.type ((cs.drop f.offset).take (P.cellsOf f.type))=some y:=by
 have hi:i<fs.size:=by
  rcases Nat.lt_or_ge i fs.size with h'|h'
  ·exact h'
  rw[Array.getElem?_eq_none h']at h;cases h
 have h1:xs[i]? =some (xs[i]'(by omega)):=by simp[hl,hi]
 exact⟨_,h1,by rw[hf i f h,h1]⟩
end
end Go.Ab
namespace Go.Ab
noncomputable instance arInst :Ar where
 cmp:=Iy
 cmp_eq:=fun _ _ _=>rfl
 ar:=arI
 ar_eq:=fun _ _ _ _=>rfl
 sh:=shI
 sh_eq:=fun _ _ _ _=>rfl
 neg:=fun k n=>k.wrap (0 - n)
 neg_eq:=fun _ _=>rfl
 wr:=fun k n=>k.wrap n
 wr_eq:=fun _ _=>rfl
 scmp:=Ab3
 scmp_eq:=fun _ _ _=>rfl
 cat:=fun a b=>a++b
 cat_eq:=fun _ _=>rfl
 slen:=fun s=>s.size
 slen_eq:=fun _=>rfl
 sat:=fun s i=>match s[i.toNat]? with|some b=>(b.toNat:Int)|none=>0
 sat_eq:=fun _ _=>rfl
 beq:=fun a b=>a==b
 beq_eq:=fun _ _=>rfl
 nt:=fun a=> !a
 nt_eq:=fun _=>rfl
 an:=fun a b=>a&&b
 an_eq:=fun _ _=>rfl
 or:=fun a b=>a||b
 or_eq:=fun _ _=>rfl
 pk:=fun c a b=>if c then a else b
 pk_eq:=fun _ _ _=>rfl
 mx:=fun a b=>if a<b then b else a
 mx_eq:=fun _ _=>rfl
 mn:=fun a b=>if b<a then b else a
 mn_eq:=fun _ _=>rfl
 ofs:=fun a b=>a+b
 ofs_eq:=fun _ _=>rfl
 ofN:=fun n=>n
 ofN_eq:=fun _=>rfl
 len:=fun l=>l.length
 len_eq:=fun _=>rfl
 lst:=fun f l=>l.map f
 lst_eq:=fun _ _=>rfl
end Go.Ab
namespace Go.Ab
theorem C8 (a b:Int):Ar.cmp .lss a b=decide (a<b):=rfl
theorem Ac (a b:Int):Ar.cmp .leq a b=decide (a≤b):=rfl
theorem X9 (a b:Int):Ar.cmp .gtr a b=decide (b<a):=rfl
theorem Ak (a b:Int):Ar.cmp .geq a b=decide (b≤a):=rfl
theorem G5 (a b:Int):Ar.cmp .eql a b=decide (a=b):=rfl
theorem K2 (a b:Int):Ar.cmp .neq a b= !decide (a=b):=rfl
theorem V3 (a:Bool):Ar.nt a= !a:=rfl
theorem K0 (a b:Bool):Ar.an a b=(a&&b):=rfl
theorem M4 (a b:Bool):Ar.or a b=(a||b):=rfl
theorem C0 {α:Type}(l:List α):Ar.len l=(l.length:Int):=rfl
theorem FE (a b:Int):Ar.mx a b=if a<b then b else a:=rfl
theorem Po (s:ByteArray):Ar.slen s=(s.size:Int):=rfl
theorem EW {n:Int} (h0: -9223372036854775808≤n) (h1:n<9223372036854775808):IntKind.wrap .i64 n=n:=by
 have e:IntKind.wrap .i64 n=(if n % 18446744073709551616≥9223372036854775808 then n % 18446744073709551616 - 18446744073709551616 else n % 18446744073709551616):=by
  unfold IntKind.wrap;simp[IntKind.bits,IntKind.signed]
 rw[e]
 split<;>omega
theorem D4 {a b:Int}(h0: -9223372036854775808≤a+b)(h1:a+b<9223372036854775808):Ar.ar .add .i64 a b=a+b:=EW h0 h1
theorem Qj {S σ R α:Type} (l:List α) (hl:l.length<1000000000000) (step:S→Option (S ⊕ R)) (mk:σ→Int→S) (body:σ→α→Option (σ ⊕ R)) (fin:σ→R)
 (hstep:∀s (i:Nat) x,l[i]? =some x→step (mk s i)=(body s x).bind fun o=>match o with| .inl s'=>some (.inl (mk s' (i+1)))| .inr r=>some (.inr r))
 (hend:∀s,step (mk s l.length)=some (.inr (fin s))):
 ∀(k:Nat) (i:Nat) (s:σ) (N:Nat),i+k=l.length→k<N→loopN step N (mk s i)=(J2 body (l.drop i) s).bind fun o=>match o with| .inl s=>some (fin s)| .inr r=>some r:=by
 intro k
 induction k with
 |zero=>
  intro i s N hi hN;obtain⟨N,rfl⟩:∃M,N=M+1:=⟨N - 1,by omega⟩;have e:l.drop i=[]:=List.drop_eq_nil_of_le (by omega)
  have ei:((i:Nat):Int)=l.length:=by omega
  rw[e,ei];simp only[loopN,hend,J2,Option.bind_some]
 | succ k ih=>
  intro i s N hi hN;obtain⟨N,rfl⟩:∃M,N=M+1:=⟨N - 1,by omega⟩
  have hlt:i<l.length:=by omega
  have hx:l[i]? =some l[i]:=by simp[hlt]
  have e:l.drop i=l[i]::l.drop (i+1):=List.drop_eq_getElem_cons hlt;rw[e];simp only[loopN,hstep s i _ hx,J2]
  cases hb:body s l[i]with
  |none=>rfl
  | some o=>
   cases o with
   |inl s'=>
    simp only[Option.bind_some];have:=ih (i+1) s' N (by omega) (by omega);rw[show((i:Int)+1)=((i+1:Nat):Int) by omega];exact this
   |inr r=>rfl
theorem F2 {α:Type}{l:List α}{i:Nat}:C1 l (i:Int)=l[i]? :=by simp[C1]
theorem Ov {β S σ R α:Type} (l:List α) (step:S→Option (List β×(S ⊕ R))) (mk:σ→Int→S) (body:σ→α→Option (List β×(σ ⊕ R))) (fin:σ→R)
 (hstep:∀s (i:Nat) x,l[i]? =some x→step (mk s i)=(body s x).bind fun o=>match o with|(w,.inl s')=>some (w,.inl (mk s' (i+1)))|(w,.inr r)=>some (w,.inr r))
 (hend:∀s,step (mk s l.length)=some ([],.inr (fin s))):
 ∀(k:Nat) (i:Nat) (s:σ) (N:Nat),i+k=l.length→k<N→GI step N (mk s i)=(Z6 body (l.drop i) s).bind fun o=>match o with|(w,.inl s)=>some (w,fin s)|(w,.inr r)=>some (w,r):=by
 intro k
 induction k with
 |zero=>
  intro i s N hi hN;obtain⟨N,rfl⟩:∃M,N=M+1:=⟨N - 1,by omega⟩;have e:l.drop i=[]:=List.drop_eq_nil_of_le (by omega)
  have ei:((i:Nat):Int)=l.length:=by omega
  rw[e,ei];simp only[GI,hend,Z6,Option.bind_some]
 | succ k ih=>
  intro i s N hi hN;obtain⟨N,rfl⟩:∃M,N=M+1:=⟨N - 1,by omega⟩
  have hlt:i<l.length:=by omega
  have hx:l[i]? =some l[i]:=by simp[hlt]
  have e:l.drop i=l[i]::l.drop (i+1):=List.drop_eq_getElem_cons hlt;rw[e];simp only[GI,hstep s i _ hx,Z6]
  cases hb:body s l[i]with
  |none=>rfl
  | some o=>
   obtain⟨w,o⟩:=o
   cases o with
   | inl s'=>
    simp only[Option.bind_some];have:=ih (i+1) s' N (by omega) (by omega);rw[show((i:Int)+1)=((i+1:Nat):Int) by omega,this]
    cases hr:Z6 body (l.drop (i+1)) s' with
    |none=>rfl
    |some q=>
     obtain⟨w',o'⟩:=q;cases o'<;>rfl
   |inr r=>rfl
theorem N5 {S σ R α:Type} (l:List α) (hl:l.length<1000000000000) {step:S→Option (S ⊕ R)} (mk:σ→Int→S) (body:σ→α→Option (σ ⊕ R)) (fin:σ→R) (s:σ) {N:Nat} (hN:l.length<N)
 (hstep:∀s (i:Nat) x,l[i]? =some x→(i:Int)<l.length→step (mk s i)=(body s x).bind fun o=>match o with| .inl s'=>some (.inl (mk s' (i+1)))| .inr r=>some (.inr r))
 (hend:∀s,step (mk s l.length)=some (.inr (fin s))):loopN step N (mk s 0)=(J2 body l s).bind fun o=>match o with| .inl s=>some (fin s)| .inr r=>some r:=by
 have:=Qj l hl step mk body fin (fun s i x h=>hstep s i x h (by
  rcases Nat.lt_or_ge i l.length with h'|h'
  ·omega
  rw[List.getElem?_eq_none h']at h;cases h)) hend l.length 0 s N (by omega) hN
 simpa using this
theorem RU {β S σ R α:Type} (l:List α) {step:S→Option (List β×(S ⊕ R))} (mk:σ→Int→S) (body:σ→α→Option (List β×(σ ⊕ R))) (fin:σ→R) (s:σ) {N:Nat} (hN:l.length<N)
 (hstep:∀s (i:Nat) x,l[i]? =some x→(i:Int)<l.length→step (mk s i)=(body s x).bind fun o=>match o with|(w,.inl s')=>some (w,.inl (mk s' (i+1)))|(w,.inr r)=>some (w,.inr r))
 (hend:∀s,step (mk s l.length)=some ([],.inr (fin s))):GI step N (mk s 0)=(Z6 body l s).bind fun o=>match o with|(w,.inl s)=>some (w,fin s)|(w,.inr r)=>some (w,r):=by
 have:=Ov l step mk body fin (fun s i x h=>hstep s i x h (by
  rcases Nat.lt_or_ge i l.length with h'|h'
  ·omega
  rw[List.getElem?_eq_none h']at h;cases h)) hend l.length 0 s N (by omega) hN
 simpa using this
theorem DJ {α σ R:Type} {step:σ→α→Option (σ ⊕ R)} (I:List α→σ→Prop) (hs:∀x r s,I (x::r) s→∃s',step s x=some (.inl s')∧I r s'):∀{l:List α} {s:σ},I l s→∃s',J2 step l s=some (.inl s')∧I [] s'
 |[],s,h=>⟨s,rfl,h⟩
 |x::l,s,h=>by
  obtain⟨s',h1,h2⟩:=hs x l s h;obtain⟨s2,h3,h4⟩:=DJ I hs h2;exact⟨s2,by simp only[J2,h1,h3],h4⟩
theorem Lv {α β σ R:Type} {step:σ→α→Option (List β×(σ ⊕ R))} (I:List α→List β→σ→Prop) (hs:∀x r w s,I (x::r) w s→∃w' s',step s x=some (w',.inl s')∧I r (w++w') s'):
 ∀{l:List α} {w:List β} {s:σ},I l w s→∃w' s',Z6 step l s=some (w',.inl s')∧I [] (w++w') s'
 |[],w,s,h=>⟨[],s,rfl,by simpa using h⟩
 |x::l,w,s,h=>by
  obtain⟨w1,s1,h1,h2⟩:=hs x l w s h;obtain⟨w2,s2,h3,h4⟩:=Lv I hs h2;exact⟨w1++w2,s2,by simp only[Z6,h1,h3],by rw[←List.append_assoc];exact h4⟩
def W8 {α:Type}(f:α→Int):List α→Int
 |[]=>0
 |x::l=>if f x=0 then W8 f l else f x
theorem JU {α:Type} {f:α→Int}:∀{l:List α},W8 f l=0↔∀x∈l,f x=0
 |[]=>by simp[W8]
 |x::l=>by
  unfold W8
  split
  ·rename_i h;rw[JU];simp[h]
  rename_i h;simp[h]
theorem Ks {α:Type} {f:α→Int}:∀{l m:List α},W8 f (l++m)=if W8 f l=0 then W8 f m else W8 f l
 |[],m=>by simp[W8]
 |x::l,m=>by
  simp only[List.cons_append,W8]
  split
  ·rw[Ks]
  rename_i h;simp[h]
theorem Nf {α:Type} {F:α→Option Int} {f:α→Int}:∀{l:List α},(∀x∈l,F x=some (f x))→
 J2 (fun(_:Unit) x=>(F x).bind fun r=>if Ar.cmp .neq r 0=true then some (Sum.inr r)else some (.inl ())) l ()=some (if W8 f l=0 then .inl ()else .inr (W8 f l))
 |[],_=>rfl
 | x::l,h=>by
  have h1:=Nf (l:=l) fun y hy=>h y (by simp[hy]);unfold J2;simp only[h x (by simp),Option.bind_some,K2,W8]
  by_cases hz:f x=0
  ·simp only[hz,decide_true,Bool.not_true,Bool.false_eq_true,if_false,if_true]
   simpa only[K2]using h1
  simp[hz]
noncomputable def Bj {α:Type}(F:α→Option Int)(_:Unit)(a:α):Option (Unit ⊕ (Unit ⊕ Int)):=(F a).bind fun r=>if Ar.cmp .neq r 0=true then some (.inr (.inr r))else some (.inl ())
theorem Ag {α:Type} {F:α→Option Int} {f:α→Int}:∀{l:List α},(∀x∈l,F x=some (f x))→J2 (Bj F) l ()=some (if W8 f l=0 then .inl ()else .inr (.inr (W8 f l)))
 |[],_=>rfl
 |x::l,h=>by
  have h1:=Ag (l:=l) fun y hy=>h y (by simp[hy]);unfold J2 Bj;simp only[h x (by simp),Option.bind_some,K2,W8]
  by_cases hz:f x=0
  ·simp only[hz,decide_true,Bool.not_true,Bool.false_eq_true,if_false,if_true];exact h1
  simp[hz]
end Go.Ab
namespace Go.Ab
open Go.RowKit Go.ChangeShapes Go.WideShapes
variable [I4]
section
variable {H α:Type}{enc:TypeId×Value→H}{P:Program}{W:World}{base:Nat}{spare:Nat→Bool}{held:Bool}{t e:TypeId}{n:Nat}
theorem Na {cs:List Value} {sz:Nat} {f:α→V}:∀(l:List α) (o:Nat),(∀(i:Nat) a,l[i]? =some a→CO (g0 W) W ((cs.drop (o+i*sz)).take sz) (f a).cells)→CO (g0 W) W ((cs.drop o).take (l.length*sz)) (l.flatMap fun a=>(f a).cells)
 |[],o,_=>by simp;exact .nil _ _
 | a::l,o,h=>by
  have h0:=h 0 a rfl
  rw[Nat.zero_mul,Nat.add_zero]at h0
  have h1:=Na l (o+sz) fun i b hi=>by
   have:=h (i+1) b (by simpa using hi)
   rwa[show o+(i+1)*sz=o+sz+i*sz by rw[Nat.add_mul];omega]at this
  have:=h0.join h1;rw[List.length_cons,List.flatMap_cons,show(l.length+1)*sz=sz+l.length*sz by rw[Nat.add_mul];omega];exact this
theorem PX {f:α→V} {R:α→DataW H→Prop} {m:Nat} (ht:P.underlying t=some (.array m e)) (hct:P.cellsOf t=m*P.cellsOf e) (hm:0<m) (he:∀n,AB enc P W base spare held e f R n) {cs:List Value} {x:DataW H×List MemPlace}
 (h:DataW.trod enc P W base spare held n t cs=some x):∃l:List α,CO (g0 W) W cs (l.flatMap fun a=>(f a).cells)∧∃ds,x.1= .agg ds∧RL R l ds:=by
 cases n with
 |zero=>simp[DataW.trod]at h
 | succ n=>
  simp only[DataW.trod,ht]at h
  split at h
  ·rename_i hl;obtain⟨xs,hmm,rfl⟩:=Option.map_eq_some_iff.1 h
   have hxl:xs.length=m:=by simpa using mapM_some_length hmm
   have one:∀i,i<m→∃b,CO (g0 W) W ((cs.drop (i*P.cellsOf e)).take (P.cellsOf e)) (f b).cells∧∀y,xs[i]? =some y→R b y.1:=by
    intro i hi;have h1:=mapM_some_get hmm i i (by simp[hi])
    have h2:xs[i]? =some (xs[i]'(by omega)):=by simp[hxl,hi]
    rw[h2]at h1
    obtain⟨b,hr,hR⟩:=he n _ _ h1;exact⟨b,hr,fun y hy=>by rw[h2]at hy;cases hy;exact hR⟩
   obtain⟨b0,_⟩:=one 0 hm
   haveI:Inhabited α:=⟨b0⟩
   obtain⟨A,hA⟩:=Deep.choose_lt one
   have hat:∀(i:Nat) a,((List.range m).map A)[i]? =some a→i<m∧a=A i:=fun i a hi=>by
    rcases Nat.lt_or_ge i m with hlt|hge
    ·simp[hlt]at hi;exact⟨hlt,hi.symm⟩
    rw[List.getElem?_eq_none (by simpa using hge)]at hi;cases hi
   refine⟨(List.range m).map A,?_,_,rfl,by simp[hxl],fun i a d hi hd=>?_⟩
   ·have:=Na (cs:=cs) (sz:=P.cellsOf e) (f:=f) (W:=W) ((List.range m).map A) 0 (fun i a hi=>by
     obtain⟨h1,rfl⟩:=hat i a hi
     simpa using(hA i h1).1)
    simpa[List.take_of_length_le,hl,hct]using this
   obtain⟨h1,rfl⟩:=hat i a hi
   simp only[List.getElem?_map,Option.map_eq_some_iff]at hd
   obtain⟨y,hy,rfl⟩:=hd;exact(hA i h1).2 y hy
  cases h
theorem Qq {g:Nat} {cs:Array Value} {xs:List V} {name:String} (hg:P.globalNamed name=some g) (hv:W.var? P name=some cs) (hr:CO (g0 W) W cs.toList xs):VR (g0 W) W (.pointer (some ⟨g,0,none⟩)) (.eref xs 0):=by
 have cell:∀j,j<xs.length→W.cell? ⟨g,0+j,none⟩=some (cs.toList.getD j undef):=fun j hj=>by
  have h1:=World.var?_cell hg hv j
  have h2:j<cs.size:=by have:=hr.1;simp at this;omega
  rw[Nat.zero_add,h1];simp[List.getD,h2]
 exact .eref (g:=g0 W) (o:=0) (off:=0) (fun j=>cs.toList.getD j undef) (fun j hj=>(⟨_,cell j hj⟩:∃v,W.cell? ⟨g,0+j,none⟩=some v)) (fun j hj=>cell j hj) (fun j hj=>(hr.2 j hj).1) fun j hj=>(hr.2 j hj).2
end
end Go.Ab
namespace Go.Ab
open Go.RowKit Go.ChangeShapes Go.WideShapes
variable [I4]
section
variable {H:Type}{enc:TypeId×Value→H}{P:Program}{W:World}{base:Nat}{spare:Nat→Bool}{held:Bool}{t e:TypeId}{n:Nat}
end
end Go.Ab
namespace Go.Ab
mutual
def B1.bulk :B1→Nat
 |⟨_,args,_,_,_,v⟩=>B1.bulks args+v.Text.size+9
def B1.bulks :List B1→Nat
 |[]=>1
 |a::r=>B1.bulk a+B1.bulks r
end
mutual
def A0.bulk :A0→Nat
 |⟨_,args,_,_,_,_,c⟩=>A0.bulks args+B1.bulk c+6
def A0.bulks :List A0→Nat
 |[]=>1
 |a::r=>A0.bulk a+A0.bulks r
end
mutual
def A2.bulk :A2→Nat
 |⟨_,_,ks⟩=>A2.bulks ks+6
def A2.bulks :List A2→Nat
 |[]=>1
 |a::r=>A2.bulk a+A2.bulks r
end
end Go.Ab
namespace Go.Ab
mutual
def B1.pre :B1→List B1
 |⟨op,args,var,field,kind,val⟩=>⟨op,args,var,field,kind,val⟩::B1.pres args
def B1.pres :List B1→List B1
 |[]=>[]
 |a::r=>B1.pre a++B1.pres r
end
mutual
def B1.dep :B1→Nat
 |⟨_,args,_,_,_,_⟩=>B1.deps args+1
def B1.deps :List B1→Nat
 |[]=>0
 |a::r=>max (B1.dep a) (B1.deps r)
end
mutual
def A0.pre :A0→List A0
 |⟨op,args,typ,var,scope,span,c⟩=>⟨op,args,typ,var,scope,span,c⟩::A0.pres args
def A0.pres :List A0→List A0
 |[]=>[]
 |a::r=>A0.pre a++A0.pres r
end
mutual
def A0.dep :A0→Nat
 |⟨_,args,_,_,_,_,_⟩=>A0.deps args+1
def A0.deps :List A0→Nat
 |[]=>0
 |a::r=>max (A0.dep a) (A0.deps r)
end
theorem B1.pre_eq (x:B1):x.pre=x::B1.pres x.cK:=by cases x;simp[B1.pre]
theorem A0.pre_eq (x:A0):x.pre=x::A0.pres x.cK:=by cases x;simp[A0.pre]
theorem B1.dep_eq (x:B1):x.dep=B1.deps x.cK+1:=by cases x;simp[B1.dep]
theorem A0.dep_eq (x:A0):x.dep=A0.deps x.cK+1:=by cases x;simp[A0.dep]
theorem B1.bulk_eq (x:B1):x.bulk=B1.bulks x.cK+x.Value.Text.size+9:=by cases x;simp[B1.bulk]
theorem A0.bulk_eq (x:A0):x.bulk=A0.bulks x.cK+x.cL.bulk+6:=by cases x;simp[A0.bulk]
theorem KW :∀(l:List B1),(∀a∈l,B1.bulk a≤B1.bulks l)∧l.length≤B1.bulks l
 |[]=>⟨fun a h=>by simp at h,by simp[B1.bulks]⟩
 |b::l=>by
  have h:=KW l;have hb:=B1.bulk_eq b;simp only[B1.bulks,List.length_cons];refine⟨fun a ha=>?_,by omega⟩
  rcases List.mem_cons.1 ha with rfl|ha
  ·omega
  have:=h.1 a ha;omega
theorem KV :∀(l:List A0),(∀a∈l,A0.bulk a≤A0.bulks l)∧l.length≤A0.bulks l
 |[]=>⟨fun a h=>by simp at h,by simp[A0.bulks]⟩
 |b::l=>by
  have h:=KV l;have hb:=A0.bulk_eq b;simp only[A0.bulks,List.length_cons];refine⟨fun a ha=>?_,by omega⟩
  rcases List.mem_cons.1 ha with rfl|ha
  ·omega
  have:=h.1 a ha;omega
mutual
theorem RJ :∀x:B1,x.pre.length≤x.bulk
 |⟨op,args,var,field,kind,val⟩=>by
  have:=Ez args;simp only[B1.pre,B1.bulk,List.length_cons];omega
theorem Ez :∀l:List B1,(B1.pres l).length≤B1.bulks l
 |[]=>by simp[B1.pres]
 |a::l=>by
  have h1:=RJ a;have h2:=Ez l;simp only[B1.pres,B1.bulks,List.length_append];omega
end
mutual
theorem Fz :∀x:A0,x.pre.length≤x.bulk
 |⟨op,args,typ,var,scope,span,c⟩=>by
  have:=Ey args;simp only[A0.pre,A0.bulk,List.length_cons];omega
theorem Ey :∀l:List A0,(A0.pres l).length≤A0.bulks l
 |[]=>by simp[A0.pres]
 |a::l=>by
  have h1:=Fz a;have h2:=Ey l;simp only[A0.pres,A0.bulks,List.length_append];omega
end
mutual
theorem Sv :∀x:B1,x.dep≤x.bulk
 |⟨op,args,var,field,kind,val⟩=>by
  have:=EI args;simp only[B1.dep,B1.bulk];omega
theorem EI :∀l:List B1,B1.deps l≤B1.bulks l
 |[]=>by simp[B1.deps]
 |a::l=>by
  have h1:=Sv a;have h2:=EI l;simp only[B1.deps,B1.bulks];omega
end
mutual
theorem Ss :∀x:A0,x.dep≤x.bulk
 |⟨op,args,typ,var,scope,span,c⟩=>by
  have:=EH args;simp only[A0.dep,A0.bulk];omega
theorem EH :∀l:List A0,A0.deps l≤A0.bulks l
 |[]=>by simp[A0.deps]
 |a::l=>by
  have h1:=Ss a;have h2:=EH l;simp only[A0.deps,A0.bulks];omega
end
def Cut (lim:Int)(cnt:Nat)(r:Int):Prop:=1≤r∧r≤cnt∧(r=cnt∨lim<r)
section
variable {α:Type}
theorem Gz {lim:Int} {f:α→Option Int} {cnt:α→Nat} {B:Nat} (hB:B≤1000000000000):∀(l:List α) (s:Int),0≤s→s+(l.map cnt).sum≤B→(∀a∈l,∃r,f a=some r∧Cut lim (cnt a) r)→
 ∃o,J2 (fun(s:Int) x=>if s≤lim then(f x).bind fun r=>some (.inl (Ar.ar .add .i64 s r))else some (.inr s)) l s=some o∧
  ∃v,v=(match o with| .inl s=>s| .inr s=>s)∧s≤v∧v≤s+(l.map cnt).sum∧(v=s+(l.map cnt).sum∨lim<v)
 |[],s,h0,_,_=>⟨.inl s,rfl,s,rfl,Int.le_refl _,by simp,.inl (by simp)⟩
 | a::l,s,h0,hb,hf=>by
  simp only[List.map_cons,List.sum_cons]at hb ⊢
  unfold J2
  by_cases hs:s≤lim
  ·obtain⟨r,h1,h2,h3,h4⟩:=hf a (by simp);simp only[if_pos hs,h1,Option.bind_some];have e:Ar.ar .add .i64 s r=s+r:=D4 (by omega) (by omega);rw[e];obtain⟨o,k1,v,k2,k3,k4,k5⟩:=Gz hB l (s+r) (by omega) (by omega) fun b hb=>hf b (by simp[hb]);refine⟨o,k1,v,k2,by omega,by omega,?_⟩
   rcases k5 with k5|k5
   ·rcases h4 with h4|h4
    ·left;omega
    right;omega
   exact .inr k5
  simp only[if_neg hs];exact⟨_,rfl,s,rfl,Int.le_refl _,by omega,.inr (by omega)⟩
end
theorem HW :∀l:List A0,(l.map fun a=>a.pre.length).sum=(A0.pres l).length
 |[]=>rfl
 |a::l=>by simp[A0.pres,HW l]
theorem HX :∀l:List B1,(l.map fun a=>a.pre.length).sum=(B1.pres l).length
 |[]=>rfl
 |a::l=>by simp[B1.pres,HX l]
theorem Pf {N:Nat} (hN:40000000≤N) (lim:Int):∀(n:Nat) (x:A0),x.bulk≤n→x.bulk≤16777216→∃r,T9 N n x lim=some r∧Cut lim x.pre.length r:=by
 intro n
 induction n with
 |zero=>intro x h;have:=A0.bulk_eq x;omega
 | succ n ih=>
  intro x hx hb;have hxb:=A0.bulk_eq x;have hB:=KV x.cK;have hpb:=Ey x.cK;unfold T9;rw[N5 x.cK (by omega) (mk:=fun(s:Int) i=>(s,i)) (body:=fun(s:Int) a=>if s≤lim then(T9 N n a lim).bind fun r=>some (.inl (Ar.ar .add .i64 s r))else some (.inr s)) (fin:=fun s=>s) (s:=1) (by omega) ?_ ?_]
  ·obtain⟨o,k1,v,k2,k3,k4,k5⟩:=Gz (lim:=lim) (f:=fun a=>T9 N n a lim) (cnt:=fun a=>a.pre.length) (B:=40000000) (by omega) x.cK 1 (by omega) (by rw[HW];omega) fun a ha=>ih a (by have:=hB.1 a ha;omega) (by have:=hB.1 a ha;omega)
   rw[HW]at k4 k5
   have hpe:x.pre.length=(A0.pres x.cK).length+1:=by rw[A0.pre_eq];rfl
   simp only[k1,Option.bind_some];refine⟨v,?_,by omega,by omega,?_⟩
   ·cases o<;>simp_all
   rcases k5 with k5|k5
   ·left;omega
   right;exact k5
  ·intro s i a ha hi;have e:Ar.ar .add .i64 (i:Int) 1=i+1:=D4 (by omega) (by omega);simp only[C8,Ac,K0,C0,hi,decide_true,Bool.true_and,F2,ha,Option.bind_some,e,decide_eq_true_eq]
   split
   ·cases T9 N n a lim<;>rfl
   rfl
  intro s;simp[C8,K0,C0]
end Go.Ab
namespace Go.Ab
theorem IU {x a:A0}(h:a∈x.cK):a.bulk<x.bulk:=by
 have h1:=(KV x.cK).1 a h;have h2:=A0.bulk_eq x;omega
theorem Ax {x a:B1}(h:a∈x.cK):a.bulk<x.bulk:=by
 have h1:=(KW x.cK).1 a h;have h2:=B1.bulk_eq x;omega
theorem IW (x:A0):x.cK.length≤x.bulk:=by
 have h1:=(KV x.cK).2;have h2:=A0.bulk_eq x;omega
theorem DW (x:B1):x.cK.length≤x.bulk:=by
 have h1:=(KW x.cK).2;have h2:=B1.bulk_eq x;omega
theorem Ji (x:A0):0<x.bulk:=by have:=A0.bulk_eq x;omega
theorem CI (x:B1):0<x.bulk:=by have:=B1.bulk_eq x;omega
theorem QD {N:Nat} (hN:40000000≤N):∀(n:Nat) (x:A0),x.bulk≤n→x.bulk≤16777216→U3 N n x=some (x.dep:Int):=by
 intro n
 induction n with
 |zero=>intro x h;have:=Ji x;omega
 | succ n ih=>
  intro x hx hb;have hl:=IW x;unfold U3;rw[N5 x.cK (by omega) (mk:=fun(s:Int) i=>(s,i)) (body:=fun(s:Int) a=>(U3 N n a).bind fun r=>some (.inl (Ar.mx s r))) (fin:=fun s=>s) (s:=0) (by omega) ?_ ?_]
  ·obtain⟨s',k1,k2⟩:=DJ (R:=Int) (step:=fun(s:Int) a=>(U3 N n a).bind fun r=>some (.inl (Ar.mx s r))) (fun r s=>(∀a∈r,a∈x.cK)∧0≤s∧max s (A0.deps r:Int)=(A0.deps x.cK:Int)) (fun a r s ⟨h1,h2,h3⟩=>by
    have hm:=IU (h1 a (by simp));refine⟨_,by rw[ih a (by omega) (by omega)];rfl,fun b hb=>h1 b (by simp[hb]),?_,?_⟩
    ·rw[FE];split<;>omega
    rw[←h3,FE];simp only[A0.deps];split<;>omega) (l:=x.cK) (s:=0) ⟨fun a h=>h,Int.le_refl _,by omega⟩
   simp only[k1,Option.bind_some]
   have e:s'=(A0.deps x.cK:Int):=by have:=k2.2.2;simp only[A0.deps]at this;omega
   have hd:=EH x.cK;have hd2:=A0.bulk_eq x;rw[e,D4 (by omega) (by omega),A0.dep_eq];rfl
  ·intro s i a ha hi;have e:Ar.ar .add .i64 (i:Int) 1=i+1:=D4 (by omega) (by omega);simp only[C8,C0,hi,decide_true,if_true,F2,ha,Option.bind_some,e];cases U3 N n a<;>rfl
  intro s;simp[C8,C0]
theorem Jn {α:Type}{l m:List α}(h:l.length+m.length≤1073741824):S8 l m=some (l++m):=by simp[S8,h]
theorem LC {N:Nat} (hN:40000000≤N):∀(n:Nat) (x:A0),x.bulk≤n→x.bulk≤16777216→R4 N n x=some x.pre:=by
 intro n
 induction n with
 |zero=>intro x h;have:=Ji x;omega
 | succ n ih=>
  intro x hx hb;have hl:=IW x;unfold R4;rw[N5 x.cK (by omega) (mk:=fun(s:List A0) i=>(s,i)) (body:=fun(s:List A0) a=>(R4 N n a).bind fun r=>(S8 s r).bind fun l=>some (.inl l)) (fin:=fun s=>s) (s:=[x]) (by omega) ?_ ?_]
  ·have hp:=Fz x;have hpe:=A0.pre_eq x
   obtain⟨s',k1,k2⟩:=DJ (R:=List A0) (step:=fun(s:List A0) a=>(R4 N n a).bind fun r=>(S8 s r).bind fun l=>some (.inl l)) (fun r s=>(∀a∈r,a∈x.cK)∧s++A0.pres r=x.pre) (fun a r s ⟨h1,h2⟩=>by
    have hm:=IU (h1 a (by simp));have hlen:=congrArg List.length h2
    simp only[A0.pres,List.length_append]at hlen
    refine⟨_,by rw[ih a (by omega) (by omega)];simp only[Option.bind_some];rw[Jn (by omega)];rfl,fun b hb=>h1 b (by simp[hb]),?_⟩
    rw[←h2];simp[A0.pres]) (l:=x.cK) (s:=[x]) ⟨fun a h=>h,by rw[hpe];rfl⟩
   simp only[k1,Option.bind_some];have:=k2.2
   simp only[A0.pres,List.append_nil]at this
   rw[this]
  ·intro s i a ha hi;have e:Ar.ar .add .i64 (i:Int) 1=i+1:=D4 (by omega) (by omega);simp only[C8,C0,hi,decide_true,if_true,F2,ha,Option.bind_some,e]
   cases R4 N n a with
   |none=>rfl
   |some r=>simp only[Option.bind_some];cases S8 s r<;>rfl
  intro s;simp[C8,C0]
theorem XG {N:Nat} (hN:40000000≤N):∀(n:Nat) (x:A0),x.bulk≤n→x.bulk≤16777216→M7 N n x=some ((x.pre.length:Int),(x.dep:Int)):=by
 intro n
 induction n with
 |zero=>intro x h;have:=Ji x;omega
 | succ n ih=>
  intro x hx hb;have hl:=IW x;unfold M7;rw[N5 x.cK (by omega) (mk:=fun(s:Int×Int) i=>(s.1,s.2,i)) (body:=fun(s:Int×Int) a=>(M7 N n a).bind fun r=>some (.inl (Ar.ar .add .i64 s.1 r.1,Ar.mx s.2 r.2))) (fin:=fun s=>s) (s:=(1,0)) (by omega) ?_ ?_]
  ·have hp:=Ey x.cK;have hd:=EH x.cK;have hbe:=A0.bulk_eq x
   obtain⟨s',k1,k2⟩:=DJ (R:=Int×Int) (step:=fun(s:Int×Int) a=>(M7 N n a).bind fun r=>some (.inl (Ar.ar .add .i64 s.1 r.1,Ar.mx s.2 r.2))) (fun r s=>(∀a∈r,a∈x.cK)∧0≤s.2∧0≤s.1∧s.1+(A0.pres r).length=(A0.pres x.cK).length+1∧max s.2 (A0.deps r:Int)=(A0.deps x.cK:Int)) (fun a r s ⟨h1,h2,h3,h4,h5⟩=>by
    have hm:=IU (h1 a (by simp))
    simp only[A0.pres,List.length_append,A0.deps]at h4 h5
    refine⟨_,by rw[ih a (by omega) (by omega)];rfl,fun b hb=>h1 b (by simp[hb]),?_,?_,?_,?_⟩
    ·simp only[FE];split<;>omega
    ·rw[D4 (by omega) (by omega)];omega
    ·rw[D4 (by omega) (by omega)];omega
    rw[←h5];simp only[FE];split<;>omega) (l:=x.cK) (s:=(1,0)) ⟨fun a h=>h,by simp,by simp,by simp only;omega,by simp only;omega⟩
   simp only[k1,Option.bind_some];obtain⟨_,_,_,e1,e2⟩:=k2
   simp only[A0.pres,List.length_nil,A0.deps]at e1 e2
   have e3:s'.1=(x.pre.length:Int):=by rw[A0.pre_eq];simp only[List.length_cons];omega
   have e4:s'.2=(A0.deps x.cK:Int):=by omega
   rw[e3,e4,D4 (by omega) (by omega),A0.dep_eq];rfl
  ·intro s i a ha hi;have e:Ar.ar .add .i64 (i:Int) 1=i+1:=D4 (by omega) (by omega);simp only[C8,C0,hi,decide_true,if_true,F2,ha,Option.bind_some,e];cases M7 N n a<;>rfl
  intro s;simp[C8,C0]
theorem Xz {N:Nat} (hN:40000000≤N):∀(n:Nat) (x:A0),x.bulk≤n→x.bulk≤16777216→T6 N n x=some x.pre:=by
 intro n
 induction n with
 |zero=>intro x h;have:=Ji x;omega
 | succ n ih=>
  intro x hx hb;have hl:=IW x;unfold T6;rw[RU x.cK (mk:=fun(_:Unit) i=>i) (body:=fun(_:Unit) a=>(T6 N n a).bind fun l=>some (l,.inl ())) (fin:=fun _=>()) (s:=()) (by omega) ?_ ?_]
  ·obtain⟨w,s',k1,k2⟩:=Lv (R:=Unit) (step:=fun(_:Unit) a=>(T6 N n a).bind fun l=>some (l,.inl ())) (fun r w s=>(∀a∈r,a∈x.cK)∧w++A0.pres r=A0.pres x.cK) (fun a r w s ⟨h1,h2⟩=>by
    have hm:=IU (h1 a (by simp));refine⟨a.pre,(),by rw[ih a (by omega) (by omega)];rfl,fun b hb=>h1 b (by simp[hb]),?_⟩
    rw[←h2];simp[A0.pres]) (l:=x.cK) (w:=[]) (s:=()) ⟨fun a h=>h,by simp⟩
   have e:w=A0.pres x.cK:=by have:=k2.2;simpa[A0.pres]using this
   rw[k1,e,A0.pre_eq];simp[Ao]
  ·intro s i a ha hi;have e:Ar.ar .add .i64 (i:Int) 1=i+1:=D4 (by omega) (by omega);simp only[C8,C0,hi,decide_true,if_true,F2,ha,Option.bind_some,e];cases T6 N n a<;>simp[Ao]
  intro s;simp[C8,C0]
end Go.Ab
namespace Go.Ab
theorem QF {N:Nat} (hN:40000000≤N) (lim:Int):∀(n:Nat) (x:B1),x.bulk≤n→x.bulk≤16777216→∃r,U5 N n x lim=some r∧Cut lim x.pre.length r:=by
 intro n
 induction n with
 |zero=>intro x h;have:=CI x;omega
 | succ n ih=>
  intro x hx hb;have hxb:=B1.bulk_eq x;have hB:=KW x.cK;have hpb:=Ez x.cK;unfold U5;rw[N5 x.cK (by omega) (mk:=fun(s:Int) i=>(s,i)) (body:=fun(s:Int) a=>if s≤lim then(U5 N n a lim).bind fun r=>some (.inl (Ar.ar .add .i64 s r))else some (.inr s)) (fin:=fun s=>s) (s:=1) (by omega) ?_ ?_]
  ·obtain⟨o,k1,v,k2,k3,k4,k5⟩:=Gz (lim:=lim) (f:=fun a=>U5 N n a lim) (cnt:=fun a=>a.pre.length) (B:=40000000) (by omega) x.cK 1 (by omega) (by rw[HX];omega) fun a ha=>ih a (by have:=hB.1 a ha;omega) (by have:=hB.1 a ha;omega)
   rw[HX]at k4 k5
   have hpe:x.pre.length=(B1.pres x.cK).length+1:=by rw[B1.pre_eq];rfl
   simp only[k1,Option.bind_some];refine⟨v,?_,by omega,by omega,?_⟩
   ·cases o<;>simp_all
   rcases k5 with k5|k5
   ·left;omega
   right;exact k5
  ·intro s i a ha hi;have e:Ar.ar .add .i64 (i:Int) 1=i+1:=D4 (by omega) (by omega);simp only[C8,Ac,K0,C0,hi,decide_true,Bool.true_and,F2,ha,Option.bind_some,e,decide_eq_true_eq]
   split
   ·cases U5 N n a lim<;>rfl
   rfl
  intro s;simp[C8,K0,C0]
theorem Mg {N:Nat} (hN:40000000≤N):∀(n:Nat) (x:B1),x.bulk≤n→x.bulk≤16777216→U4 N n x=some (x.dep:Int):=by
 intro n
 induction n with
 |zero=>intro x h;have:=CI x;omega
 | succ n ih=>
  intro x hx hb;have hl:=DW x;unfold U4;rw[N5 x.cK (by omega) (mk:=fun(s:Int) i=>(s,i)) (body:=fun(s:Int) a=>(U4 N n a).bind fun r=>some (.inl (Ar.mx s r))) (fin:=fun s=>s) (s:=0) (by omega) ?_ ?_]
  ·obtain⟨s',k1,k2⟩:=DJ (R:=Int) (step:=fun(s:Int) a=>(U4 N n a).bind fun r=>some (.inl (Ar.mx s r))) (fun r s=>(∀a∈r,a∈x.cK)∧0≤s∧max s (B1.deps r:Int)=(B1.deps x.cK:Int)) (fun a r s ⟨h1,h2,h3⟩=>by
    have hm:=Ax (h1 a (by simp));refine⟨_,by rw[ih a (by omega) (by omega)];rfl,fun b hb=>h1 b (by simp[hb]),?_,?_⟩
    ·rw[FE];split<;>omega
    rw[←h3,FE];simp only[B1.deps];split<;>omega) (l:=x.cK) (s:=0) ⟨fun a h=>h,Int.le_refl _,by omega⟩
   simp only[k1,Option.bind_some]
   have e:s'=(B1.deps x.cK:Int):=by have:=k2.2.2;simp only[B1.deps]at this;omega
   have hd:=EI x.cK;have hd2:=B1.bulk_eq x;rw[e,D4 (by omega) (by omega),B1.dep_eq];rfl
  ·intro s i a ha hi;have e:Ar.ar .add .i64 (i:Int) 1=i+1:=D4 (by omega) (by omega);simp only[C8,C0,hi,decide_true,if_true,F2,ha,Option.bind_some,e];cases U4 N n a<;>rfl
  intro s;simp[C8,C0]
theorem TS {N:Nat} (hN:40000000≤N):∀(n:Nat) (x:B1),x.bulk≤n→x.bulk≤16777216→AN N n x=some ((x.pre.length:Int),(x.dep:Int)):=by
 intro n
 induction n with
 |zero=>intro x h;have:=CI x;omega
 | succ n ih=>
  intro x hx hb;have hl:=DW x;unfold AN;rw[N5 x.cK (by omega) (mk:=fun(s:Int×Int) i=>(s.1,s.2,i)) (body:=fun(s:Int×Int) a=>(AN N n a).bind fun r=>some (.inl (Ar.ar .add .i64 s.1 r.1,Ar.mx s.2 r.2))) (fin:=fun s=>s) (s:=(1,0)) (by omega) ?_ ?_]
  ·have hp:=Ez x.cK;have hd:=EI x.cK;have hbe:=B1.bulk_eq x
   obtain⟨s',k1,k2⟩:=DJ (R:=Int×Int) (step:=fun(s:Int×Int) a=>(AN N n a).bind fun r=>some (.inl (Ar.ar .add .i64 s.1 r.1,Ar.mx s.2 r.2))) (fun r s=>(∀a∈r,a∈x.cK)∧0≤s.2∧0≤s.1∧s.1+(B1.pres r).length=(B1.pres x.cK).length+1∧max s.2 (B1.deps r:Int)=(B1.deps x.cK:Int)) (fun a r s ⟨h1,h2,h3,h4,h5⟩=>by
    have hm:=Ax (h1 a (by simp))
    simp only[B1.pres,List.length_append,B1.deps]at h4 h5
    refine⟨_,by rw[ih a (by omega) (by omega)];rfl,fun b hb=>h1 b (by simp[hb]),?_,?_,?_,?_⟩
    ·simp only[FE];split<;>omega
    ·rw[D4 (by omega) (by omega)];omega
    ·rw[D4 (by omega) (by omega)];omega
    rw[←h5];simp only[FE];split<;>omega) (l:=x.cK) (s:=(1,0)) ⟨fun a h=>h,by simp,by simp,by simp only;omega,by simp only;omega⟩
   simp only[k1,Option.bind_some];obtain⟨_,_,_,e1,e2⟩:=k2
   simp only[B1.pres,List.length_nil,B1.deps]at e1 e2
   have e3:s'.1=(x.pre.length:Int):=by rw[B1.pre_eq];simp only[List.length_cons];omega
   have e4:s'.2=(B1.deps x.cK:Int):=by omega
   rw[e3,e4,D4 (by omega) (by omega),B1.dep_eq];rfl
  ·intro s i a ha hi;have e:Ar.ar .add .i64 (i:Int) 1=i+1:=D4 (by omega) (by omega);simp only[C8,C0,hi,decide_true,if_true,F2,ha,Option.bind_some,e];cases AN N n a<;>rfl
  intro s;simp[C8,C0]
theorem Mr {f:B1→Int}:∀l:List B1,W8 (fun a=>W8 f a.pre) l=W8 f (B1.pres l)
 |[]=>rfl
 |a::l=>by rw[B1.pres,Ks,W8,Mr l]
theorem Pl {a y:B1} (hy:y∈a.pre):∀l:List B1,a∈l→y∈B1.pres l
 |[],h=>by simp at h
 |b::l,h=>by
  rcases List.mem_cons.1 h with rfl|h
  ·simp[B1.pres,hy]
  simp[B1.pres,Pl hy l h]
theorem Vo {N:Nat} (hN:40000000≤N) {F:B1→Option Int} {f:B1→Int}:∀(n:Nat) (x:B1),x.bulk≤n→x.bulk≤16777216→(∀y∈x.pre,F y=some (f y))→Ay N n x F=some (W8 f x.pre):=by
 intro n
 induction n with
 |zero=>intro x h;have:=CI x;omega
 | succ n ih=>
  intro x hx hb hF;have hl:=DW x;have hpe:=B1.pre_eq x;unfold Ay;rw[hF x (by rw[hpe];simp)];simp only[Option.bind_some,K2];rw[hpe,W8]
  by_cases hz:f x=0
  ·simp only[hz,decide_true,Bool.not_true,Bool.false_eq_true,if_false,if_true];rw[N5 x.cK (by omega) (mk:=fun(_:Unit) i=>i) (body:=Bj fun a=>Ay N n a F) (fin:=fun _=>.inl ()) (s:=()) (by omega) ?_ ?_]
   ·rw[Ag (f:=fun a=>W8 f a.pre) fun a ha=>ih a (by have:=Ax ha;omega) (by have:=Ax ha;omega) fun y hy=>hF y (by rw[hpe];exact List.mem_cons_of_mem _ (Pl hy _ ha)),Mr]
    by_cases hz3:W8 f (B1.pres x.cK)=0
    ·simp[hz3]
    simp[hz3]
   ·intro s i a ha hi;have e:Ar.ar .add .i64 (i:Int) 1=i+1:=D4 (by omega) (by omega);simp only[C8,C0,hi,decide_true,if_true,F2,ha,Option.bind_some,e,Bj,K2]
    cases Ay N n a F with
    |none=>rfl
    |some r=>by_cases h:r=0<;>simp[h]
   intro s;simp[C8,C0]
  simp[hz]
theorem Uv {N:Nat} (hN:40000000≤N) {f:B1→Int} (hF:∀y,Cx N y=some (f y)):∀(n:Nat) (x:B1),x.bulk≤n→x.bulk≤16777216→Y8 N n x=some (W8 f x.pre):=by
 intro n
 induction n with
 |zero=>intro x h;have:=CI x;omega
 | succ n ih=>
  intro x hx hb;have hl:=DW x;have hpe:=B1.pre_eq x;unfold Y8;rw[hF x];simp only[Option.bind_some,K2];rw[hpe,W8]
  by_cases hz:f x=0
  ·simp only[hz,decide_true,Bool.not_true,Bool.false_eq_true,if_false,if_true];rw[N5 x.cK (by omega) (mk:=fun(_:Unit) i=>i) (body:=Bj fun a=>Y8 N n a) (fin:=fun _=>.inl ()) (s:=()) (by omega) ?_ ?_]
   ·rw[Ag (f:=fun a=>W8 f a.pre) fun a ha=>ih a (by have:=Ax ha;omega) (by have:=Ax ha;omega),Mr]
    by_cases hz3:W8 f (B1.pres x.cK)=0
    ·simp[hz3]
    simp[hz3]
   ·intro s i a ha hi;have e:Ar.ar .add .i64 (i:Int) 1=i+1:=D4 (by omega) (by omega);simp only[C8,C0,hi,decide_true,if_true,F2,ha,Option.bind_some,e,Bj,K2]
    cases Y8 N n a with
    |none=>rfl
    |some r=>by_cases h:r=0<;>simp[h]
   intro s;simp[C8,C0]
  simp[hz]
end Go.Ab
