/- GVCo10 AbG1 AbI1 AbM1 AbG2 AbG3 GVBk GVM1 GVM2 GVM3 -/
import Derived.Test.YtjhobbohibnioaaGreatDoorC18
import Derived.Deep.Slices
import Derived.Carry
import Derived.Lib.LaidTab
set_option linter.all false
namespace Go.Ab
open Go.RowKit Go.Proofs Go.Proofs.Tryz I6
variable [Ar][I6]
set_option maxRecDepth 100000
def cf6 :Cf:=⟨[11],[(3,8),(10,15)],[(83,9)],[],[],[]⟩
theorem c6 (N aB aD bQ r) (h:N8 N aB aD bQ=some r):B8 prog 6 [(C2 aB),(C2 aD),(C2 bQ)] (.bool r):=by
 unfold N8 at h
 refine N3 cf6 func6 call6 ntmps6 ?_;intro E H0 K hE hK hO;cbv;refine A8 hE h (c33 N aB) (.refl _) fun r1 h=>?_;cbv;refine B0 hE h (fun _ h=>?_) fun _ h=>?_
 ·cbv;refine A8 hE h (c24 N) (.refl _) fun r2 h=>?_;cbv;cases h;exact hK hO (.refl _)
 cbv;refine A8 hE h (c33 N aD) (.refl _) fun r3 h=>?_;cbv;refine B0 hE h (fun _ h=>?_) fun _ h=>?_
 ·cbv;refine A8 hE h (c24 N) (.refl _) fun r4 h=>?_;cbv;cases h;exact hK hO (.refl _)
 cbv;refine A8 hE h (c33 N bQ) (.refl _) fun r5 h=>?_;cbv;refine B0 hE h (fun _ h=>?_) fun _ h=>?_
 ·cbv;refine A8 hE h (c24 N) (.refl _) fun r6 h=>?_;cbv;cases h;exact hK hO (.refl _)
 cbv;refine C9 hE (g:=fun r7=>vi r7) h (c21 N N aB aD) (.refl _) fun r7 h=>?_;cbv;refine C9 hE (g:=fun r8=>vi r8) h (c21 N N aD bQ) (.refl _) fun r8 h=>?_;cbv;refine A8 hE h (c21 N N aB bQ) (.refl _) fun r9 h=>?_;cbv;refine B0 hE h (fun _ h=>?_) fun _ h=>?_
 ·cbv;cases h;exact hK hO (.refl _)
 cbv;refine A8 hE h (c21 N N aD aB) (.refl _) fun r10 h=>?_;cbv;refine B0 hE h (fun _ h=>?_) fun _ h=>?_
 ·cbv;cases h;exact hK hO (.refl _)
 cbv;refine A8 hE h (c21 N N aB aB) (.refl _) fun r11 h=>?_;cbv;refine B0 hE h (fun _ h=>?_) fun _ h=>?_
 ·cbv;cases h;exact hK hO (.refl _)
 cbv;refine F3 hE ?_;cbv;obtain⟨s12,hx,h⟩:=bind_some h;refine M1 cf6 hE N4 (fun e l H1=>match(generalizing:=false) s12 with| .inl y=>e= .normal∧l=[(3,.v (.eref (J2 aB) 0)),(4,.v (.eref (J2 aD) 0)),fi 7 r7]∧B7 Eq H0 [] H1| .inr y=>e= .ret∧l=[(6,.b false)]∧B7 Eq H0 [] H1) (by kernel_rfl) ?_ ?_
 ·clear h;have h:=hx;clear hx;cbv;refine B0 hE h (fun _ h=>?_) fun _ h=>?_
  ·cbv;refine C6 hE hO fun b13 H hO=>?_;cbv;refine A9 hE hO 0 rfl rfl fun H hO=>?_;cbv;refine HI hE (f:=eZi) J6 h fun l14 t15 h=>?_;cbv;refine A9 hE hO 0 rfl rfl fun H hO=>?_;cbv;refine A7 hE hO 0 rfl ?_;cbv;refine C9 hE (g:=fun r16=>vi r16) h (c21 N N ({aB with Kids:=l14}) aB) (.cons (.agg (.cons (.refl _) (.cons (.refl _) (.cons (.refl _) (.cons (.refl _) (.cons (.ro _ _) (.refl _))))))) (.refl _)) fun r16 h=>?_;cbv;refine A7 hE hO 0 rfl ?_;cbv;refine B0 hE h (fun _ h=>?_) fun _ h=>?_
   ·cbv;cases h;exact⟨_,⟨rfl,rfl,hO.tail⟩,.b rfl (.z),rfl⟩
   cbv;refine C9 hE (g:=fun r17=>vi r17) h (c29 N N ({aB with Kids:=l14})) (.cons (.agg (.cons (.refl _) (.cons (.refl _) (.cons (.refl _) (.cons (.refl _) (.cons (.ro _ _) (.refl _))))))) (.refl _)) fun r17 h=>?_;cbv;refine C9 hE (g:=fun r18=>vi r18) h (c29 N N aB) (.refl _) fun r18 h=>?_;cbv;refine D1 hE eZk h fun x19 h=>?_;cbv;refine A8 hE h (c29 N N x19) (.refl _) fun r20 h=>?_;cbv;refine B0 hE h (fun _ h=>?_) fun _ h=>?_
   ·cbv;cases h;exact⟨_,⟨rfl,rfl,hO.tail⟩,.b rfl (.z),rfl⟩
   cbv;cases h;exact⟨_,⟨rfl,rfl,hO.tail⟩,.e rfl (.e2 .z),rfl⟩
  cbv;cases h;exact⟨_,⟨rfl,rfl,hO⟩,.e rfl (.e2 .z),rfl⟩
 clear hx
 rcases s12 with y21|y24
 ·rintro e l H ⟨rfl,rfl,hO⟩;cbv;refine A8 hE h (c34 N N aB aD) (.refl _) fun r22 h=>?_;cbv;refine B0 hE h (fun _ h=>?_) fun _ h=>?_
  ·cbv;refine A8 hE h (c24 N) (.refl _) fun r23 h=>?_;cbv;cases h;exact hK hO (.refl _)
  cbv;cases h;exact hK hO (.refl _)
 rintro e l H ⟨rfl,rfl,hO⟩;cbv;cases h;exact hK hO (.refl _)
end Go.Ab
namespace Go.Ab
open Go.RowKit Go.ChangeShapes Go.WideShapes
variable [G7]
def g0 (W:World):Gh:=⟨fun _=>none,fun _=>⟨0,0,0⟩,fun _=>none,fun b o=>∃v,W.cell? ⟨b,o,none⟩=some v,0,W.heap.size⟩
theorem rl0 {W:World}(hg:∀n,VR (g0 W) W (.pointer (some ⟨n,0,none⟩)) (G7.gl n)):Rl (g0 W) (fun _=>none) W:=
 ⟨fun id b h=>(by cases h),fun id id' b h=>(by simp[Gh.at]at h),fun b o h=>h,fun id _=>⟨rfl,rfl,rfl⟩,Nat.le_refl _,hg⟩
def Cs (g:Gh)(w:World)(cs:List Value)(xs:List V):Prop:=
 cs.length=xs.length∧∀i,i<xs.length→(cs.getD i undef).oneCell'=true∧VR g w (cs.getD i undef) (xs.getD i .bad)
theorem Cs.nil (g:Gh)(w:World):Cs g w [] []:=⟨rfl,fun i hi=>by simp at hi⟩
theorem Cs.one {g:Gh}{w:World}{v:Value}{x:V}(h1:v.oneCell'=true)(h:VR g w v x):Cs g w [v] [x]:=by
 refine⟨rfl,fun i hi=>?_⟩
 have:i=0:=by simpa using hi
 subst this;exact⟨h1,h⟩
theorem Cs.append {g:Gh} {w:World} {cs ds:List Value} {xs ys:List V} (h:Cs g w cs xs) (k:Cs g w ds ys):Cs g w (cs++ds) (xs++ys):=by
 refine⟨by simp[h.1,k.1],fun i hi=>?_⟩;have hl:=h.1
 simp only[List.length_append]at hi
 by_cases hx:i<xs.length
 ·have e1:(cs++ds).getD i undef=cs.getD i undef:=by simp[List.getD,List.getElem?_append_left (show i<cs.length by omega)]
  have e2:(xs++ys).getD i .bad=xs.getD i .bad:=by simp[List.getD,List.getElem?_append_left hx]
  rw[e1,e2];exact h.2 i hx
 have e1:(cs++ds).getD i undef=ds.getD (i - xs.length) undef:=by simp[List.getD,List.getElem?_append_right (show cs.length≤i by omega),hl]
 have e2:(xs++ys).getD i .bad=ys.getD (i - xs.length) .bad:=by simp[List.getD,List.getElem?_append_right (show xs.length≤i by omega)]
 rw[e1,e2];exact k.2 _ (by omega)
theorem Cs.join {g:Gh}{w:World}{cs:List Value}{xs ys:List V}{a n m:Nat}(h:Cs g w ((cs.drop a).take n) xs)(k:Cs g w ((cs.drop (a+n)).take m) ys):Cs g w ((cs.drop a).take (n+m)) (xs++ys):=by
 have:=h.append k
 rwa[show(cs.drop (a+n))=(cs.drop a).drop n by rw[List.drop_drop],←List.take_add]at this
theorem Cs.agg {g:Gh} {w:World} {cs:Array Value} {xs:List V} (h:Cs g w cs.toList xs):VR g w (.agg cs) (.agg xs):=by
 refine .agg (by simpa using h.1) (fun i hi=>?_) fun i hi=>?_
 ·have:=(h.2 i hi).1
  simpa[List.getD,Array.getD_eq_getD_getElem?]using this
 have:=(h.2 i hi).2
 simpa[List.getD,Array.getD_eq_getD_getElem?]using this
section
variable {H α:Type}{enc:TypeId×Value→H}{P:Program}{W:World}{base:Nat}{spare:Nat→Bool}{held:Bool}{t e:TypeId}{n:Nat}
def Bo (enc:TypeId×Value→H)(P:Program)(W:World)(base:Nat)(spare:Nat→Bool)(held:Bool)(t:TypeId)(f:α→V)(R:α→DataW H→Prop)(n:Nat):Prop:=
 ∀cs x,DataW.trod enc P W base spare held n t cs=some x→∃a,Cs (g0 W) W cs (f a).cells∧R a x.1
theorem Iu {k:IntKind}(ht:P.underlying t=some (.int k)):Bo enc P W base spare held t (V.int k) (fun a d=>d= .lit (.int k a)) n:=by
 intro cs x h;obtain⟨a,rfl,rfl,_⟩:=DataW.trod_int ht h;exact⟨a,.one rfl (.int _ _),rfl⟩
theorem El (ht:P.underlying t=some .bool):Bo enc P W base spare held t V.bool (fun a d=>d= .lit (.bool a)) n:=by
 intro cs x h;obtain⟨a,rfl,rfl⟩:=DataW.trod_bool ht h;exact⟨a,.one rfl (.bool _),rfl⟩
def RL (R:α→DataW H→Prop)(l:List α)(ds:List (DataW H)):Prop:=l.length=ds.length∧∀(i:Nat) a d,l[i]? =some a→ds[i]? =some d→R a d
def RS (R:α→DataW H→Prop)(l:List α)(d:DataW H):Prop:=l.length≤maxLen∧((d= .nil∧l=[])∨∃es sp,d= .slice es sp∧RL R l es)
theorem Ol {f:α→V} {R:α→DataW H→Prop} (ht:P.underlying t=some (.slice e)) (hc:0<P.cellsOf e) (he:Bo enc P W base spare held e f R n):
 Bo enc P W base spare held t (fun l:List α=>.sl (l.map f) .ro) (RS R) (n+1):=by
 intro cs x h
 rcases DataW.trod_slice ht h with⟨rfl,rfl⟩|⟨a,len,cap,elems,rest,n',hn,rfl,rfl,hb,hl,hm,hlen,hel,hsp,hns⟩
 ·exact⟨[],.one rfl (.sl0 rfl),Nat.zero_le _,.inl ⟨rfl,rfl⟩⟩
 have hn':n'=n:=by omega
 subst hn'
 rcases Nat.eq_zero_or_pos len with h0|h0
 ·subst h0;have:elems=[]:=List.length_eq_zero_iff.1 hlen;subst this;exact⟨[],.one rfl (.sle (.inl rfl)),Nat.zero_le _,.inr ⟨_,_,rfl,rfl,fun i a d hi=>by simp at hi⟩⟩
 have one:∀i,i<len→∃cs' y b,W.cells? base (a.add (i*P.cellsOf e)) (P.cellsOf e)=some cs'∧elems[i]? =some y∧Cs (g0 W) W cs' (f b).cells∧R b y.1:=by
  intro i hi;have h1:=hel i hi
  have h2:elems[i]? =some (elems[i]'(by omega)):=by simp[hlen,hi]
  rw[h2]at h1
  obtain⟨cs',hcs,hy⟩:=Option.bind_eq_some_iff.1 h1;obtain⟨b,hr,hR⟩:=he cs' _ hy;exact⟨cs',_,b,hcs,h2,hr,hR⟩
 obtain⟨_,_,b0,_⟩:=one 0 h0
 haveI:Inhabited α:=⟨b0⟩
 obtain⟨A,hA⟩:=Deep.choose_lt (α:=α) (p:=fun i b=>∃cs' y,W.cells? base (a.add (i*P.cellsOf e)) (P.cellsOf e)=some cs'∧elems[i]? =some y∧Cs (g0 W) W cs' (f b).cells∧R b y.1)
  (fun i hi=>let⟨cs',y,b,h1,h2,h3,h4⟩:=one i hi;⟨b,cs',y,h1,h2,h3,h4⟩)
 have hspot:a.spot=none:=by
  obtain⟨cs',y,h1,_,_,_⟩:=hA 0 h0;obtain⟨_,hcl,hcell⟩:=World.cells?_some h1;have h2:=hcell 0 hc
  have e0:(a.add (0*P.cellsOf e)).add 0=a:=by simp[Addr.add]
  rw[e0]at h2
  have h3:cs'[0]? =some (cs'[0]'(by omega)):=by simp[hcl,hc]
  rw[h3]at h2
  unfold World.cell? at h2
  split at h2
  ·split at h2
   ·cases h2
   rename_i hs;simpa using hs
  cases h2
 obtain⟨b,o,s⟩:=a
 simp only at hspot
 subst hspot
 let l:=(List.range len).map A
 have hll:l.length=len:=by simp[l]
 have hg:∀i,i<len→(l.map f).getD i .bad=f (A i):=fun i hi=>by simp[l,List.getD,hi]
 have cell:∀i j,i<len→j<P.cellsOf e→∃v,W.cell? ⟨b,o+i*P.cellsOf e+j,none⟩=some v∧v.oneCell'=true∧VR (g0 W) W v ((f (A i)).cells.getD j .bad):=by
  intro i j hi hj;obtain⟨cs',y,h1,_,hr,_⟩:=hA i hi;obtain⟨_,hcl,hcell⟩:=World.cells?_some h1;have h2:=hcell j hj
  rw[O7,O7]at h2
  have h3:cs'[j]? =some (cs'.getD j undef):=by simp[List.getD,hcl,hj]
  rw[h3]at h2
  have:=hr.2 j (by rw[←hr.1,hcl];exact hj);exact⟨_,h2,this.1,this.2⟩
 refine⟨l,.one rfl ?_,by omega,.inr ⟨_,_,rfl,by simp[hll,hlen],fun i a' d hi hd=>?_⟩⟩
 ·have hz:∀i,i<len→((l.map f).getD i .bad).cells.length=P.cellsOf e:=fun i hi=>by
   obtain⟨cs',y,h1,_,hr,_⟩:=hA i hi;obtain⟨_,hcl,_⟩:=World.cells?_some h1;rw[hg i hi,←hr.1,hcl]
  refine .sl (sz:=P.cellsOf e) (fun i j=>(W.cell? ⟨b,o+i*P.cellsOf e+j,none⟩).getD undef) (by simp[hll]) hl hz (fun i j hi hj=>?_) (fun i j hi hj=>?_) (fun i j hi hj=>?_) (fun i j hi hj=>?_) trivial
  ·obtain⟨v,h1,_⟩:=cell i j hi hj;exact⟨v,h1⟩
  ·obtain⟨v,h1,_⟩:=cell i j hi hj;rw[h1];rfl
  ·obtain⟨v,h1,h2,_⟩:=cell i j hi hj;rw[h1];exact h2
  obtain⟨v,h1,h2,h3⟩:=cell i j hi hj;rw[h1,hg i hi];exact h3
 have hi':i<len:=by
  rcases Nat.lt_or_ge i l.length with h|h
  ·omega
  rw[List.getElem?_eq_none h]at hi;cases hi
 obtain⟨cs',y,h1,h2,h3,h4⟩:=hA i hi'
 have e1:a'=A i:=by simp[l,hi']at hi;exact hi.symm
 have e2:d=y.1:=by simp[h2]at hd;exact hd.symm
 rw[e1,e2];exact h4
theorem Qt {fs:Array Field} {xs:List (DataW H×List MemPlace)} {cs:List Value} {n:Nat} (hl:xs.length=fs.size)
 (hf:∀(i:Nat) (f:Field),fs[i]? =some f→DataW.trod enc P W base spare held n f.type ((cs.drop f.offset).take (P.cellsOf f.type))=xs[i]?) (i:Nat) {f:Field} (h:fs[i]? =some f):
 ∃y,xs[i]? =some y∧DataW.trod enc P W base spare held n f.type ((cs.drop f.offset).take (P.cellsOf f.type))=some y:=by
 have hi:i<fs.size:=by
  rcases Nat.lt_or_ge i fs.size with h'|h'
  ·exact h'
  rw[Array.getElem?_eq_none h']at h;cases h
 have h1:xs[i]? =some (xs[i]'(by omega)):=by simp[hl,hi]
 exact⟨_,h1,by rw[hf i f h,h1]⟩
end
end Go.Ab
namespace Go.Ab
noncomputable instance arInst :Ar where
 cmp:=Hm
 cmp_eq:=fun _ _ _=>rfl
 ar:=arI
 ar_eq:=fun _ _ _ _=>rfl
 sh:=shI
 sh_eq:=fun _ _ _ _=>rfl
 neg:=fun k n=>k.wrap (0 - n)
 neg_eq:=fun _ _=>rfl
 wr:=fun k n=>k.wrap n
 wr_eq:=fun _ _=>rfl
 scmp:=XW
 scmp_eq:=fun _ _ _=>rfl
 cat:=fun a b=>a++b
 cat_eq:=fun _ _=>rfl
 slen:=fun s=>s.size
 slen_eq:=fun _=>rfl
 sat:=fun s i=>match s[i.toNat]? with|some b=>(b.toNat:Int)|none=>0
 sat_eq:=fun _ _=>rfl
 beq:=fun a b=>a==b
 beq_eq:=fun _ _=>rfl
 nt:=fun a=> !a
 nt_eq:=fun _=>rfl
 an:=fun a b=>a&&b
 an_eq:=fun _ _=>rfl
 or:=fun a b=>a||b
 or_eq:=fun _ _=>rfl
 pk:=fun c a b=>if c then a else b
 pk_eq:=fun _ _ _=>rfl
 mx:=fun a b=>if a<b then b else a
 mx_eq:=fun _ _=>rfl
 mn:=fun a b=>if b<a then b else a
 mn_eq:=fun _ _=>rfl
 ofs:=fun a b=>a+b
 ofs_eq:=fun _ _=>rfl
 ofN:=fun n=>n
 ofN_eq:=fun _=>rfl
 len:=fun l=>l.length
 len_eq:=fun _=>rfl
 lst:=fun f l=>l.map f
 lst_eq:=fun _ _=>rfl
end Go.Ab
namespace Go.Ab
theorem G4 (a b:Int):Ar.cmp .lss a b=decide (a<b):=rfl
theorem Gk (a b:Int):Ar.cmp .leq a b=decide (a≤b):=rfl
theorem Z3 (a b:Int):Ar.cmp .gtr a b=decide (b<a):=rfl
theorem EE (a b:Int):Ar.cmp .geq a b=decide (b≤a):=rfl
theorem R8 (a b:Int):Ar.cmp .eql a b=decide (a=b):=rfl
theorem M6 (a b:Int):Ar.cmp .neq a b= !decide (a=b):=rfl
theorem Fq (a:Bool):Ar.nt a= !a:=rfl
theorem Ce (a b:Bool):Ar.an a b=(a&&b):=rfl
theorem U8 (a b:Bool):Ar.or a b=(a||b):=rfl
theorem E7 {α:Type}(l:List α):Ar.len l=(l.length:Int):=rfl
theorem Kt (a b:Int):Ar.mx a b=if a<b then b else a:=rfl
theorem NH (s:ByteArray):Ar.slen s=(s.size:Int):=rfl
theorem JL {n:Int} (h0: -9223372036854775808≤n) (h1:n<9223372036854775808):IntKind.wrap .i64 n=n:=by
 have e:IntKind.wrap .i64 n=(if n % 18446744073709551616≥9223372036854775808 then n % 18446744073709551616 - 18446744073709551616 else n % 18446744073709551616):=by
  unfold IntKind.wrap;simp[IntKind.bits,IntKind.signed]
 rw[e]
 split<;>omega
theorem S1 {a b:Int}(h0: -9223372036854775808≤a+b)(h1:a+b<9223372036854775808):Ar.ar .add .i64 a b=a+b:=JL h0 h1
theorem OA {S σ R α:Type} (l:List α) (hl:l.length<1000000000000) (step:S→Option (S ⊕ R)) (mk:σ→Int→S) (body:σ→α→Option (σ ⊕ R)) (fin:σ→R)
 (hstep:∀s (i:Nat) x,l[i]? =some x→step (mk s i)=(body s x).bind fun o=>match o with| .inl s'=>some (.inl (mk s' (i+1)))| .inr r=>some (.inr r))
 (hend:∀s,step (mk s l.length)=some (.inr (fin s))):
 ∀(k:Nat) (i:Nat) (s:σ) (N:Nat),i+k=l.length→k<N→loopN step N (mk s i)=(P4 body (l.drop i) s).bind fun o=>match o with| .inl s=>some (fin s)| .inr r=>some r:=by
 intro k
 induction k with
 |zero=>
  intro i s N hi hN;obtain⟨N,rfl⟩:∃M,N=M+1:=⟨N - 1,by omega⟩;have e:l.drop i=[]:=List.drop_eq_nil_of_le (by omega)
  have ei:((i:Nat):Int)=l.length:=by omega
  rw[e,ei];simp only[loopN,hend,P4,Option.bind_some]
 | succ k ih=>
  intro i s N hi hN;obtain⟨N,rfl⟩:∃M,N=M+1:=⟨N - 1,by omega⟩
  have hlt:i<l.length:=by omega
  have hx:l[i]? =some l[i]:=by simp[hlt]
  have e:l.drop i=l[i]::l.drop (i+1):=List.drop_eq_getElem_cons hlt;rw[e];simp only[loopN,hstep s i _ hx,P4]
  cases hb:body s l[i]with
  |none=>rfl
  | some o=>
   cases o with
   |inl s'=>
    simp only[Option.bind_some];have:=ih (i+1) s' N (by omega) (by omega);rw[show((i:Int)+1)=((i+1:Nat):Int) by omega];exact this
   |inr r=>rfl
theorem Aq {α:Type}{l:List α}{i:Nat}:D4 l (i:Int)=l[i]? :=by simp[D4]
theorem Y6 {S σ R α:Type} (l:List α) (hl:l.length<1000000000000) {step:S→Option (S ⊕ R)} (mk:σ→Int→S) (body:σ→α→Option (σ ⊕ R)) (fin:σ→R) (s:σ) {N:Nat} (hN:l.length<N)
 (hstep:∀s (i:Nat) x,l[i]? =some x→(i:Int)<l.length→step (mk s i)=(body s x).bind fun o=>match o with| .inl s'=>some (.inl (mk s' (i+1)))| .inr r=>some (.inr r))
 (hend:∀s,step (mk s l.length)=some (.inr (fin s))):loopN step N (mk s 0)=(P4 body l s).bind fun o=>match o with| .inl s=>some (fin s)| .inr r=>some r:=by
 have:=OA l hl step mk body fin (fun s i x h=>hstep s i x h (by
  rcases Nat.lt_or_ge i l.length with h'|h'
  ·omega
  rw[List.getElem?_eq_none h']at h;cases h)) hend l.length 0 s N (by omega) hN
 simpa using this
theorem It {α σ R:Type} {step:σ→α→Option (σ ⊕ R)} (I:List α→σ→Prop) (hs:∀x r s,I (x::r) s→∃s',step s x=some (.inl s')∧I r s'):∀{l:List α} {s:σ},I l s→∃s',P4 step l s=some (.inl s')∧I [] s'
 |[],s,h=>⟨s,rfl,h⟩
 |x::l,s,h=>by
  obtain⟨s',h1,h2⟩:=hs x l s h;obtain⟨s2,h3,h4⟩:=It I hs h2;exact⟨s2,by simp only[P4,h1,h3],h4⟩
def Bf {α:Type}(f:α→Int):List α→Int
 |[]=>0
 |x::l=>if f x=0 then Bf f l else f x
theorem Jj {α:Type} {f:α→Int}:∀{l m:List α},Bf f (l++m)=if Bf f l=0 then Bf f m else Bf f l
 |[],m=>by simp[Bf]
 |x::l,m=>by
  simp only[List.cons_append,Bf]
  split
  ·rw[Jj]
  rename_i h;simp[h]
noncomputable def Db {α:Type}(F:α→Option Int)(_:Unit)(a:α):Option (Unit ⊕ (Unit ⊕ Int)):=(F a).bind fun r=>if Ar.cmp .neq r 0=true then some (.inr (.inr r))else some (.inl ())
theorem BK {α:Type} {F:α→Option Int} {f:α→Int}:∀{l:List α},(∀x∈l,F x=some (f x))→P4 (Db F) l ()=some (if Bf f l=0 then .inl ()else .inr (.inr (Bf f l)))
 |[],_=>rfl
 |x::l,h=>by
  have h1:=BK (l:=l) fun y hy=>h y (by simp[hy]);unfold P4 Db;simp only[h x (by simp),Option.bind_some,M6,Bf]
  by_cases hz:f x=0
  ·simp only[hz,decide_true,Bool.not_true,Bool.false_eq_true,if_false,if_true];exact h1
  simp[hz]
end Go.Ab
namespace Go.Ab
open Go.RowKit Go.ChangeShapes Go.WideShapes
variable [G7]
section
variable {H α:Type}{enc:TypeId×Value→H}{P:Program}{W:World}{base:Nat}{spare:Nat→Bool}{held:Bool}{t e:TypeId}{n:Nat}
theorem LN {cs:List Value} {sz:Nat} {f:α→V}:∀(l:List α) (o:Nat),(∀(i:Nat) a,l[i]? =some a→Cs (g0 W) W ((cs.drop (o+i*sz)).take sz) (f a).cells)→Cs (g0 W) W ((cs.drop o).take (l.length*sz)) (l.flatMap fun a=>(f a).cells)
 |[],o,_=>by simp;exact .nil _ _
 | a::l,o,h=>by
  have h0:=h 0 a rfl
  rw[Nat.zero_mul,Nat.add_zero]at h0
  have h1:=LN l (o+sz) fun i b hi=>by
   have:=h (i+1) b (by simpa using hi)
   rwa[show o+(i+1)*sz=o+sz+i*sz by rw[Nat.add_mul];omega]at this
  have:=h0.join h1;rw[List.length_cons,List.flatMap_cons,show(l.length+1)*sz=sz+l.length*sz by rw[Nat.add_mul];omega];exact this
theorem Om {f:α→V} {R:α→DataW H→Prop} {m:Nat} (ht:P.underlying t=some (.array m e)) (hct:P.cellsOf t=m*P.cellsOf e) (hm:0<m) (he:∀n,Bo enc P W base spare held e f R n) {cs:List Value} {x:DataW H×List MemPlace}
 (h:DataW.trod enc P W base spare held n t cs=some x):∃l:List α,Cs (g0 W) W cs (l.flatMap fun a=>(f a).cells)∧∃ds,x.1= .agg ds∧RL R l ds:=by
 cases n with
 |zero=>simp[DataW.trod]at h
 | succ n=>
  simp only[DataW.trod,ht]at h
  split at h
  ·rename_i hl;obtain⟨xs,hmm,rfl⟩:=Option.map_eq_some_iff.1 h
   have hxl:xs.length=m:=by simpa using mapM_some_length hmm
   have one:∀i,i<m→∃b,Cs (g0 W) W ((cs.drop (i*P.cellsOf e)).take (P.cellsOf e)) (f b).cells∧∀y,xs[i]? =some y→R b y.1:=by
    intro i hi;have h1:=mapM_some_get hmm i i (by simp[hi])
    have h2:xs[i]? =some (xs[i]'(by omega)):=by simp[hxl,hi]
    rw[h2]at h1
    obtain⟨b,hr,hR⟩:=he n _ _ h1;exact⟨b,hr,fun y hy=>by rw[h2]at hy;cases hy;exact hR⟩
   obtain⟨b0,_⟩:=one 0 hm
   haveI:Inhabited α:=⟨b0⟩
   obtain⟨A,hA⟩:=Deep.choose_lt one
   have hat:∀(i:Nat) a,((List.range m).map A)[i]? =some a→i<m∧a=A i:=fun i a hi=>by
    rcases Nat.lt_or_ge i m with hlt|hge
    ·simp[hlt]at hi;exact⟨hlt,hi.symm⟩
    rw[List.getElem?_eq_none (by simpa using hge)]at hi;cases hi
   refine⟨(List.range m).map A,?_,_,rfl,by simp[hxl],fun i a d hi hd=>?_⟩
   ·have:=LN (cs:=cs) (sz:=P.cellsOf e) (f:=f) (W:=W) ((List.range m).map A) 0 (fun i a hi=>by
     obtain⟨h1,rfl⟩:=hat i a hi
     simpa using(hA i h1).1)
    simpa[List.take_of_length_le,hl,hct]using this
   obtain⟨h1,rfl⟩:=hat i a hi
   simp only[List.getElem?_map,Option.map_eq_some_iff]at hd
   obtain⟨y,hy,rfl⟩:=hd;exact(hA i h1).2 y hy
  cases h
theorem OI {g:Nat} {cs:Array Value} {xs:List V} {name:String} (hg:P.globalNamed name=some g) (hv:W.var? P name=some cs) (hr:Cs (g0 W) W cs.toList xs):VR (g0 W) W (.pointer (some ⟨g,0,none⟩)) (.eref xs 0):=by
 have cell:∀j,j<xs.length→W.cell? ⟨g,0+j,none⟩=some (cs.toList.getD j undef):=fun j hj=>by
  have h1:=World.var?_cell hg hv j
  have h2:j<cs.size:=by have:=hr.1;simp at this;omega
  rw[Nat.zero_add,h1];simp[List.getD,h2]
 exact .eref (g:=g0 W) (o:=0) (off:=0) (fun j=>cs.toList.getD j undef) (fun j hj=>(⟨_,cell j hj⟩:∃v,W.cell? ⟨g,0+j,none⟩=some v)) (fun j hj=>cell j hj) (fun j hj=>(hr.2 j hj).1) fun j hj=>(hr.2 j hj).2
end
end Go.Ab
namespace Go.Ab
open Go.RowKit Go.ChangeShapes Go.WideShapes
variable [G7]
section
variable {H:Type}{enc:TypeId×Value→H}{P:Program}{W:World}{base:Nat}{spare:Nat→Bool}{held:Bool}{t e:TypeId}{n:Nat}
end
end Go.Ab
namespace Go.Ab
mutual
def B6.bulk :B6→Nat
 |⟨_,args,_,_,_,v⟩=>B6.bulks args+v.Text.size+9
def B6.bulks :List B6→Nat
 |[]=>1
 |a::r=>B6.bulk a+B6.bulks r
end
mutual
def A1.bulk :A1→Nat
 |⟨_,args,_,_,_,_,c⟩=>A1.bulks args+B6.bulk c+6
def A1.bulks :List A1→Nat
 |[]=>1
 |a::r=>A1.bulk a+A1.bulks r
end
mutual
def A2.bulk :A2→Nat
 |⟨_,_,ks⟩=>A2.bulks ks+6
def A2.bulks :List A2→Nat
 |[]=>1
 |a::r=>A2.bulk a+A2.bulks r
end
end Go.Ab
namespace Go.Ab
mutual
def B6.pre :B6→List B6
 |⟨op,args,var,field,kind,val⟩=>⟨op,args,var,field,kind,val⟩::B6.pres args
def B6.pres :List B6→List B6
 |[]=>[]
 |a::r=>B6.pre a++B6.pres r
end
mutual
def B6.dep :B6→Nat
 |⟨_,args,_,_,_,_⟩=>B6.deps args+1
def B6.deps :List B6→Nat
 |[]=>0
 |a::r=>max (B6.dep a) (B6.deps r)
end
mutual
def A1.pre :A1→List A1
 |⟨op,args,typ,var,scope,span,c⟩=>⟨op,args,typ,var,scope,span,c⟩::A1.pres args
def A1.pres :List A1→List A1
 |[]=>[]
 |a::r=>A1.pre a++A1.pres r
end
mutual
def A1.dep :A1→Nat
 |⟨_,args,_,_,_,_,_⟩=>A1.deps args+1
def A1.deps :List A1→Nat
 |[]=>0
 |a::r=>max (A1.dep a) (A1.deps r)
end
theorem B6.pre_eq (x:B6):x.pre=x::B6.pres x.cJ:=by cases x;simp[B6.pre]
theorem A1.pre_eq (x:A1):x.pre=x::A1.pres x.cJ:=by cases x;simp[A1.pre]
theorem B6.dep_eq (x:B6):x.dep=B6.deps x.cJ+1:=by cases x;simp[B6.dep]
theorem A1.dep_eq (x:A1):x.dep=A1.deps x.cJ+1:=by cases x;simp[A1.dep]
theorem B6.bulk_eq (x:B6):x.bulk=B6.bulks x.cJ+x.Value.Text.size+9:=by cases x;simp[B6.bulk]
theorem A1.bulk_eq (x:A1):x.bulk=A1.bulks x.cJ+x.cK.bulk+6:=by cases x;simp[A1.bulk]
theorem JH :∀(l:List B6),(∀a∈l,B6.bulk a≤B6.bulks l)∧l.length≤B6.bulks l
 |[]=>⟨fun a h=>by simp at h,by simp[B6.bulks]⟩
 |b::l=>by
  have h:=JH l;have hb:=B6.bulk_eq b;simp only[B6.bulks,List.length_cons];refine⟨fun a ha=>?_,by omega⟩
  rcases List.mem_cons.1 ha with rfl|ha
  ·omega
  have:=h.1 a ha;omega
mutual
theorem PZ :∀x:B6,x.pre.length≤x.bulk
 |⟨op,args,var,field,kind,val⟩=>by
  have:=Dd args;simp only[B6.pre,B6.bulk,List.length_cons];omega
theorem Dd :∀l:List B6,(B6.pres l).length≤B6.bulks l
 |[]=>by simp[B6.pres]
 |a::l=>by
  have h1:=PZ a;have h2:=Dd l;simp only[B6.pres,B6.bulks,List.length_append];omega
end
mutual
theorem QA :∀x:B6,x.dep≤x.bulk
 |⟨op,args,var,field,kind,val⟩=>by
  have:=Dl args;simp only[B6.dep,B6.bulk];omega
theorem Dl :∀l:List B6,B6.deps l≤B6.bulks l
 |[]=>by simp[B6.deps]
 |a::l=>by
  have h1:=QA a;have h2:=Dl l;simp only[B6.deps,B6.bulks];omega
end
def Cut (lim:Int)(cnt:Nat)(r:Int):Prop:=1≤r∧r≤cnt∧(r=cnt∨lim<r)
section
variable {α:Type}
theorem IQ {lim:Int} {f:α→Option Int} {cnt:α→Nat} {B:Nat} (hB:B≤1000000000000):∀(l:List α) (s:Int),0≤s→s+(l.map cnt).sum≤B→(∀a∈l,∃r,f a=some r∧Cut lim (cnt a) r)→
 ∃o,P4 (fun(s:Int) x=>if s≤lim then(f x).bind fun r=>some (.inl (Ar.ar .add .i64 s r))else some (.inr s)) l s=some o∧
  ∃v,v=(match o with| .inl s=>s| .inr s=>s)∧s≤v∧v≤s+(l.map cnt).sum∧(v=s+(l.map cnt).sum∨lim<v)
 |[],s,h0,_,_=>⟨.inl s,rfl,s,rfl,Int.le_refl _,by simp,.inl (by simp)⟩
 | a::l,s,h0,hb,hf=>by
  simp only[List.map_cons,List.sum_cons]at hb ⊢
  unfold P4
  by_cases hs:s≤lim
  ·obtain⟨r,h1,h2,h3,h4⟩:=hf a (by simp);simp only[if_pos hs,h1,Option.bind_some];have e:Ar.ar .add .i64 s r=s+r:=S1 (by omega) (by omega);rw[e];obtain⟨o,k1,v,k2,k3,k4,k5⟩:=IQ hB l (s+r) (by omega) (by omega) fun b hb=>hf b (by simp[hb]);refine⟨o,k1,v,k2,by omega,by omega,?_⟩
   rcases k5 with k5|k5
   ·rcases h4 with h4|h4
    ·left;omega
    right;omega
   exact .inr k5
  simp only[if_neg hs];exact⟨_,rfl,s,rfl,Int.le_refl _,by omega,.inr (by omega)⟩
end
theorem GO :∀l:List B6,(l.map fun a=>a.pre.length).sum=(B6.pres l).length
 |[]=>rfl
 |a::l=>by simp[B6.pres,GO l]
end Go.Ab
namespace Go.Ab
theorem Bu {x a:B6}(h:a∈x.cJ):a.bulk<x.bulk:=by
 have h1:=(JH x.cJ).1 a h;have h2:=B6.bulk_eq x;omega
theorem Eu (x:B6):x.cJ.length≤x.bulk:=by
 have h1:=(JH x.cJ).2;have h2:=B6.bulk_eq x;omega
theorem CU (x:B6):0<x.bulk:=by have:=B6.bulk_eq x;omega
end Go.Ab
namespace Go.Ab
theorem UV {N:Nat} (hN:40000000≤N) (lim:Int):∀(n:Nat) (x:B6),x.bulk≤n→x.bulk≤16777216→∃r,X0 N n x lim=some r∧Cut lim x.pre.length r:=by
 intro n
 induction n with
 |zero=>intro x h;have:=CU x;omega
 | succ n ih=>
  intro x hx hb;have hxb:=B6.bulk_eq x;have hB:=JH x.cJ;have hpb:=Dd x.cJ;unfold X0;rw[Y6 x.cJ (by omega) (mk:=fun(s:Int) i=>(s,i)) (body:=fun(s:Int) a=>if s≤lim then(X0 N n a lim).bind fun r=>some (.inl (Ar.ar .add .i64 s r))else some (.inr s)) (fin:=fun s=>s) (s:=1) (by omega) ?_ ?_]
  ·obtain⟨o,k1,v,k2,k3,k4,k5⟩:=IQ (lim:=lim) (f:=fun a=>X0 N n a lim) (cnt:=fun a=>a.pre.length) (B:=40000000) (by omega) x.cJ 1 (by omega) (by rw[GO];omega) fun a ha=>ih a (by have:=hB.1 a ha;omega) (by have:=hB.1 a ha;omega)
   rw[GO]at k4 k5
   have hpe:x.pre.length=(B6.pres x.cJ).length+1:=by rw[B6.pre_eq];rfl
   simp only[k1,Option.bind_some];refine⟨v,?_,by omega,by omega,?_⟩
   ·cases o<;>simp_all
   rcases k5 with k5|k5
   ·left;omega
   right;exact k5
  ·intro s i a ha hi;have e:Ar.ar .add .i64 (i:Int) 1=i+1:=S1 (by omega) (by omega);simp only[G4,Gk,Ce,E7,hi,decide_true,Bool.true_and,Aq,ha,Option.bind_some,e,decide_eq_true_eq]
   split
   ·cases X0 N n a lim<;>rfl
   rfl
  intro s;simp[G4,Ce,E7]
theorem Qz {N:Nat} (hN:40000000≤N):∀(n:Nat) (x:B6),x.bulk≤n→x.bulk≤16777216→W9 N n x=some (x.dep:Int):=by
 intro n
 induction n with
 |zero=>intro x h;have:=CU x;omega
 | succ n ih=>
  intro x hx hb;have hl:=Eu x;unfold W9;rw[Y6 x.cJ (by omega) (mk:=fun(s:Int) i=>(s,i)) (body:=fun(s:Int) a=>(W9 N n a).bind fun r=>some (.inl (Ar.mx s r))) (fin:=fun s=>s) (s:=0) (by omega) ?_ ?_]
  ·obtain⟨s',k1,k2⟩:=It (R:=Int) (step:=fun(s:Int) a=>(W9 N n a).bind fun r=>some (.inl (Ar.mx s r))) (fun r s=>(∀a∈r,a∈x.cJ)∧0≤s∧max s (B6.deps r:Int)=(B6.deps x.cJ:Int)) (fun a r s ⟨h1,h2,h3⟩=>by
    have hm:=Bu (h1 a (by simp));refine⟨_,by rw[ih a (by omega) (by omega)];rfl,fun b hb=>h1 b (by simp[hb]),?_,?_⟩
    ·rw[Kt];split<;>omega
    rw[←h3,Kt];simp only[B6.deps];split<;>omega) (l:=x.cJ) (s:=0) ⟨fun a h=>h,Int.le_refl _,by omega⟩
   simp only[k1,Option.bind_some]
   have e:s'=(B6.deps x.cJ:Int):=by have:=k2.2.2;simp only[B6.deps]at this;omega
   have hd:=Dl x.cJ;have hd2:=B6.bulk_eq x;rw[e,S1 (by omega) (by omega),B6.dep_eq];rfl
  ·intro s i a ha hi;have e:Ar.ar .add .i64 (i:Int) 1=i+1:=S1 (by omega) (by omega);simp only[G4,E7,hi,decide_true,if_true,Aq,ha,Option.bind_some,e];cases W9 N n a<;>rfl
  intro s;simp[G4,E7]
theorem RV {N:Nat} (hN:40000000≤N):∀(n:Nat) (x:B6),x.bulk≤n→x.bulk≤16777216→Y8 N n x=some ((x.pre.length:Int),(x.dep:Int)):=by
 intro n
 induction n with
 |zero=>intro x h;have:=CU x;omega
 | succ n ih=>
  intro x hx hb;have hl:=Eu x;unfold Y8;rw[Y6 x.cJ (by omega) (mk:=fun(s:Int×Int) i=>(s.1,s.2,i)) (body:=fun(s:Int×Int) a=>(Y8 N n a).bind fun r=>some (.inl (Ar.ar .add .i64 s.1 r.1,Ar.mx s.2 r.2))) (fin:=fun s=>s) (s:=(1,0)) (by omega) ?_ ?_]
  ·have hp:=Dd x.cJ;have hd:=Dl x.cJ;have hbe:=B6.bulk_eq x
   obtain⟨s',k1,k2⟩:=It (R:=Int×Int) (step:=fun(s:Int×Int) a=>(Y8 N n a).bind fun r=>some (.inl (Ar.ar .add .i64 s.1 r.1,Ar.mx s.2 r.2))) (fun r s=>(∀a∈r,a∈x.cJ)∧0≤s.2∧0≤s.1∧s.1+(B6.pres r).length=(B6.pres x.cJ).length+1∧max s.2 (B6.deps r:Int)=(B6.deps x.cJ:Int)) (fun a r s ⟨h1,h2,h3,h4,h5⟩=>by
    have hm:=Bu (h1 a (by simp))
    simp only[B6.pres,List.length_append,B6.deps]at h4 h5
    refine⟨_,by rw[ih a (by omega) (by omega)];rfl,fun b hb=>h1 b (by simp[hb]),?_,?_,?_,?_⟩
    ·simp only[Kt];split<;>omega
    ·rw[S1 (by omega) (by omega)];omega
    ·rw[S1 (by omega) (by omega)];omega
    rw[←h5];simp only[Kt];split<;>omega) (l:=x.cJ) (s:=(1,0)) ⟨fun a h=>h,by simp,by simp,by simp only;omega,by simp only;omega⟩
   simp only[k1,Option.bind_some];obtain⟨_,_,_,e1,e2⟩:=k2
   simp only[B6.pres,List.length_nil,B6.deps]at e1 e2
   have e3:s'.1=(x.pre.length:Int):=by rw[B6.pre_eq];simp only[List.length_cons];omega
   have e4:s'.2=(B6.deps x.cJ:Int):=by omega
   rw[e3,e4,S1 (by omega) (by omega),B6.dep_eq];rfl
  ·intro s i a ha hi;have e:Ar.ar .add .i64 (i:Int) 1=i+1:=S1 (by omega) (by omega);simp only[G4,E7,hi,decide_true,if_true,Aq,ha,Option.bind_some,e];cases Y8 N n a<;>rfl
  intro s;simp[G4,E7]
theorem KY {f:B6→Int}:∀l:List B6,Bf (fun a=>Bf f a.pre) l=Bf f (B6.pres l)
 |[]=>rfl
 |a::l=>by rw[B6.pres,Jj,Bf,KY l]
theorem NE {a y:B6} (hy:y∈a.pre):∀l:List B6,a∈l→y∈B6.pres l
 |[],h=>by simp at h
 |b::l,h=>by
  rcases List.mem_cons.1 h with rfl|h
  ·simp[B6.pres,hy]
  simp[B6.pres,NE hy l h]
theorem Tm {N:Nat} (hN:40000000≤N) {F:B6→Option Int} {f:B6→Int}:∀(n:Nat) (x:B6),x.bulk≤n→x.bulk≤16777216→(∀y∈x.pre,F y=some (f y))→X4 N n x F=some (Bf f x.pre):=by
 intro n
 induction n with
 |zero=>intro x h;have:=CU x;omega
 | succ n ih=>
  intro x hx hb hF;have hl:=Eu x;have hpe:=B6.pre_eq x;unfold X4;rw[hF x (by rw[hpe];simp)];simp only[Option.bind_some,M6];rw[hpe,Bf]
  by_cases hz:f x=0
  ·simp only[hz,decide_true,Bool.not_true,Bool.false_eq_true,if_false,if_true];rw[Y6 x.cJ (by omega) (mk:=fun(_:Unit) i=>i) (body:=Db fun a=>X4 N n a F) (fin:=fun _=>.inl ()) (s:=()) (by omega) ?_ ?_]
   ·rw[BK (f:=fun a=>Bf f a.pre) fun a ha=>ih a (by have:=Bu ha;omega) (by have:=Bu ha;omega) fun y hy=>hF y (by rw[hpe];exact List.mem_cons_of_mem _ (NE hy _ ha)),KY]
    by_cases hz3:Bf f (B6.pres x.cJ)=0
    ·simp[hz3]
    simp[hz3]
   ·intro s i a ha hi;have e:Ar.ar .add .i64 (i:Int) 1=i+1:=S1 (by omega) (by omega);simp only[G4,E7,hi,decide_true,if_true,Aq,ha,Option.bind_some,e,Db,M6]
    cases X4 N n a F with
    |none=>rfl
    |some r=>by_cases h:r=0<;>simp[h]
   intro s;simp[G4,E7]
  simp[hz]
theorem Ss {N:Nat} (hN:40000000≤N) {f:B6→Int} (hF:∀y,Ei N y=some (f y)):∀(n:Nat) (x:B6),x.bulk≤n→x.bulk≤16777216→AA N n x=some (Bf f x.pre):=by
 intro n
 induction n with
 |zero=>intro x h;have:=CU x;omega
 | succ n ih=>
  intro x hx hb;have hl:=Eu x;have hpe:=B6.pre_eq x;unfold AA;rw[hF x];simp only[Option.bind_some,M6];rw[hpe,Bf]
  by_cases hz:f x=0
  ·simp only[hz,decide_true,Bool.not_true,Bool.false_eq_true,if_false,if_true];rw[Y6 x.cJ (by omega) (mk:=fun(_:Unit) i=>i) (body:=Db fun a=>AA N n a) (fin:=fun _=>.inl ()) (s:=()) (by omega) ?_ ?_]
   ·rw[BK (f:=fun a=>Bf f a.pre) fun a ha=>ih a (by have:=Bu ha;omega) (by have:=Bu ha;omega),KY]
    by_cases hz3:Bf f (B6.pres x.cJ)=0
    ·simp[hz3]
    simp[hz3]
   ·intro s i a ha hi;have e:Ar.ar .add .i64 (i:Int) 1=i+1:=S1 (by omega) (by omega);simp only[G4,E7,hi,decide_true,if_true,Aq,ha,Option.bind_some,e,Db,M6]
    cases AA N n a with
    |none=>rfl
    |some r=>by_cases h:r=0<;>simp[h]
   intro s;simp[G4,E7]
  simp[hz]
end Go.Ab
