/- . -/
import Derived.Test.YtjhobbohibnioaaGreatDoorF16
import Derived.Deep.Slices
import Derived.Carry
import Derived.Lib.LaidTab
import Derived.Laws.Strings
set_option linter.all false
namespace Go.Ab
open Go.RowKit Go.ChangeShapes Go.WideShapes
variable [O5]
def g0 (W:World):Gh:=⟨fun _=>none,fun _=>⟨0,0,0⟩,fun _=>none,fun b o=>∃v,W.cell? ⟨b,o,none⟩=some v,0,W.heap.size⟩
theorem rl0 {W:World}(hg:∀n,VR (g0 W) W (.pointer (some ⟨n,0,none⟩)) (O5.gl n)):Rl (g0 W) (fun _=>none) W:=
 ⟨fun id b h=>(by cases h),fun id id' b h=>(by simp[Gh.at]at h),fun b o h=>h,fun id _=>⟨rfl,rfl,rfl⟩,B3 _,hg⟩
def FQ (g:Gh)(w:World)(cs:List Value)(xs:List V):Prop:=
 cs.length=xs.length∧∀i,i<xs.length→(cs.getD i undef).oneCell'=true∧VR g w (cs.getD i undef) (xs.getD i .bad)
theorem FQ.nil (g:Gh)(w:World):FQ g w [] []:=⟨rfl,fun i hi=>by simp at hi⟩
theorem FQ.one {g:Gh}{w:World}{v:Value}{x:V}(h1:v.oneCell'=true)(h:VR g w v x):FQ g w [v] [x]:=by
 simp_all[FQ]
theorem FQ.append {g:Gh}{w:World}{cs ds:List Value}{xs ys:List V}(h:FQ g w cs xs)(k:FQ g w ds ys):FQ g w (cs++ds) (xs++ys):=by
 grind[FQ]
theorem FQ.join {g:Gh}{w:World}{cs:List Value}{xs ys:List V}{a n m:Nat}(h:FQ g w ((cs.drop a).take n) xs)(k:FQ g w ((cs.drop (a+n)).take m) ys):FQ g w ((cs.drop a).take (n+m)) (xs++ys):=by
 have:=h.append k
 rwa[show(cs.drop (a+n))=(cs.drop a).drop n by rw[It],←List.take_add]at this
theorem FQ.agg {g:Gh} {w:World} {cs:Array Value} {xs:List V} (h:FQ g w cs.toList xs):VR g w (.agg cs) (.agg xs):=by
 refine .agg (by simpa using h.1) (fun i hi=>?_) fun i hi=>?_
 ·have:=(h.2 i hi).1
  simp_all
 have:=(h.2 i hi).2
 simp_all
section
variable {H α:Type}{enc:TypeId×Value→H}{P:Program}{W:World}{base:Nat}{spare:Nat→Bool}{held:Bool}{t e:TypeId}{n:Nat}
def BC (enc:TypeId×Value→H)(P:Program)(W:World)(base:Nat)(spare:Nat→Bool)(held:Bool)(t:TypeId)(f:α→V)(R:α→DataW H→Prop)(n:Nat):Prop:=
 ∀cs x,DataW.trod enc P W base spare held n t cs=some x→∃a,FQ (g0 W) W cs (f a).cells∧R a x.1
theorem Qm {k:IntKind}(ht:P.underlying t=some (.int k)):BC enc P W base spare held t (V.int k) (fun a d=>d= .lit (.int k a)) n:=by
 intro cs x h;obtain⟨a,rfl,rfl,_⟩:=DataW.trod_int ht h;exact⟨a,.one rfl (.int _ _),rfl⟩
theorem Kt (ht:P.underlying t=some .bool):BC enc P W base spare held t V.bool (fun a d=>d= .lit (.bool a)) n:=by
 intro cs x h;obtain⟨a,rfl,rfl⟩:=DataW.trod_bool ht h;exact⟨a,.one rfl (.bool _),rfl⟩
theorem As5 (ht:P.underlying t=some .string):BC enc P W base spare held t V.str (fun a d=>d= .lit (.string a.data.toList)∧a.size≤maxLen) n:=by
 intro cs x h;obtain⟨a,rfl,rfl,hl⟩:=DataW.trod_string ht h;exact⟨a,.one rfl (.str _),rfl,hl⟩
def RL (R:α→DataW H→Prop)(l:List α)(ds:List (DataW H)):Prop:=l.length=ds.length∧∀(i:Nat) a d,l[i]? =some a→ds[i]? =some d→R a d
def RS (R:α→DataW H→Prop)(l:List α)(d:DataW H):Prop:=l.length≤maxLen∧((d= .nil∧l=[])∨∃es sp,d= .slice es sp∧RL R l es)
theorem Jf {f:α→V} {R:α→DataW H→Prop} (ht:P.underlying t=some (.slice e)) (hc:0<P.cellsOf e) (he:BC enc P W base spare held e f R n):
 BC enc P W base spare held t (fun l:List α=>.sl (l.map f) .ro) (RS R) (n+1):=by
 intro cs x h
 rcases DataW.trod_slice ht h with⟨rfl,rfl⟩|⟨a,len,cap,elems,rest,n',hn,rfl,rfl,hb,hl,hm,hlen,hel,hsp,hns⟩
 ·exact⟨[],.one rfl (.sl0 rfl),CR _,.inl ⟨rfl,rfl⟩⟩
 have hn':n'=n:=by omega
 subst hn'
 rcases Nat.eq_zero_or_pos len with h0|h0
 ·subst h0;have:elems=[]:=List.length_eq_zero_iff.1 hlen;subst this;exact⟨[],.one rfl (.sle (.inl rfl)),CR _,.inr ⟨_,_,rfl,rfl,fun i a d hi=>by simp at hi⟩⟩
 have one:∀i,i<len→∃cs' y b,W.cells? base (a.add (i*P.cellsOf e)) (P.cellsOf e)=some cs'∧elems[i]? =some y∧FQ (g0 W) W cs' (f b).cells∧R b y.1:=by
  grind[Option.bind_eq_some_iff,BC]
 obtain⟨_,_,b0,_⟩:=one 0 h0
 haveI:Inhabited α:=⟨b0⟩
 obtain⟨A,hA⟩:=Deep.choose_lt (α:=α) (p:=fun i b=>∃cs' y,W.cells? base (a.add (i*P.cellsOf e)) (P.cellsOf e)=some cs'∧elems[i]? =some y∧FQ (g0 W) W cs' (f b).cells∧R b y.1)
  (fun i hi=>let⟨cs',y,b,h1,h2,h3,h4⟩:=one i hi;⟨b,cs',y,h1,h2,h3,h4⟩)
 have hspot:a.spot=none:=by
  obtain⟨cs',y,h1,_,_,_⟩:=hA 0 h0;obtain⟨_,hcl,hcell⟩:=Lw h1;have h2:=hcell 0 hc
  have e0:(a.add (0*P.cellsOf e)).add 0=a:=by simp[Addr.add]
  rw[e0]at h2
  have h3:cs'[0]? =some (cs'[0]'(by omega)):=by grind
  rw[h3]at h2
  unfold World.cell? at h2
  split at h2
  ·simp_all
  cases h2
 obtain⟨b,o,s⟩:=a
 simp only at hspot
 subst hspot
 let l:=(List.range len).map A
 have hll:l.length=len:=by simp[l]
 have hg:∀i,i<len→(l.map f).getD i .bad=f (A i):=fun i hi=>by grind
 have cell:∀i j,i<len→j<P.cellsOf e→∃v,W.cell? ⟨b,o+i*P.cellsOf e+j,none⟩=some v∧v.oneCell'=true∧VR (g0 W) W v ((f (A i)).cells.getD j .bad):=by
  intro i j hi hj;obtain⟨cs',y,h1,_,hr,_⟩:=hA i hi;obtain⟨_,hcl,hcell⟩:=Lw h1;have h2:=hcell j hj
  rw[Bd,Bd]at h2
  have h3:cs'[j]? =some (cs'.getD j undef):=by simp_all
  rw[h3]at h2
  have:=hr.2 j (by rw[←hr.1,hcl];exact hj)
  simp_all
 refine⟨l,.one rfl ?_,by omega,.inr ⟨_,_,rfl,by simp_all,fun i a' d hi hd=>?_⟩⟩
 ·have hz:∀i,i<len→((l.map f).getD i .bad).cells.length=P.cellsOf e:=fun i hi=>by
   obtain⟨cs',y,h1,_,hr,_⟩:=hA i hi;obtain⟨_,hcl,_⟩:=Lw h1;rw[hg i hi,←hr.1,hcl]
  refine .sl (sz:=P.cellsOf e) (fun i j=>(W.cell? ⟨b,o+i*P.cellsOf e+j,none⟩).getD undef) (by simp[hll]) hl hz (fun i j hi hj=>?_) (fun i j hi hj=>?_) (fun i j hi hj=>?_) (fun i j hi hj=>?_) trivial
  ·grind[g0]
  ·grind
  ·grind
  grind
 grind
theorem Af2 {fs:Array Field} {xs:List (DataW H×List MemPlace)} {cs:List Value} {n:Nat} (hl:xs.length=fs.size)
 (hf:∀(i:Nat) (f:Field),fs[i]? =some f→DataW.trod enc P W base spare held n f.type ((cs.drop f.offset).take (P.cellsOf f.type))=xs[i]?) (i:Nat) {f:Field} (h:fs[i]? =some f):
 ∃y,xs[i]? =some y∧DataW.trod enc P W base spare held n f.type ((cs.drop f.offset).take (P.cellsOf f.type))=some y:=by
 have hi:i<fs.size:=by
  grind
 have h1:xs[i]? =some (xs[i]'(by omega)):=by grind
 grind
end
end Go.Ab
namespace Go.Ab
noncomputable instance arInst :Ar where
 cmp:=PG
 cmp_eq:=fun _ _ _=>rfl
 ar:=arI
 ar_eq:=fun _ _ _ _=>rfl
 sh:=shI
 sh_eq:=fun _ _ _ _=>rfl
 neg:=fun k n=>k.wrap (0-n)
 neg_eq:=fun _ _=>rfl
 wr:=fun k n=>k.wrap n
 wr_eq:=fun _ _=>rfl
 scmp:=Ba3
 scmp_eq:=fun _ _ _=>rfl
 cat:=fun a b=>a++b
 cat_eq:=fun _ _=>rfl
 slen:=fun s=>s.size
 slen_eq:=fun _=>rfl
 sat:=fun s i=>match s[i.toNat]? with|some b=>(b.toNat:Int)|none=>0
 sat_eq:=fun _ _=>rfl
 beq:=fun a b=>a==b
 beq_eq:=fun _ _=>rfl
 nt:=fun a=> !a
 nt_eq:=fun _=>rfl
 an:=fun a b=>a&&b
 an_eq:=fun _ _=>rfl
 or:=fun a b=>a||b
 or_eq:=fun _ _=>rfl
 pk:=fun c a b=>if c then a else b
 pk_eq:=fun _ _ _=>rfl
 mx:=fun a b=>if a<b then b else a
 mx_eq:=fun _ _=>rfl
 mn:=fun a b=>if b<a then b else a
 mn_eq:=fun _ _=>rfl
 ofs:=fun a b=>a+b
 ofs_eq:=fun _ _=>rfl
 ofN:=fun n=>n
 ofN_eq:=fun _=>rfl
 len:=fun l=>l.length
 len_eq:=fun _=>rfl
 lst:=fun f l=>l.map f
 lst_eq:=fun _ _=>rfl
theorem D4 (a b:Int):Ar.cmp .lss a b=decide (a<b):=rfl
theorem BS (a b:Int):Ar.cmp .leq a b=decide (a≤b):=rfl
theorem Br (a b:Int):Ar.cmp .gtr a b=decide (b<a):=rfl
theorem R4 (a b:Int):Ar.cmp .geq a b=decide (b≤a):=rfl
theorem D8 (a b:Int):Ar.cmp .eql a b=decide (a=b):=rfl
theorem N0 (a b:Int):Ar.cmp .neq a b= !decide (a=b):=rfl
theorem R8 (a:Bool):Ar.nt a= !a:=rfl
theorem L3 (a b:Bool):Ar.an a b=(a&&b):=rfl
theorem P5 (a b:Bool):Ar.or a b=(a||b):=rfl
theorem B4 {α:Type}(l:List α):Ar.len l=(l.length:Int):=rfl
theorem Kw (a b:Int):Ar.mx a b=if a<b then b else a:=rfl
theorem XC (s:ByteArray):Ar.slen s=(s.size:Int):=rfl
theorem Bs {n:Int} (h0: -9223372036854775808≤n) (h1:n<9223372036854775808):IntKind.wrap .i64 n=n:=by
 have e:IntKind.wrap .i64 n=(if n % 18446744073709551616≥9223372036854775808 then n % 18446744073709551616-18446744073709551616 else n % 18446744073709551616):=by
  unfold IntKind.wrap;simp[IntKind.bits,IntKind.signed]
 rw[e]
 split<;>omega
theorem D3 {a b:Int}(h0: -9223372036854775808≤a+b)(h1:a+b<9223372036854775808):Ar.ar .add .i64 a b=a+b:=Bs h0 h1
theorem YD {S σ R α:Type} (l:List α) (hl:l.length<1000000000000) (step:S→Option (S⊕R)) (mk:σ→Int→S) (body:σ→α→Option (σ⊕R)) (fin:σ→R)
 (hstep:∀s (i:Nat) x,l[i]? =some x→step (mk s i)=(body s x).bind fun o=>match o with| .inl s'=>some (.inl (mk s' (i+1)))| .inr r=>some (.inr r))
 (hend:∀s,step (mk s l.length)=some (.inr (fin s))):
 ∀(k:Nat) (i:Nat) (s:σ) (N:Nat),i+k=l.length→k<N→loopN step N (mk s i)=(K7 body (l.drop i) s).bind fun o=>match o with| .inl s=>some (fin s)| .inr r=>some r:=by
 intro k
 induction k with
 |zero=>
  intro i s N hi hN;obtain⟨N,rfl⟩:∃M,N=M+1:=⟨N-1,by omega⟩;have e:l.drop i=[]:=DW (by omega)
  have ei:((i:Nat):Int)=l.length:=by omega
  rw[e,ei]
  grind[loopN,K7]
 | succ k ih=>
  intro i s N hi hN;obtain⟨N,rfl⟩:∃M,N=M+1:=⟨N-1,by omega⟩
  have hlt:i<l.length:=by omega
  have hx:l[i]? =some l[i]:=by simp[hlt]
  have e:l.drop i=l[i]::l.drop (i+1):=R7 hlt;rw[e];simp only[loopN,hstep s i _ hx,K7]
  cases hb:body s l[i]with
  |none=>rfl
  | some o=>
   cases o with
   |inl s'=>
    simp only[A4];have:=ih (i+1) s' N (by omega) (by omega);rw[show((i:Int)+1)=((i+1:Nat):Int) by omega];exact this
   |inr r=>rfl
theorem F6 {α:Type}{l:List α}{i:Nat}:C3 l (i:Int)=l[i]? :=by simp[C3]
theorem Ws {β S σ R α:Type} (l:List α) (step:S→Option (List β×(S⊕R))) (mk:σ→Int→S) (body:σ→α→Option (List β×(σ⊕R))) (fin:σ→R)
 (hstep:∀s (i:Nat) x,l[i]? =some x→step (mk s i)=(body s x).bind fun o=>match o with|(w,.inl s')=>some (w,.inl (mk s' (i+1)))|(w,.inr r)=>some (w,.inr r))
 (hend:∀s,step (mk s l.length)=some ([],.inr (fin s))):
 ∀(k:Nat) (i:Nat) (s:σ) (N:Nat),i+k=l.length→k<N→De step N (mk s i)=(Af body (l.drop i) s).bind fun o=>match o with|(w,.inl s)=>some (w,fin s)|(w,.inr r)=>some (w,r):=by
 intro k
 induction k with
 |zero=>
  intro i s N hi hN;obtain⟨N,rfl⟩:∃M,N=M+1:=⟨N-1,by omega⟩;have e:l.drop i=[]:=DW (by omega)
  have ei:((i:Nat):Int)=l.length:=by omega
  rw[e,ei]
  grind[De,Af]
 | succ k ih=>
  intro i s N hi hN;obtain⟨N,rfl⟩:∃M,N=M+1:=⟨N-1,by omega⟩
  have hlt:i<l.length:=by omega
  have hx:l[i]? =some l[i]:=by simp[hlt]
  have e:l.drop i=l[i]::l.drop (i+1):=R7 hlt;rw[e];simp only[De,hstep s i _ hx,Af]
  cases hb:body s l[i]with
  |none=>rfl
  | some o=>
   obtain⟨w,o⟩:=o
   cases o with
   |inl s'=>
    simp only[A4];have:=ih (i+1) s' N (by omega) (by omega);rw[show((i:Int)+1)=((i+1:Nat):Int) by omega,this]
    grind
   |inr r=>rfl
theorem L5 {S σ R α:Type} (l:List α) (hl:l.length<1000000000000) {step:S→Option (S⊕R)} (mk:σ→Int→S) (body:σ→α→Option (σ⊕R)) (fin:σ→R) (s:σ) {N:Nat} (hN:l.length<N)
 (hstep:∀s (i:Nat) x,l[i]? =some x→(i:Int)<l.length→step (mk s i)=(body s x).bind fun o=>match o with| .inl s'=>some (.inl (mk s' (i+1)))| .inr r=>some (.inr r))
 (hend:∀s,step (mk s l.length)=some (.inr (fin s))):loopN step N (mk s 0)=(K7 body l s).bind fun o=>match o with| .inl s=>some (fin s)| .inr r=>some r:=by
 have:=YD l hl step mk body fin (fun s i x h=>hstep s i x h (by
  grind)) hend l.length 0 s N (by omega) hN
 simp_all
theorem Ad7 {β S σ R α:Type} (l:List α) {step:S→Option (List β×(S⊕R))} (mk:σ→Int→S) (body:σ→α→Option (List β×(σ⊕R))) (fin:σ→R) (s:σ) {N:Nat} (hN:l.length<N)
 (hstep:∀s (i:Nat) x,l[i]? =some x→(i:Int)<l.length→step (mk s i)=(body s x).bind fun o=>match o with|(w,.inl s')=>some (w,.inl (mk s' (i+1)))|(w,.inr r)=>some (w,.inr r))
 (hend:∀s,step (mk s l.length)=some ([],.inr (fin s))):De step N (mk s 0)=(Af body l s).bind fun o=>match o with|(w,.inl s)=>some (w,fin s)|(w,.inr r)=>some (w,r):=by
 have:=Ws l step mk body fin (fun s i x h=>hstep s i x h (by
  grind)) hend l.length 0 s N (by omega) hN
 simp_all
theorem Dr {α σ R:Type} {step:σ→α→Option (σ⊕R)} (I:List α→σ→Prop) (hs:∀x r s,I (x::r) s→∃s',step s x=some (.inl s')∧I r s'):∀{l:List α} {s:σ},I l s→∃s',K7 step l s=some (.inl s')∧I [] s'
 |[],s,h=>⟨s,rfl,h⟩
 |x::l,s,h=>by
  obtain⟨s',h1,h2⟩:=hs x l s h;obtain⟨s2,h3,h4⟩:=Dr I hs h2
  simp_all[K7]
theorem ST {α β σ R:Type} {step:σ→α→Option (List β×(σ⊕R))} (I:List α→List β→σ→Prop) (hs:∀x r w s,I (x::r) w s→∃w' s',step s x=some (w',.inl s')∧I r (w++w') s'):
 ∀{l:List α} {w:List β} {s:σ},I l w s→∃w' s',Af step l s=some (w',.inl s')∧I [] (w++w') s'
 |[],w,s,h=>⟨[],s,rfl,by grind⟩
 |x::l,w,s,h=>by
  obtain⟨w1,s1,h1,h2⟩:=hs x l w s h;obtain⟨w2,s2,h3,h4⟩:=ST I hs h2
  grind[Af]
def Az {α:Type}(f:α→Int):List α→Int
 |[]=>0
 |x::l=>if f x=0 then Az f l else f x
theorem FM {α:Type} {f:α→Int}:∀{l:List α},Az f l=0↔∀x∈l,f x=0
 |[]=>by simp[Az]
 |x::l=>by
  unfold Az
  split
  ·rename_i h;rw[FM];simp[h]
  simp_all
theorem Rz {α:Type} {f:α→Int}:∀{l m:List α},Az f (l++m)=if Az f l=0 then Az f m else Az f l
 |[],m=>by simp[Az]
 |x::l,m=>by
  simp only[X2,Az]
  split
  ·rw[Rz]
  omega
theorem UV {α:Type} {F:α→Option Int} {f:α→Int}:∀{l:List α},(∀x∈l,F x=some (f x))→
 K7 (fun(_:Unit) x=>(F x).bind fun r=>if Ar.cmp .neq r 0=true then some (Sum.inr r)else some (.inl ())) l ()=some (if Az f l=0 then .inl ()else .inr (Az f l))
 |[],_=>rfl
 |x::l,h=>by
  have h1:=UV (l:=l) fun y hy=>h y (by simp[hy]);unfold K7;simp only[h x (by simp),A4,N0,Az]
  by_cases hz:f x=0
  ·simp_all[N0]
  simp[hz]
noncomputable def Cn {α:Type}(F:α→Option Int)(_:Unit)(a:α):Option (Unit⊕(Unit⊕Int)):=(F a).bind fun r=>if Ar.cmp .neq r 0=true then some (.inr (.inr r))else some (.inl ())
theorem Bm {α:Type} {F:α→Option Int} {f:α→Int}:∀{l:List α},(∀x∈l,F x=some (f x))→K7 (Cn F) l ()=some (if Az f l=0 then .inl ()else .inr (.inr (Az f l)))
 |[],_=>rfl
 |x::l,h=>by
  have h1:=Bm (l:=l) fun y hy=>h y (by simp[hy]);unfold K7 Cn;simp only[h x (by simp),A4,N0,Az]
  by_cases hz:f x=0
  ·simp only[hz,G9,AD,J7,G4,D1];exact h1
  simp[hz]
end Go.Ab
namespace Go.Ab
open Go.RowKit Go.ChangeShapes Go.WideShapes
variable [O5]
section
variable {H α:Type}{enc:TypeId×Value→H}{P:Program}{W:World}{base:Nat}{spare:Nat→Bool}{held:Bool}{t e:TypeId}{n:Nat}
theorem UR {cs:List Value} {sz:Nat} {f:α→V}:∀(l:List α) (o:Nat),(∀(i:Nat) a,l[i]? =some a→FQ (g0 W) W ((cs.drop (o+i*sz)).take sz) (f a).cells)→FQ (g0 W) W ((cs.drop o).take (l.length*sz)) (l.flatMap fun a=>(f a).cells)
 |[],o,_=>by simp;exact .nil _ _
 | a::l,o,h=>by
  have h0:=h 0 a rfl
  rw[Nat.zero_mul,AC]at h0
  have h1:=UR l (o+sz) fun i b hi=>by
   have:=h (i+1) b (by grind)
   rwa[show o+(i+1)*sz=o+sz+i*sz by rw[E3];omega]at this
  have:=h0.join h1;rw[H7,U8,show(l.length+1)*sz=sz+l.length*sz by rw[E3];omega];exact this
theorem Yo {f:α→V} {R:α→DataW H→Prop} {m:Nat} (ht:P.underlying t=some (.array m e)) (hct:P.cellsOf t=m*P.cellsOf e) (hm:0<m) (he:∀n,BC enc P W base spare held e f R n) {cs:List Value} {x:DataW H×List MemPlace}
 (h:DataW.trod enc P W base spare held n t cs=some x):∃l:List α,FQ (g0 W) W cs (l.flatMap fun a=>(f a).cells)∧∃ds,x.1= .agg ds∧RL R l ds:=by
 cases n with
 |zero=>simp[DataW.trod]at h
 | succ n=>
  simp only[DataW.trod,ht]at h
  split at h
  ·rename_i hl;obtain⟨xs,hmm,rfl⟩:=Option.map_eq_some_iff.1 h
   have hxl:xs.length=m:=by simpa using mapM_some_length hmm
   have one:∀i,i<m→∃b,FQ (g0 W) W ((cs.drop (i*P.cellsOf e)).take (P.cellsOf e)) (f b).cells∧∀y,xs[i]? =some y→R b y.1:=by
    intro i hi;have h1:=mapM_some_get hmm i i (by simp[hi])
    have h2:xs[i]? =some (xs[i]'(by omega)):=by grind
    rw[h2]at h1
    obtain⟨b,hr,hR⟩:=he n _ _ h1
    grind
   obtain⟨b0,_⟩:=one 0 hm
   haveI:Inhabited α:=⟨b0⟩
   obtain⟨A,hA⟩:=Deep.choose_lt one
   have hat:∀(i:Nat) a,((List.range m).map A)[i]? =some a→i<m∧a=A i:=fun i a hi=>by
    grind
   refine⟨(List.range m).map A,?_,_,rfl,by simp[hxl],fun i a d hi hd=>?_⟩
   ·have:=UR (cs:=cs) (sz:=P.cellsOf e) (f:=f) (W:=W) ((List.range m).map A) 0 (fun i a hi=>by
     grind)
    grind
   grind
  cases h
theorem YO {g:Nat} {cs:Array Value} {xs:List V} {name:String} (hg:P.globalNamed name=some g) (hv:W.var? P name=some cs) (hr:FQ (g0 W) W cs.toList xs):VR (g0 W) W (.pointer (some ⟨g,0,none⟩)) (.eref xs 0):=by
 have cell:∀j,j<xs.length→W.cell? ⟨g,0+j,none⟩=some (cs.toList.getD j undef):=fun j hj=>by
  have h1:=World.var?_cell hg hv j
  have h2:j<cs.size:=by have:=hr.1;simp_all
  rw[K1,h1]
  simp_all
 exact .eref (g:=g0 W) (o:=0) (off:=0) (fun j=>cs.toList.getD j undef) (fun j hj=>(⟨_,cell j hj⟩:∃v,W.cell? ⟨g,0+j,none⟩=some v)) (fun j hj=>cell j hj) (fun j hj=>(hr.2 j hj).1) fun j hj=>(hr.2 j hj).2
end
section
variable {H:Type}{enc:TypeId×Value→H}{P:Program}{W:World}{base:Nat}{spare:Nat→Bool}{held:Bool}{t e:TypeId}{n:Nat}
end
end Go.Ab
namespace Go.Ab
mutual
def B6.bulk:B6→Nat
 |⟨_,args,_,_,_,v⟩=>B6.bulks args+v.Text.size+9
def B6.bulks:List B6→Nat
 |[]=>1
 |a::r=>B6.bulk a+B6.bulks r
end
mutual
def A1.bulk:A1→Nat
 |⟨_,args,_,_,_,_,c⟩=>A1.bulks args+B6.bulk c+6
def A1.bulks:List A1→Nat
 |[]=>1
 |a::r=>A1.bulk a+A1.bulks r
end
mutual
def A3.bulk:A3→Nat
 |⟨_,_,ks⟩=>A3.bulks ks+6
def A3.bulks:List A3→Nat
 |[]=>1
 |a::r=>A3.bulk a+A3.bulks r
end
mutual
def B6.pre:B6→List B6
 |⟨op,args,var,field,kind,val⟩=>⟨op,args,var,field,kind,val⟩::B6.pres args
def B6.pres:List B6→List B6
 |[]=>[]
 |a::r=>B6.pre a++B6.pres r
end
mutual
def B6.dep:B6→Nat
 |⟨_,args,_,_,_,_⟩=>B6.deps args+1
def B6.deps:List B6→Nat
 |[]=>0
 |a::r=>max (B6.dep a) (B6.deps r)
end
mutual
def A1.pre:A1→List A1
 |⟨op,args,typ,var,scope,span,c⟩=>⟨op,args,typ,var,scope,span,c⟩::A1.pres args
def A1.pres:List A1→List A1
 |[]=>[]
 |a::r=>A1.pre a++A1.pres r
end
mutual
def A1.dep:A1→Nat
 |⟨_,args,_,_,_,_,_⟩=>A1.deps args+1
def A1.deps:List A1→Nat
 |[]=>0
 |a::r=>max (A1.dep a) (A1.deps r)
end
theorem B6.pre_eq (x:B6):x.pre=x::B6.pres x.cL:=by cases x;simp[B6.pre]
theorem A1.pre_eq (x:A1):x.pre=x::A1.pres x.cL:=by cases x;simp[A1.pre]
theorem B6.dep_eq (x:B6):x.dep=B6.deps x.cL+1:=by cases x;simp[B6.dep]
theorem A1.dep_eq (x:A1):x.dep=A1.deps x.cL+1:=by cases x;simp[A1.dep]
theorem B6.bulk_eq (x:B6):x.bulk=B6.bulks x.cL+x.Value.Text.size+9:=by cases x;simp[B6.bulk]
theorem A1.bulk_eq (x:A1):x.bulk=A1.bulks x.cL+x.cN.bulk+6:=by cases x;simp[A1.bulk]
theorem Sj:∀(l:List B6),(∀a∈l,B6.bulk a≤B6.bulks l)∧l.length≤B6.bulks l
 |[]=>⟨fun a h=>by simp at h,by simp_all⟩
 |b::l=>by
  have h:=Sj l;have hb:=B6.bulk_eq b
  grind[B6.bulks]
theorem Si:∀(l:List A1),(∀a∈l,A1.bulk a≤A1.bulks l)∧l.length≤A1.bulks l
 |[]=>⟨fun a h=>by simp at h,by simp_all⟩
 |b::l=>by
  have h:=Si l;have hb:=A1.bulk_eq b
  grind[A1.bulks]
mutual
theorem Ac9:∀x:B6,x.pre.length≤x.bulk
 |⟨op,args,var,field,kind,val⟩=>by
  have:=Je args
  grind[B6.pre,B6.bulk]
theorem Je:∀l:List B6,(B6.pres l).length≤B6.bulks l
 |[]=>by simp[B6.pres]
 |a::l=>by
  have h1:=Ac9 a;have h2:=Je l
  grind[B6.pres,B6.bulks]
end
mutual
theorem Fy:∀x:A1,x.pre.length≤x.bulk
 |⟨op,args,typ,var,scope,span,c⟩=>by
  have:=Jd args
  grind[A1.pre,A1.bulk]
theorem Jd:∀l:List A1,(A1.pres l).length≤A1.bulks l
 |[]=>by simp[A1.pres]
 |a::l=>by
  have h1:=Fy a;have h2:=Jd l
  grind[A1.pres,A1.bulks]
end
mutual
theorem OJ:∀x:B6,x.dep≤x.bulk
 |⟨op,args,var,field,kind,val⟩=>by
  have:=Jq args
  grind[B6.dep,B6.bulk]
theorem Jq:∀l:List B6,B6.deps l≤B6.bulks l
 |[]=>by simp[B6.deps]
 |a::l=>by
  have h1:=OJ a;have h2:=Jq l
  grind[B6.deps,B6.bulks]
end
mutual
theorem Ag0:∀x:A1,x.dep≤x.bulk
 |⟨op,args,typ,var,scope,span,c⟩=>by
  have:=Jp args
  grind[A1.dep,A1.bulk]
theorem Jp:∀l:List A1,A1.deps l≤A1.bulks l
 |[]=>by simp[A1.deps]
 |a::l=>by
  have h1:=Ag0 a;have h2:=Jp l
  grind[A1.deps,A1.bulks]
end
def Cut (lim:Int)(cnt:Nat)(r:Int):Prop:=1≤r∧r≤cnt∧(r=cnt∨lim<r)
section
variable {α:Type}
theorem Mh {lim:Int} {f:α→Option Int} {cnt:α→Nat} {B:Nat} (hB:B≤1000000000000):∀(l:List α) (s:Int),0≤s→s+(l.map cnt).sum≤B→(∀a∈l,∃r,f a=some r∧Cut lim (cnt a) r)→
 ∃o,K7 (fun(s:Int) x=>if s≤lim then(f x).bind fun r=>some (.inl (Ar.ar .add .i64 s r))else some (.inr s)) l s=some o∧
  ∃v,v=(match o with| .inl s=>s| .inr s=>s)∧s≤v∧v≤s+(l.map cnt).sum∧(v=s+(l.map cnt).sum∨lim<v)
 |[],s,h0,_,_=>⟨.inl s,rfl,s,rfl,Ek _,by simp,.inl (by simp)⟩
 | a::l,s,h0,hb,hf=>by
  simp only[D5,Ir]at hb ⊢
  unfold K7
  by_cases hs:s≤lim
  ·obtain⟨r,h1,h2,h3,h4⟩:=hf a (by simp);simp only[A2 hs,h1,A4];have e:Ar.ar .add .i64 s r=s+r:=D3 (by omega) (by omega);rw[e];obtain⟨o,k1,v,k2,k3,k4,k5⟩:=Mh hB l (s+r) (by omega) (by omega) fun b hb=>hf b (by simp[hb])
   grind
  simp only[A0 hs]
  grind
end
theorem NY:∀l:List A1,(l.map fun a=>a.pre.length).sum=(A1.pres l).length
 |[]=>rfl
 |a::l=>by simp[A1.pres,NY l]
theorem NZ:∀l:List B6,(l.map fun a=>a.pre.length).sum=(B6.pres l).length
 |[]=>rfl
 |a::l=>by simp[B6.pres,NZ l]
theorem Xs {N:Nat} (hN:40000000≤N) (lim:Int):∀(n:Nat) (x:A1),x.bulk≤n→x.bulk≤16777216→∃r,AU N n x lim=some r∧Cut lim x.pre.length r:=by
 intro n
 induction n with
 |zero=>intro x h;have:=A1.bulk_eq x;omega
 | succ n ih=>
  intro x hx hb;have hxb:=A1.bulk_eq x;have hB:=Si x.cL;have hpb:=Jd x.cL;unfold AU;rw[L5 x.cL (by omega) (mk:=fun(s:Int) i=>(s,i)) (body:=fun(s:Int) a=>if s≤lim then(AU N n a lim).bind fun r=>some (.inl (Ar.ar .add .i64 s r))else some (.inr s)) (fin:=fun s=>s) (s:=1) (by omega) ?_ ?_]
  ·obtain⟨o,k1,v,k2,k3,k4,k5⟩:=Mh (lim:=lim) (f:=fun a=>AU N n a lim) (cnt:=fun a=>a.pre.length) (B:=40000000) (by omega) x.cL 1 (by omega) (by rw[NY];omega) fun a ha=>ih a (by have:=hB.1 a ha;omega) (by have:=hB.1 a ha;omega)
   rw[NY]at k4 k5
   have hpe:x.pre.length=(A1.pres x.cL).length+1:=by rw[A1.pre_eq];rfl
   simp only[k1,A4];refine⟨v,?_,by omega,by omega,?_⟩
   ·cases o<;>simp_all
   omega
  ·intro s i a ha hi;have e:Ar.ar .add .i64 (i:Int) 1=i+1:=D3 (by omega) (by omega);simp only[D4,BS,L3,B4,hi,G9,Es,F6,ha,A4,e,H8]
   grind
  intro s;simp[D4,L3,B4]
end Go.Ab
namespace Go.Ab
theorem Pt {x a:A1}(h:a∈x.cL):a.bulk<x.bulk:=by
 have h1:=(Si x.cL).1 a h;have h2:=A1.bulk_eq x;omega
theorem Bn {x a:B6}(h:a∈x.cL):a.bulk<x.bulk:=by
 have h1:=(Sj x.cL).1 a h;have h2:=B6.bulk_eq x;omega
theorem Pw (x:A1):x.cL.length≤x.bulk:=by
 have h1:=(Si x.cL).2;have h2:=A1.bulk_eq x;omega
theorem HR (x:B6):x.cL.length≤x.bulk:=by
 have h1:=(Sj x.cL).2;have h2:=B6.bulk_eq x;omega
theorem PK (x:A1):0<x.bulk:=by have:=A1.bulk_eq x;omega
theorem FL (x:B6):0<x.bulk:=by have:=B6.bulk_eq x;omega
theorem Zl {N:Nat} (hN:40000000≤N):∀(n:Nat) (x:A1),x.bulk≤n→x.bulk≤16777216→Av N n x=some (x.dep:Int):=by
 intro n
 induction n with
 |zero=>intro x h;have:=PK x;omega
 | succ n ih=>
  intro x hx hb;have hl:=Pw x;unfold Av;rw[L5 x.cL (by omega) (mk:=fun(s:Int) i=>(s,i)) (body:=fun(s:Int) a=>(Av N n a).bind fun r=>some (.inl (Ar.mx s r))) (fin:=fun s=>s) (s:=0) (by omega) ?_ ?_]
  ·obtain⟨s',k1,k2⟩:=Dr (R:=Int) (step:=fun(s:Int) a=>(Av N n a).bind fun r=>some (.inl (Ar.mx s r))) (fun r s=>(∀a∈r,a∈x.cL)∧0≤s∧max s (A1.deps r:Int)=(A1.deps x.cL:Int)) (fun a r s ⟨h1,h2,h3⟩=>by
    have hm:=Pt (h1 a (by simp));refine⟨_,by rw[ih a (by omega) (by omega)];rfl,fun b hb=>h1 b (by simp[hb]),?_,?_⟩
    ·rw[Kw];split<;>omega
    rw[←h3,Kw];grind[A1.deps]) (l:=x.cL) (s:=0) ⟨fun a h=>h,Ek _,by omega⟩
   simp only[k1,A4]
   have e:s'=(A1.deps x.cL:Int):=by have:=k2.2.2;grind[A1.deps]
   have hd:=Jp x.cL;have hd2:=A1.bulk_eq x;rw[e,D3 (by omega) (by omega),A1.dep_eq];rfl
  ·intro s i a ha hi;have e:Ar.ar .add .i64 (i:Int) 1=i+1:=D3 (by omega) (by omega);simp only[D4,B4,hi,G9,D1,F6,ha,A4,e];cases Av N n a<;>rfl
  intro s;simp[D4,B4]
theorem S3 {α:Type}{l m:List α}(h:l.length+m.length≤1073741824):Q2 l m=some (l++m):=by simp[Q2,h]
theorem SY {N:Nat} (hN:40000000≤N):∀(n:Nat) (x:A1),x.bulk≤n→x.bulk≤16777216→Au N n x=some x.pre:=by
 intro n
 induction n with
 |zero=>intro x h;have:=PK x;omega
 | succ n ih=>
  intro x hx hb;have hl:=Pw x;unfold Au;rw[L5 x.cL (by omega) (mk:=fun(s:List A1) i=>(s,i)) (body:=fun(s:List A1) a=>(Au N n a).bind fun r=>(Q2 s r).bind fun l=>some (.inl l)) (fin:=fun s=>s) (s:=[x]) (by omega) ?_ ?_]
  ·have hp:=Fy x;have hpe:=A1.pre_eq x
   obtain⟨s',k1,k2⟩:=Dr (R:=List A1) (step:=fun(s:List A1) a=>(Au N n a).bind fun r=>(Q2 s r).bind fun l=>some (.inl l)) (fun r s=>(∀a∈r,a∈x.cL)∧s++A1.pres r=x.pre) (fun a r s ⟨h1,h2⟩=>by
    have hm:=Pt (h1 a (by simp));have hlen:=J6 List.length h2
    simp only[A1.pres,J2]at hlen
    refine⟨_,by rw[ih a (by omega) (by omega)];simp only[A4];rw[S3 (by omega)];rfl,fun b hb=>h1 b (by simp[hb]),?_⟩
    rw[←h2];simp[A1.pres]) (l:=x.cL) (s:=[x]) ⟨fun a h=>h,by rw[hpe];rfl⟩
   simp only[k1,A4];have:=k2.2
   simp only[A1.pres,H6]at this
   rw[this]
  ·intro s i a ha hi;have e:Ar.ar .add .i64 (i:Int) 1=i+1:=D3 (by omega) (by omega);simp only[D4,B4,hi,G9,D1,F6,ha,A4,e]
   grind
  intro s;simp[D4,B4]
theorem AM0 {N:Nat} (hN:40000000≤N):∀(n:Nat) (x:A1),x.bulk≤n→x.bulk≤16777216→U3 N n x=some ((x.pre.length:Int),(x.dep:Int)):=by
 intro n
 induction n with
 |zero=>intro x h;have:=PK x;omega
 | succ n ih=>
  intro x hx hb;have hl:=Pw x;unfold U3;rw[L5 x.cL (by omega) (mk:=fun(s:Int×Int) i=>(s.1,s.2,i)) (body:=fun(s:Int×Int) a=>(U3 N n a).bind fun r=>some (.inl (Ar.ar .add .i64 s.1 r.1,Ar.mx s.2 r.2))) (fin:=fun s=>s) (s:=(1,0)) (by omega) ?_ ?_]
  ·have hp:=Jd x.cL;have hd:=Jp x.cL;have hbe:=A1.bulk_eq x
   obtain⟨s',k1,k2⟩:=Dr (R:=Int×Int) (step:=fun(s:Int×Int) a=>(U3 N n a).bind fun r=>some (.inl (Ar.ar .add .i64 s.1 r.1,Ar.mx s.2 r.2))) (fun r s=>(∀a∈r,a∈x.cL)∧0≤s.2∧0≤s.1∧s.1+(A1.pres r).length=(A1.pres x.cL).length+1∧max s.2 (A1.deps r:Int)=(A1.deps x.cL:Int)) (fun a r s ⟨h1,h2,h3,h4,h5⟩=>by
    have hm:=Pt (h1 a (by simp))
    simp only[A1.pres,J2,A1.deps]at h4 h5
    refine⟨_,by rw[ih a (by omega) (by omega)];rfl,fun b hb=>h1 b (by simp[hb]),?_,?_,?_,?_⟩
    ·simp only[Kw];split<;>omega
    ·rw[D3 (by omega) (by omega)];omega
    ·rw[D3 (by omega) (by omega)];omega
    rw[←h5];simp only[Kw];split<;>omega) (l:=x.cL) (s:=(1,0)) ⟨fun a h=>h,by simp,by simp,by omega,by omega⟩
   simp only[k1,A4];obtain⟨_,_,_,e1,e2⟩:=k2
   simp only[A1.pres,W9,A1.deps]at e1 e2
   have e3:s'.1=(x.pre.length:Int):=by rw[A1.pre_eq];simp_all
   have e4:s'.2=(A1.deps x.cL:Int):=by omega
   rw[e3,e4,D3 (by omega) (by omega),A1.dep_eq];rfl
  ·intro s i a ha hi;have e:Ar.ar .add .i64 (i:Int) 1=i+1:=D3 (by omega) (by omega);simp only[D4,B4,hi,G9,D1,F6,ha,A4,e];cases U3 N n a<;>rfl
  intro s;simp[D4,B4]
theorem AL2 {N:Nat} (hN:40000000≤N):∀(n:Nat) (x:A1),x.bulk≤n→x.bulk≤16777216→Aq N n x=some x.pre:=by
 intro n
 induction n with
 |zero=>intro x h;have:=PK x;omega
 | succ n ih=>
  intro x hx hb;have hl:=Pw x;unfold Aq;rw[Ad7 x.cL (mk:=fun(_:Unit) i=>i) (body:=fun(_:Unit) a=>(Aq N n a).bind fun l=>some (l,.inl ())) (fin:=fun _=>()) (s:=()) (by omega) ?_ ?_]
  ·obtain⟨w,s',k1,k2⟩:=ST (R:=Unit) (step:=fun(_:Unit) a=>(Aq N n a).bind fun l=>some (l,.inl ())) (fun r w s=>(∀a∈r,a∈x.cL)∧w++A1.pres r=A1.pres x.cL) (fun a r w s ⟨h1,h2⟩=>by
    have hm:=Pt (h1 a (by simp));refine⟨a.pre,(),by rw[ih a (by omega) (by omega)];rfl,fun b hb=>h1 b (by simp[hb]),?_⟩
    rw[←h2];simp[A1.pres]) (l:=x.cL) (w:=[]) (s:=()) ⟨fun a h=>h,by simp⟩
   have e:w=A1.pres x.cL:=by have:=k2.2;simp_all[A1.pres]
   rw[k1,e,A1.pre_eq];simp[V0]
  ·intro s i a ha hi;have e:Ar.ar .add .i64 (i:Int) 1=i+1:=D3 (by omega) (by omega);simp only[D4,B4,hi,G9,D1,F6,ha,A4,e];cases Aq N n a<;>simp[V0]
  intro s;simp[D4,B4]
theorem Zp {N:Nat} (hN:40000000≤N) (lim:Int):∀(n:Nat) (x:B6),x.bulk≤n→x.bulk≤16777216→∃r,AW N n x lim=some r∧Cut lim x.pre.length r:=by
 intro n
 induction n with
 |zero=>intro x h;have:=FL x;omega
 | succ n ih=>
  intro x hx hb;have hxb:=B6.bulk_eq x;have hB:=Sj x.cL;have hpb:=Je x.cL;unfold AW;rw[L5 x.cL (by omega) (mk:=fun(s:Int) i=>(s,i)) (body:=fun(s:Int) a=>if s≤lim then(AW N n a lim).bind fun r=>some (.inl (Ar.ar .add .i64 s r))else some (.inr s)) (fin:=fun s=>s) (s:=1) (by omega) ?_ ?_]
  ·obtain⟨o,k1,v,k2,k3,k4,k5⟩:=Mh (lim:=lim) (f:=fun a=>AW N n a lim) (cnt:=fun a=>a.pre.length) (B:=40000000) (by omega) x.cL 1 (by omega) (by rw[NZ];omega) fun a ha=>ih a (by have:=hB.1 a ha;omega) (by have:=hB.1 a ha;omega)
   rw[NZ]at k4 k5
   have hpe:x.pre.length=(B6.pres x.cL).length+1:=by rw[B6.pre_eq];rfl
   simp only[k1,A4];refine⟨v,?_,by omega,by omega,?_⟩
   ·cases o<;>simp_all
   omega
  ·intro s i a ha hi;have e:Ar.ar .add .i64 (i:Int) 1=i+1:=D3 (by omega) (by omega);simp only[D4,BS,L3,B4,hi,G9,Es,F6,ha,A4,e,H8]
   grind
  intro s;simp[D4,L3,B4]
theorem TK {N:Nat} (hN:40000000≤N):∀(n:Nat) (x:B6),x.bulk≤n→x.bulk≤16777216→Aw N n x=some (x.dep:Int):=by
 intro n
 induction n with
 |zero=>intro x h;have:=FL x;omega
 | succ n ih=>
  intro x hx hb;have hl:=HR x;unfold Aw;rw[L5 x.cL (by omega) (mk:=fun(s:Int) i=>(s,i)) (body:=fun(s:Int) a=>(Aw N n a).bind fun r=>some (.inl (Ar.mx s r))) (fin:=fun s=>s) (s:=0) (by omega) ?_ ?_]
  ·obtain⟨s',k1,k2⟩:=Dr (R:=Int) (step:=fun(s:Int) a=>(Aw N n a).bind fun r=>some (.inl (Ar.mx s r))) (fun r s=>(∀a∈r,a∈x.cL)∧0≤s∧max s (B6.deps r:Int)=(B6.deps x.cL:Int)) (fun a r s ⟨h1,h2,h3⟩=>by
    have hm:=Bn (h1 a (by simp));refine⟨_,by rw[ih a (by omega) (by omega)];rfl,fun b hb=>h1 b (by simp[hb]),?_,?_⟩
    ·rw[Kw];split<;>omega
    rw[←h3,Kw];grind[B6.deps]) (l:=x.cL) (s:=0) ⟨fun a h=>h,Ek _,by omega⟩
   simp only[k1,A4]
   have e:s'=(B6.deps x.cL:Int):=by have:=k2.2.2;grind[B6.deps]
   have hd:=Jq x.cL;have hd2:=B6.bulk_eq x;rw[e,D3 (by omega) (by omega),B6.dep_eq];rfl
  ·intro s i a ha hi;have e:Ar.ar .add .i64 (i:Int) 1=i+1:=D3 (by omega) (by omega);simp only[D4,B4,hi,G9,D1,F6,ha,A4,e];cases Aw N n a<;>rfl
  intro s;simp[D4,B4]
theorem Aq1 {N:Nat} (hN:40000000≤N):∀(n:Nat) (x:B6),x.bulk≤n→x.bulk≤16777216→Dt N n x=some ((x.pre.length:Int),(x.dep:Int)):=by
 intro n
 induction n with
 |zero=>intro x h;have:=FL x;omega
 | succ n ih=>
  intro x hx hb;have hl:=HR x;unfold Dt;rw[L5 x.cL (by omega) (mk:=fun(s:Int×Int) i=>(s.1,s.2,i)) (body:=fun(s:Int×Int) a=>(Dt N n a).bind fun r=>some (.inl (Ar.ar .add .i64 s.1 r.1,Ar.mx s.2 r.2))) (fin:=fun s=>s) (s:=(1,0)) (by omega) ?_ ?_]
  ·have hp:=Je x.cL;have hd:=Jq x.cL;have hbe:=B6.bulk_eq x
   obtain⟨s',k1,k2⟩:=Dr (R:=Int×Int) (step:=fun(s:Int×Int) a=>(Dt N n a).bind fun r=>some (.inl (Ar.ar .add .i64 s.1 r.1,Ar.mx s.2 r.2))) (fun r s=>(∀a∈r,a∈x.cL)∧0≤s.2∧0≤s.1∧s.1+(B6.pres r).length=(B6.pres x.cL).length+1∧max s.2 (B6.deps r:Int)=(B6.deps x.cL:Int)) (fun a r s ⟨h1,h2,h3,h4,h5⟩=>by
    have hm:=Bn (h1 a (by simp))
    simp only[B6.pres,J2,B6.deps]at h4 h5
    refine⟨_,by rw[ih a (by omega) (by omega)];rfl,fun b hb=>h1 b (by simp[hb]),?_,?_,?_,?_⟩
    ·simp only[Kw];split<;>omega
    ·rw[D3 (by omega) (by omega)];omega
    ·rw[D3 (by omega) (by omega)];omega
    rw[←h5];simp only[Kw];split<;>omega) (l:=x.cL) (s:=(1,0)) ⟨fun a h=>h,by simp,by simp,by omega,by omega⟩
   simp only[k1,A4];obtain⟨_,_,_,e1,e2⟩:=k2
   simp only[B6.pres,W9,B6.deps]at e1 e2
   have e3:s'.1=(x.pre.length:Int):=by rw[B6.pre_eq];simp_all
   have e4:s'.2=(B6.deps x.cL:Int):=by omega
   rw[e3,e4,D3 (by omega) (by omega),B6.dep_eq];rfl
  ·intro s i a ha hi;have e:Ar.ar .add .i64 (i:Int) 1=i+1:=D3 (by omega) (by omega);simp only[D4,B4,hi,G9,D1,F6,ha,A4,e];cases Dt N n a<;>rfl
  intro s;simp[D4,B4]
theorem Uc {f:B6→Int}:∀l:List B6,Az (fun a=>Az f a.pre) l=Az f (B6.pres l)
 |[]=>rfl
 |a::l=>by rw[B6.pres,Rz,Az,Uc l]
theorem Xv {a y:B6} (hy:y∈a.pre):∀l:List B6,a∈l→y∈B6.pres l
 |[],h=>by simp at h
 |b::l,h=>by
  rcases List.mem_cons.1 h with rfl|h
  ·simp_all[B6.pres]
  simp[B6.pres,Xv hy l h]
theorem Ay4 {N:Nat} (hN:40000000≤N) {F:B6→Option Int} {f:B6→Int}:∀(n:Nat) (x:B6),x.bulk≤n→x.bulk≤16777216→(∀y∈x.pre,F y=some (f y))→Ee N n x F=some (Az f x.pre):=by
 intro n
 induction n with
 |zero=>intro x h;have:=FL x;omega
 | succ n ih=>
  intro x hx hb hF;have hl:=HR x;have hpe:=B6.pre_eq x;unfold Ee;rw[hF x (by rw[hpe];simp)];simp only[A4,N0];rw[hpe,Az]
  by_cases hz:f x=0
  ·simp only[hz,G9,AD,J7,G4,D1];rw[L5 x.cL (by omega) (mk:=fun(_:Unit) i=>i) (body:=Cn fun a=>Ee N n a F) (fin:=fun _=>.inl ()) (s:=()) (by omega) ?_ ?_]
   ·rw[Bm (f:=fun a=>Az f a.pre) fun a ha=>ih a (by have:=Bn ha;omega) (by have:=Bn ha;omega) fun y hy=>hF y (by rw[hpe];exact CI _ (Xv hy _ ha)),Uc]
    grind
   ·intro s i a ha hi;have e:Ar.ar .add .i64 (i:Int) 1=i+1:=D3 (by omega) (by omega);simp only[D4,B4,hi,G9,D1,F6,ha,A4,e,Cn,N0]
    grind
   intro s;simp[D4,B4]
  simp[hz]
theorem As9 {N:Nat} (hN:40000000≤N) {f:B6→Int} (hF:∀y,HJ N y=some (f y)):∀(n:Nat) (x:B6),x.bulk≤n→x.bulk≤16777216→CY N n x=some (Az f x.pre):=by
 intro n
 induction n with
 |zero=>intro x h;have:=FL x;omega
 | succ n ih=>
  intro x hx hb;have hl:=HR x;have hpe:=B6.pre_eq x;unfold CY;rw[hF x];simp only[A4,N0];rw[hpe,Az]
  by_cases hz:f x=0
  ·simp only[hz,G9,AD,J7,G4,D1];rw[L5 x.cL (by omega) (mk:=fun(_:Unit) i=>i) (body:=Cn fun a=>CY N n a) (fin:=fun _=>.inl ()) (s:=()) (by omega) ?_ ?_]
   ·rw[Bm (f:=fun a=>Az f a.pre) fun a ha=>ih a (by have:=Bn ha;omega) (by have:=Bn ha;omega),Uc]
    grind
   ·intro s i a ha hi;have e:Ar.ar .add .i64 (i:Int) 1=i+1:=D3 (by omega) (by omega);simp only[D4,B4,hi,G9,D1,F6,ha,A4,e,Cn,N0]
    grind
   intro s;simp[D4,B4]
  simp[hz]
theorem Sr {a b:ByteArray}:a.toList=b.toList↔a=b:=by
 rw[ByteArray.toList_eq,ByteArray.toList_eq]
 constructor
 ·intro h;obtain⟨⟨a⟩⟩:=a
  simp_all
 simp_all
theorem XO (a b:ByteArray):Ar.scmp .neq a b= !decide (a=b):=by
 show(!(a.toList==b.toList))=_
 by_cases h:a=b
 ·grind
 have:a.toList≠b.toList:=fun e=>h (Sr.1 e)
 grind
theorem GA (a b:ByteArray):Ar.scmp .eql a b=decide (a=b):=by
 show(a.toList==b.toList)=_
 by_cases h:a=b
 ·grind
 have:a.toList≠b.toList:=fun e=>h (Sr.1 e)
 grind
theorem Ba6 (N:Nat)(op:Int):KC N op=some (if op<0∨12<op then(0,false)else if op<5 then(0,true)else if op=12 then(1,true)else(2,true)):=by
 unfold KC;simp only[D4,Br,D8,P5,AE,H8]
 grind
theorem AS8 (N:Nat) (op:Int):Jb N op=some (if op<0∨12<op then -1 else if op<5 then 0 else if op=12 then 1 else 2):=by
 have h:op<0∨op=0∨op=1∨op=2∨op=3∨op=4∨op=5∨op=6∨op=7∨op=8∨op=9∨op=10∨op=11∨op=12∨12<op:=by omega
 unfold Jb;simp only[D8]
 rcases h with h|h|h|h|h|h|h|h|h|h|h|h|h|h|h
 all_goals first
  |(subst h;rfl)
  | (have h0:op≠0:=by omega
     have h1:op≠1:=by omega
     have h2:op≠2:=by omega
     have h3:op≠3:=by omega
     have h4:op≠4:=by omega
     have h5:op≠5:=by omega
     have h6:op≠6:=by omega
     have h7:op≠7:=by omega
     have h8:op≠8:=by omega
     have h9:op≠9:=by omega
     have ha:op≠10:=by omega
     have hb:op≠11:=by omega
     have hc:op≠12:=by omega
     simp[h0,h1,h2,h3,h4,h5,h6,h7,h8,h9,ha,hb,hc,h])
theorem Bc7 (N:Nat)(op:Int):Nj N op=some (decide (op=1∨op=2∨op=3∨op=4),decide (op=1∨op=4)):=by
 unfold Nj;simp only[D8,H8]
 grind
theorem AX7 (N:Nat)(op:Int):Kl N op=some (decide (op=1∨op=2∨op=3∨op=4),decide (op=1∨op=4)):=by
 unfold Kl;simp only[D8,P5]
 by_cases h1:op=1
 ·simp[h1]
 by_cases h4:op=4
 ·simp[h4]
 simp_all
def N8 (v:B1):Int:=
 if v.Kind=0∨v.Kind=1 then
  if v.Text≠⟨#[]⟩then 3
  else if v.Kind=0∧(v.Num< -1099511627776∨1099511627776<v.Num)∨v.Kind=1∧v.Num≠0∧v.Num≠1 then 2 else 0
 else if v.Kind=2 then(if v.Num≠0 then 3 else if 64<(v.Text.size:Int)then 13 else 0)else 1
theorem OY (N:Nat) (v:B1):AS N v=some (N8 v):=by
 obtain⟨k,n,t⟩:=v;unfold AS Kf N8;simp only[D8,N0,D4,Br,L3,P5,XO,XC]
 by_cases h0:k=0
 ·subst h0
  by_cases ht:t=⟨#[]⟩
  ·subst ht
   by_cases h1:n< -1099511627776∨1099511627776<n
   ·simp[h1]
   simp[h1];decide
  simp[ht]
 by_cases h1:k=1
 ·subst h1
  by_cases ht:t=⟨#[]⟩
  ·subst ht
   by_cases h2:n=0
   ·simp[h2];decide
   by_cases h3:n=1
   ·simp[h3];decide
   simp_all
  simp[ht]
 grind
theorem MN (N:Nat)(v:B1):BH N v=some (N8 v):=by
 obtain⟨k,n,t⟩:=v;unfold BH N8;simp only[D8,N0,D4,Br,L3,P5,XO,XC]
 grind
theorem Az2 (N:Nat)(k:Int)(v:B1):KB N k v=some (decide (v.Kind=0∨k=4∨k=5)):=by
 unfold KB;simp only[D8,P5]
 by_cases h1:v.Kind=0<;>by_cases h2:k=4<;>by_cases h3:k=5<;>simp[h1,h2,h3]
theorem Ap8 (N:Nat)(k:Int)(v:B1)(h:k≠0):AX N k v=some (decide (v.Kind=0∨k=4∨k=5)):=by
 unfold AX;simp only[D8,P5]
 by_cases h1:v.Kind=0<;>by_cases h2:k=4<;>by_cases h3:k=5<;>simp[h,h1,h2,h3]
def Ay5 (op:Int):Bool:=decide (op=1∨op=2∨op=3∨op=4)
def Ay6 (op:Int):Bool:=decide (op=1∨op=4)
noncomputable def Yl (x:B6):Bool:=Ar.or (Ar.an (Ay5 x.Op) (Ar.or (Ar.cmp .lss x.Var 0) (Ar.cmp .geq x.Var 16))) (Ar.an (Ay6 x.Op) (Ar.or (Ar.cmp .lss x.Field 0) (Ar.cmp .geq x.Field 8)))
noncomputable def Tq (x:B6):Bool:=Ar.an (Ar.cmp .eql x.Op 4) (Ar.or (Ar.cmp .lss x.Kind 1) (Ar.cmp .gtr x.Kind 5))
noncomputable def UD (v:B1):Bool:=Ar.an (Ar.cmp .eql v.Kind 0) (Ar.an (Ar.cmp .eql v.Num 0) (Ar.an (Ar.scmp .eql v.Text (⟨#[]⟩)) true))
noncomputable def NE (x:B6):Bool:=Ar.or (Ar.nt (decide (x.Value.Kind=0∨x.Kind=4∨x.Kind=5))) (Ar.an (Ar.cmp .eql x.Kind 1) (Ar.nt (UD x.Value)))
noncomputable def Px (x:B6):Bool:=Ar.or (Ar.or (Ar.or (Ar.an (Ar.nt (Ay5 x.Op)) (Ar.cmp .neq x.Var 0)) (Ar.an (Ar.nt (Ay6 x.Op)) (Ar.cmp .neq x.Field 0))) (Ar.an (Ar.nt (Ar.cmp .eql x.Op 4)) (Ar.cmp .neq x.Kind 0))) (Ar.an (Ar.nt (Ar.or (Ar.cmp .eql x.Op 4) (Ar.cmp .eql x.Op 0))) (Ar.nt (UD x.Value)))
noncomputable def Bq (x:B6):Int:=
 if x.Op<0∨12<x.Op then 1
 else if(x.cL.length:Int)≠(if x.Op<5 then 0 else if x.Op=12 then 1 else 2)then 15
 else if Yl x=true then 2
 else if Tq x=true then 1
 else if(x.Op=4∨x.Op=0)∧N8 x.Value≠0 then N8 x.Value
 else if x.Op=4∧NE x=true then 9
 else if Px x=true then 3 else 0
theorem At0 (N:Nat) (x:B6):HJ N x=some (Bq x):=by
 unfold HJ Bq;rw[AS8,AX7];simp only[A4]
 by_cases h0:x.Op<0∨12<x.Op
 ·rw[A2 h0,A2 h0];rfl
 rw[A0 h0,A0 h0]
 have ha:¬(Ar.cmp .lss (if x.Op<5 then 0 else if x.Op=12 then 1 else 2) 0=true):=by
  rw[D4];grind
 rw[A0 ha]
 by_cases h1:(x.cL.length:Int)≠(if x.Op<5 then 0 else if x.Op=12 then 1 else 2)
 ·rw[A2 h1,A2 (by simp[N0,B4,h1])]
 rw[A0 h1,A0 (by simp only[N0,B4];grind)]
 change (if Yl x=true then some 2 else _)=_
 by_cases h2:Yl x=true
 ·rw[A2 h2,A2 h2]
 rw[A0 h2,A0 h2]
 change (if Tq x=true then some 1 else _)=_
 by_cases h3:Tq x=true
 ·rw[A2 h3,A2 h3]
 rw[A0 h3,A0 h3];rw[MN]
 have e4:(Ar.or (Ar.cmp .eql x.Op 4) (Ar.cmp .eql x.Op 0)=true)↔(x.Op=4∨x.Op=0):=by simp[D8,P5]
 have e6:(Ar.cmp .eql x.Op 4=true)↔x.Op=4:=by simp[D8]
 by_cases h4:x.Op=4∨x.Op=0
 ·rw [A2 (e4.2 h4)];simp only[A4]
  by_cases h5:N8 x.Value=0
  ·have n5:¬(Ar.cmp .neq (N8 x.Value) 0=true):=by simp[N0,h5]
   have n5':¬((x.Op=4∨x.Op=0)∧N8 x.Value≠0):=fun h=>h.2 h5;rw[A0 n5,A0 n5'];simp only[A4]
   by_cases h6:x.Op=4
   ·rw[A2 (e6.2 h6)]
    have hk:x.Kind≠0:=by
     intro e;apply h3;simp[Tq,L3,P5,D8,D4,h6,e]
    rw[Ap8 N _ _ hk];simp only[A4]
    change (if NE x=true then some 9 else if Px x=true then some 3 else some 0)=_
    grind
   rw[A0 (show¬(Ar.cmp .eql x.Op 4=true)from fun h=>h6 (e6.1 h)),A0 (show¬(x.Op=4∧NE x=true)from fun h=>h6 h.1)]
   change (if Px x=true then some 3 else some 0)=_
   grind
  have n5:Ar.cmp .neq (N8 x.Value) 0=true:=by simp[N0,h5]
  rw[A2 n5,A2 (show(x.Op=4∨x.Op=0)∧N8 x.Value≠0 from⟨h4,h5⟩)];rfl
 rw[A0 (show¬(Ar.or (Ar.cmp .eql x.Op 4) (Ar.cmp .eql x.Op 0)=true)from fun h=>h4 (e4.1 h)),A0 (show¬((x.Op=4∨x.Op=0)∧N8 x.Value≠0)from fun h=>h4 h.1)];simp only[A4];have h6:¬x.Op=4:=fun e=>h4 (.inl e);rw[A0 (show¬(Ar.cmp .eql x.Op 4=true)from fun h=>h6 (e6.1 h)),A0 (show¬(x.Op=4∧NE x=true)from fun h=>h6 h.1)]
 change (if Px x=true then some 3 else some 0)=_
 grind
theorem AC8 (N:Nat) (x:B6):JW N x=some (Bq x):=by
 unfold JW Bq;rw[Ba6,Bc7];simp only[A4]
 by_cases h0:x.Op<0∨12<x.Op
 ·rw[A2 h0,A2 h0];rfl
 rw[A0 h0,A0 h0]
 have ha:(if x.Op<5 then((0:Int),true)else if x.Op=12 then(1,true)else(2,true))=((if x.Op<5 then 0 else if x.Op=12 then 1 else 2),true):=by
  grind
 rw[ha];rw[A0 (by simp[R8])]
 by_cases h1:(x.cL.length:Int)≠(if x.Op<5 then 0 else if x.Op=12 then 1 else 2)
 ·rw[A2 h1,A2 (by simp[N0,B4,h1])]
 rw[A0 h1,A0 (by simp only[N0,B4];grind)]
 change (if Yl x=true then some 2 else _)=_
 by_cases h2:Yl x=true
 ·rw[A2 h2,A2 h2]
 rw[A0 h2,A0 h2]
 change (if Tq x=true then some 1 else _)=_
 by_cases h3:Tq x=true
 ·rw[A2 h3,A2 h3]
 rw[A0 h3,A0 h3];unfold HX;rw[OY]
 have e4:(Ar.or (Ar.cmp .eql x.Op 4) (Ar.cmp .eql x.Op 0)=true)↔(x.Op=4∨x.Op=0):=by simp[D8,P5]
 have e6:(Ar.cmp .eql x.Op 4=true)↔x.Op=4:=by simp[D8]
 by_cases h4:x.Op=4∨x.Op=0
 ·rw[A2 (e4.2 h4)];simp only[A4]
  by_cases h5:N8 x.Value=0
  ·have n5:¬(Ar.cmp .neq (N8 x.Value) 0=true):=by simp[N0,h5]
   have n5':¬((x.Op=4∨x.Op=0)∧N8 x.Value≠0):=fun h=>h.2 h5;rw[A0 n5,A0 n5']
   by_cases h6:x.Op=4
   ·rw[A2 (e6.2 h6),Az2];simp only[A4]
    change (((if NE x=true then some 9 else some 0):Option Int).bind _).bind _=_
    by_cases h7:NE x=true
    ·rw[A2 h7,A2 (show x.Op=4∧NE x=true from⟨h6,h7⟩)];rfl
    rw[A0 h7,A0 (show¬(x.Op=4∧NE x=true)from fun h=>h7 h.2)]
    change (if Px x=true then some 3 else some 0)=_
    grind
   rw[A0 (show¬(Ar.cmp .eql x.Op 4=true)from fun h=>h6 (e6.1 h)),A0 (show¬(x.Op=4∧NE x=true)from fun h=>h6 h.1)]
   change (if Px x=true then some 3 else some 0)=_
   grind
  have n5:Ar.cmp .neq (N8 x.Value) 0=true:=by simp[N0,h5]
  rw[A2 n5,A2 (show(x.Op=4∨x.Op=0)∧N8 x.Value≠0 from⟨h4,h5⟩)]
  simp_all
 rw[A0 (show¬(Ar.or (Ar.cmp .eql x.Op 4) (Ar.cmp .eql x.Op 0)=true)from fun h=>h4 (e4.1 h)),A0 (show¬((x.Op=4∨x.Op=0)∧N8 x.Value≠0)from fun h=>h4 h.1)];have h6:¬x.Op=4:=fun e=>h4 (.inl e);rw[A0 (show¬(x.Op=4∧NE x=true)from fun h=>h6 h.1)]
 change (if Px x=true then some 3 else some 0)=_
 grind
theorem Y4 {a b:Int}(h:b<a):Ar.cmp .gtr a b=true:=by rw[Br];simp_all
theorem T9 {a b:Int}(h:¬b<a):¬(Ar.cmp .gtr a b=true):=by rw[Br];grind
theorem K9 {a b:Int}(h:a≠b):Ar.cmp .neq a b=true:=by rw[N0];grind
theorem K8 {a b:Int}(h:a=b):¬(Ar.cmp .neq a b=true):=by rw[N0];grind
noncomputable def R0 (x:B6):Int:=if 64<x.pre.length then 5 else if 12<x.dep then 12 else Az Bq x.pre
theorem Vz {N:Nat}(hN:40000000≤N){x:B6}(hb:x.bulk≤16777216):HZ N x=some (R0 x):=by
 unfold HZ R0;rw[Aq1 hN N x (by omega) hb];simp only[A4]
 by_cases h1:64<x.pre.length
 ·rw[A2 h1,A2 (Y4 (by omega))]
 rw[A0 h1,A0 (T9 (by omega))]
 by_cases h2:12<x.dep
 ·rw[A2 h2,A2 (Y4 (by omega))]
 rw[A0 h2,A0 (T9 (by omega)),Ay4 hN N x (by omega) hb fun y _=>AC8 N y];rfl
theorem TR {N:Nat}(hN:40000000≤N){x:B6}(hb:x.bulk≤16777216):ED N x=some (R0 x):=by
 unfold ED R0;obtain⟨r,h0,c1,c2,c3⟩:=Zp hN 64 N x (by omega) hb;rw[h0];simp only[A4]
 by_cases h1:64<x.pre.length
 ·rw[A2 h1,A2 (Y4 (by omega))]
 rw[A0 h1,A0 (T9 (by omega)),TK hN N x (by omega) hb];simp only[A4]
 by_cases h2:12<x.dep
 ·rw[A2 h2,A2 (Y4 (by omega))]
 rw[A0 h2,A0 (T9 (by omega)),As9 hN (fun y=>At0 N y) N x (by omega) hb];rfl
noncomputable def Ty (a b:B6):Bool:=Ar.or (Ar.or (Ar.or (Ar.or (Ar.or (Ar.cmp .neq a.Op b.Op) (Ar.cmp .neq a.Var b.Var)) (Ar.cmp .neq a.Field b.Field)) (Ar.cmp .neq a.Kind b.Kind)) (Ar.nt (Ar.an (Ar.cmp .eql a.Value.Kind b.Value.Kind) (Ar.an (Ar.cmp .eql a.Value.Num b.Value.Num) (Ar.an (Ar.scmp .eql a.Value.Text b.Value.Text) true))))) (Ar.cmp .neq (Ar.len a.cL) (Ar.len b.cL))
theorem UP (N:Nat):∀(n:Nat) (a b:B6),Hx N n a b=X5 N n a b
 |0,_,_=>rfl
 |n+1,a,b=>by
  unfold Hx X5;simp only[UP N n]
theorem UO {N:Nat} (hN:40000000≤N) (x:B6):∃b,X5 N N x (⟨0,[],0,0,0,(⟨0,0,⟨#[]⟩⟩:B1)⟩:B6)=some b:=by
 obtain⟨M,rfl⟩:∃M,N=M+1:=⟨N-1,by omega⟩;rw[X5];generalize hz:(⟨0,[],0,0,0,(⟨0,0,⟨#[]⟩⟩:B1)⟩:B6)=z
 change ∃b,(if Ty x z=true then some false else _)=some b
 by_cases h:Ty x z=true
 ·rw[A2 h];simp_all
 rw[A0 h]
 have hlen:x.cL.length=0:=by
  subst hz
  simp only[Ty,P5,N0,B4,W9]at h
  simp_all
 have:x.cL=[]:=List.length_eq_zero_iff.1 hlen;refine⟨true,?_⟩;rw[show M+1=(M+1-1)+1 by omega];simp only[loopN,this,D4,B4];rfl
def GH (u:Bool)(n m:Int):Bool:=u&&(decide (n<0)||decide (m<n))
def V7 (u:Bool)(n:Int):Bool:=u||decide (n=0)
theorem MM (N:Nat)(u:Bool)(n m:Int):AJ N u n m=some (!GH u n m):=by
 unfold AJ;simp only[P5,L3,R8,R4,BS,GH];cases u
 ·rfl
 by_cases h1:n<0<;>by_cases h2:m<n<;>simp[h1,h2]<;>omega
theorem Ap7 (N:Nat)(u:Bool)(n:Int):T8 N u n=some (V7 u n):=rfl
theorem Ba5 (N:Nat)(u:Bool)(n m:Int):Ca N u n m=some (GH u n m):=rfl
noncomputable def Ol (s:Q3)(x:A1)(sz:Bool):Int:=
 if GH s.cO x.Typ 15=true then 2
 else if GH s.cO x.Var 15=true then 2
 else if GH s.scope x.cP 63=true then 2
 else if GH s.span x.Span 1099511627776=true then 2
 else if s.cond=true∧R0 x.cN≠0 then R0 x.cN
 else if(s.cond||sz)=true∧V7 s.cO x.Typ=true∧V7 s.cO x.Var=true∧V7 s.scope x.cP=true∧V7 s.span x.Span=true then 0 else 3
structure PU (N:Nat) (x:A1) (s:Q3) (ng:Bool):Prop where
 tab:C3 M7 x.Op=some s
 var:Bx N x=some s.cO
 neg:Cb N x=some ng
 tim:AV N x=some s.span
 con:DK N x=some s.cond
 sco:s.scope=(ng||s.span)
 ari:IZ N x=some (decide (s.cS≤x.cL.length∧(x.cL.length:Int)≤s.most))
theorem Ba0 (n k:Int):decide (n=k)=(decide (k≤n)&&decide (n≤k)):=by
 rw[←Bool.decide_and]
 grind
theorem SG (N:Nat) (x:A1) (h0:0≤x.Op) (h1:x.Op≤10) (hl:x.cL.length≤64):∃s ng,PU N x s ng:=by
 obtain⟨op,args,typ,var,scope,span,c⟩:=x
 simp only at h0 h1 hl
 have h:op=0∨op=1∨op=2∨op=3∨op=4∨op=5∨op=6∨op=7∨op=8∨op=9∨op=10:=by omega
 rcases h with h|h|h|h|h|h|h|h|h|h|h
 all_goals
  subst h;refine⟨_,_,rfl,rfl,rfl,rfl,rfl,rfl,?_⟩;unfold IZ;simp only[D8,R4,B4];simp
  try first|omega|exact Ba0 _ _
theorem Bd5 {x:A1}(h0:0≤x.Op)(h1:x.Op≤10):¬(Ar.or (Ar.cmp .lss x.Op 0) (Ar.cmp .geq x.Op 11)=true):=by
 simp only[P5,D4,R4,AE,H8];omega
theorem AY4 {x:A1}(h0:0≤x.Op)(h1:x.Op≤10):¬(Ar.or (Ar.cmp .lss x.Op 0) (Ar.cmp .gtr x.Op 10)=true):=by
 simp only[P5,D4,Br,AE,H8];omega
theorem AV5 {x:A1}(h:¬(0≤x.Op∧x.Op≤10)):Ar.or (Ar.cmp .lss x.Op 0) (Ar.cmp .geq x.Op 11)=true∧Ar.or (Ar.cmp .lss x.Op 0) (Ar.cmp .gtr x.Op 10)=true:=by
 simp only[P5,D4,R4,Br,AE,H8];omega
theorem Av9 {N:Nat} (hN:40000000≤N) {x:A1} (hb:x.cN.bulk≤16777216) (h0:0≤x.Op) (h1:x.Op≤10) {s:Q3} {ng:Bool} (hs:PU N x s ng) {sz:Bool}
 (hz:X5 N N x.cN (⟨0,[],0,0,0,(⟨0,0,⟨#[]⟩⟩:B1)⟩:B6)=some sz):
 Ax N x=some (if s.cS≤x.cL.length∧(x.cL.length:Int)≤s.most then Ol s x sz else 15):=by
 unfold Ax;rw[A0 (Bd5 h0 h1),hs.tab];simp only[A4]
 by_cases ha:s.cS≤x.cL.length∧(x.cL.length:Int)≤s.most
 ·rw [A2 ha,A0 (by simp only[P5,D4,Br,B4,AE,H8];omega)];rw[MM,MM,MM,MM,Vz hN hb,UP,hz];simp only[Ap7,A4];unfold Ol;generalize GH s.cO x.Typ 15=b1;generalize GH s.cO x.Var 15=b2;generalize GH s.scope x.cP 63=b3;generalize GH s.span x.Span 1099511627776=b4;generalize V7 s.cO x.Typ=c1;generalize V7 s.cO x.Var=c2;generalize V7 s.scope x.cP=c3;generalize V7 s.span x.Span=c4;generalize R0 x.cN=ec
  cases b1 with
  |true=>rfl
  | false =>
   cases b2 with
   |true=>rfl
   | false =>
    cases b3 with
    |true=>rfl
    | false=>
     cases b4 with
     |true=>rfl
     | false=>
      cases s.cond with
      | false=>
       cases sz with
       |false=>rfl
       | true=>
        cases c1 with
        |false=>rfl
        | true=>
         cases c2 with
         |false=>rfl
         | true=>
          cases c3 with
          |false=>rfl
          |true=>
           cases c4<;>rfl
      | true=>
       by_cases he:ec=0
       ·subst he
        cases c1 with
        |false=>cases sz<;>rfl
        | true=>
         cases c2 with
         |false=>cases sz<;>rfl
         | true=>
          cases c3 with
          |false=>cases sz<;>rfl
          |true=>
           cases c4<;>cases sz<;>rfl
       simp[R8,K9 he,he]
 rw[A0 ha,A2 (by simp only[P5,D4,Br,B4,AE,H8];omega)]
theorem Tu (u:Bool)(n:Int):Ar.an (Ar.nt u) (Ar.cmp .neq n 0)= !V7 u n:=by
 simp only[L3,R8,N0,V7,Bool.not_or]
theorem Am2 (u w:Bool)(t v sc:Int):Ar.or (Ar.an (Ar.nt u) (Ar.or (Ar.cmp .neq t 0) (Ar.cmp .neq v 0))) (Ar.an (Ar.nt w) (Ar.cmp .neq sc 0))=((!V7 u t|| !V7 u v)|| !V7 w sc):=by
 rw[Tu];simp only[P5,L3,R8,N0,V7];cases u<;>simp
theorem KJ {N:Nat} (hN:40000000≤N) {x:A1} (hb:x.cN.bulk≤16777216) (h0:0≤x.Op) (h1:x.Op≤10) {s:Q3} {ng:Bool} (hs:PU N x s ng) {sz:Bool}
 (hz:X5 N N x.cN (⟨0,[],0,0,0,(⟨0,0,⟨#[]⟩⟩:B1)⟩:B6)=some sz):
 Bl N x=some (if s.cS≤x.cL.length∧(x.cL.length:Int)≤s.most then Ol s x sz else 15):=by
 unfold Bl;rw[A0 (AY4 h0 h1),hs.ari,hs.var,hs.neg,hs.tim,hs.con,TR hN hb,hz];simp only[A4]
 by_cases ha:s.cS≤x.cL.length∧(x.cL.length:Int)≤s.most
 ·rw [A2 ha,A0 (by simp[R8,ha])];have sco:=hs.sco;simp only[Ba5,A4];cases ng
  ·rw [A0 (by simp)]
   simp only[Et]at sco
   rw[Am2,Tu];unfold Ol;rw[sco];generalize GH s.cO x.Typ 15=b1;generalize GH s.cO x.Var 15=b2;generalize GH s.span x.cP 63=b3;generalize GH s.span x.Span 1099511627776=b4;generalize V7 s.cO x.Typ=c1;generalize V7 s.cO x.Var=c2;generalize V7 s.span x.cP=c3;generalize V7 s.span x.Span=c4;generalize R0 x.cN=ec
   cases b1 with
   |true=>rfl
   | false=>
    cases b2 with
    |true=>rfl
    | false=>
     cases b3 with
     |true=>rfl
     | false=>
      cases b4 with
      |true=>rfl
      | false=>
       cases s.cond with
       |false=>cases sz<;>cases c1<;>cases c2<;>cases c3<;>cases c4<;>rfl
       |true=>
        by_cases he:ec=0
        ·subst he;cases sz<;>cases c1<;>cases c2<;>cases c3<;>cases c4<;>rfl
        simp[K9 he,he]
  rw[A2 rfl]
  simp only[Bool.true_or]at sco
  rw[Am2,Tu];unfold Ol;rw[sco];generalize GH s.cO x.Typ 15=b1;generalize GH s.cO x.Var 15=b2;generalize GH true x.cP 63=b3;generalize GH s.span x.Span 1099511627776=b4;generalize V7 s.cO x.Typ=c1;generalize V7 s.cO x.Var=c2;generalize V7 true x.cP=c3;generalize V7 s.span x.Span=c4;generalize R0 x.cN=ec
  cases b1 with
  |true=>rfl
  | false=>
   cases b2 with
   |true=>rfl
   | false=>
    cases b3 with
    |true=>rfl
    | false=>
     cases b4 with
     |true=>rfl
     | false=>
      cases s.cond with
      |false=>cases sz<;>cases c1<;>cases c2<;>cases c3<;>cases c4<;>rfl
      |true=>
       by_cases he:ec=0
       ·subst he;cases sz<;>cases c1<;>cases c2<;>cases c3<;>cases c4<;>rfl
       simp[K9 he,he]
 rw[A0 ha,A2 (by simp only[R8,CC ha];rfl)]
mutual
theorem Ji:∀(x y:A1),y∈x.pre→y.bulk≤x.bulk∧y.pre.length≤x.pre.length
 |⟨op,args,typ,var,scope,span,c⟩,y,h=>by
  rw[A1.pre]at h
  rcases List.mem_cons.1 h with rfl|h
  ·omega
  have:=Tj args y h
  grind[A1.bulk,A1.pre]
theorem Tj:∀(l:List A1) (y:A1),y∈A1.pres l→y.bulk≤A1.bulks l∧y.pre.length≤(A1.pres l).length
 |[],y,h=>by grind[A1.pres]
 | a::l,y,h=>by
  rw[A1.pres]at h
  rcases List.mem_append.1 h with h|h
  ·have:=Ji a y h
   grind[A1.bulks,A1.pres]
  have:=Tj l y h
  grind[A1.bulks,A1.pres]
end
theorem QF:∀l:List A1,l.length≤(A1.pres l).length
 |[]=>B3 _
 |a::l=>by
  have:=QF l;simp only[A1.pres,A1.pre_eq a,J2,H7];omega
theorem V2 (x:A1):x.cL.length<x.pre.length:=by
 rw[A1.pre_eq];have:=QF x.cL;grind
noncomputable def FX (N:Nat)(y:A1):Int:=(Bl N y).getD 0
theorem Hu {N:Nat} (hN:40000000≤N) {y:A1} (hb:y.bulk≤16777216) (hl:y.cL.length≤64):Ax N y=some (FX N y)∧Bl N y=some (FX N y):=by
 have hc:y.cN.bulk≤16777216:=by have:=A1.bulk_eq y;omega
 have key:∃r,Ax N y=some r∧Bl N y=some r:=by
  by_cases h:0≤y.Op∧y.Op≤10
  ·obtain⟨s,ng,hs⟩:=SG N y h.1 h.2 hl;obtain⟨sz,hz⟩:=UO hN y.cN;exact⟨_,Av9 hN hc h.1 h.2 hs hz,KJ hN hc h.1 h.2 hs hz⟩
  obtain⟨h1,h2⟩:=AV5 h
  simp_all[Ax,Bl]
 grind[FX]
noncomputable def Y0 (N:Nat)(x:A1):Int:=if 64<x.pre.length then 5 else if 12<x.dep then 12 else Az (FX N) x.pre
theorem Mi {N:Nat}(hN:40000000≤N){x:A1}(hb:x.bulk≤16777216):X6 N x=some x.pre:=by
 unfold X6 Ea;rw[AL2 hN N x (by omega) hb];simp[V0]
theorem AM7 {N:Nat}(hN:40000000≤N){x:A1}(hb:x.bulk≤16777216):Cr N x=some (Y0 N x):=by
 unfold Cr Y0;rw[AM0 hN N x (by omega) hb];simp only[A4]
 by_cases h1:64<x.pre.length
 ·rw[A2 h1,A2 (Y4 (by omega))]
 rw[A0 h1,A0 (T9 (by omega))]
 by_cases h2:12<x.dep
 ·rw[A2 h2,A2 (Y4 (by omega))]
 rw[A0 h2,A0 (T9 (by omega)),Mi hN hb];simp only[A4];rw[UV (f:=FX N) fun y hy=>(Hu hN (by have:=Ji x y hy;omega) (by have:=Ji x y hy;have:=V2 y;omega)).1]
 grind
theorem AB3 {N:Nat} (hN:40000000≤N) {x:A1} (hb:x.bulk≤16777216):DL N x=some (Y0 N x):=by
 unfold DL Y0;obtain⟨r,h0,c1,c2,c3⟩:=Xs hN 64 N x (by omega) hb;rw[h0];simp only[A4]
 by_cases h1:64<x.pre.length
 ·rw[A2 h1,A2 (Y4 (by omega))]
 rw[A0 h1,A0 (T9 (by omega)),Zl hN N x (by omega) hb];simp only[A4]
 by_cases h2:12<x.dep
 ·rw[A2 h2,A2 (Y4 (by omega))]
 rw[A0 h2,A0 (T9 (by omega)),SY hN N x (by omega) hb];simp only[A4];rw[L5 x.pre (by omega) (mk:=fun(_:Unit) i=>i) (body:=Cn (Bl N)) (fin:=fun _=>.inl ()) (s:=()) (by omega) ?_ ?_]
 ·rw[Bm (f:=FX N) fun y hy=>(Hu hN (by have:=Ji x y hy;omega) (by have:=Ji x y hy;have:=V2 y;omega)).2]
  grind
 ·intro s i a ha hi;have e:Ar.ar .add .i64 (i:Int) 1=i+1:=D3 (by omega) (by omega);simp only[D4,B4,hi,G9,D1,F6,ha,A4,e,Cn,N0]
  grind
 intro s;simp[D4,B4]
def Aw9 (N:Nat)(x:A1):Prop:=∀y∈x.pre,FX N y=0
theorem Oa {a y:A1} (hy:y∈a.pre):∀l:List A1,a∈l→y∈A1.pres l
 |[],h=>by simp at h
 |b::l,h=>by
  rcases List.mem_cons.1 h with rfl|h
  ·simp_all[A1.pres]
  simp[A1.pres,Oa hy l h]
theorem Aw9.arg {N:Nat}{x a:A1}(h:Aw9 N x)(ha:a∈x.cL):Aw9 N a:=fun y hy=>h y (by
 rw[A1.pre_eq];exact CI _ (Oa hy _ ha))
theorem L4 {x a:A1}(ha:a∈x.cL):a.pre.length<x.pre.length:=by
 have:=(Tj x.cL a (Oa (by rw[A1.pre_eq];simp) _ ha)).2;rw[A1.pre_eq x];grind
theorem AJ2 {N:Nat} (hN:40000000≤N) {y:A1} (hb:y.bulk≤16777216) (hl:y.cL.length≤64) (h:FX N y=0) (ho:y.Op=1∨y.Op=7∨y.Op=8∨y.Op=9∨y.Op=10):∃a r,y.cL=a::r:=by
 have hc:y.cN.bulk≤16777216:=by have:=A1.bulk_eq y;omega
 obtain⟨s,ng,hs⟩:=SG N y (by omega) (by omega) hl;obtain⟨sz,hz⟩:=UO hN y.cN;have h1:=KJ hN hc (by omega) (by omega) hs hz
 rw[(Hu hN hb hl).2,h]at h1
 have h2:s.cS≤y.cL.length:=by
  have h1:=BL h1;omega
 have h3:1≤s.cS:=by
  have ht:=hs.tab
  rcases ho with h|h|h|h|h<;>rw[h]at ht<;>cases ht<;>decide
 match he:y.cL,h2 with
 |[],h2=>grind
 |a::r,_=>simp_all
theorem L6 {a b:Int}(h:a=b):Ar.cmp .eql a b=true:=by rw[D8];simp_all
theorem Cg {a b:Int}(h:¬a=b):Ar.cmp .eql a b=false:=by rw[D8];simp_all
theorem few8 {N:Nat}(hN:40000000≤N){x:B6}(hb:x.bulk≤16777216):∃b,Hq N x=some b:=by
 unfold Hq;obtain⟨r,h0,_⟩:=Zp hN 200 N x (by omega) hb;rw[h0];simp only[A4]
 split
 ·rw[TK hN N x (by omega) hb];simp_all
 simp_all
theorem Mf {α:Type} {F:α→Option Bool}:∀(l:List α),(∀a∈l,∃b,F a=some b)→∃o,K7 (fun(_:Unit) a=>(F a).bind fun r=>if Ar.nt r=true then some (Sum.inr (Sum.inr (α:=Unit) ()))else some (.inl ())) l ()=some o
 |[],_=>⟨_,rfl⟩
 |a::l,h=>by
  obtain⟨b,hb⟩:=h a (by simp);unfold K7;rw[hb]
  cases b with
  |false=>exact⟨_,rfl⟩
  |true=>exact Mf l fun a ha=>h a (by simp[ha])
theorem few9 {N:Nat} (hN:40000000≤N) {x:A1} (hb:x.bulk≤16777216):∃b,MU N x=some b:=by
 unfold MU;obtain⟨r,h0,_⟩:=Xs hN 150 N x (by omega) hb;rw[h0];simp only[A4]
 split
 ·simp_all
 rw[Zl hN N x (by omega) hb];simp only[A4]
 split
 ·simp_all
 rw[SY hN N x (by omega) hb];simp only[A4];have hp:=Fy x;rw[L5 x.pre (by omega) (mk:=fun(_:Unit) i=>i) (body:=fun(_:Unit) a=>(Hq N a.cN).bind fun r=>if Ar.nt r=true then some (.inr (.inr ()))else some (.inl ())) (fin:=fun _=>.inl ()) (s:=()) (by omega) ?_ ?_]
 ·obtain⟨o,ho⟩:=Mf (F:=fun(a:A1)=>Hq N a.cN) x.pre fun a ha=>few8 hN (by have:=(Ji x a ha).1;have:=A1.bulk_eq a;omega);rw[ho]
  cases o with
  |inl _=>simp_all
  |inr o=>cases o<;>exact⟨_,rfl⟩
 ·intro s i a ha hi;have e:Ar.ar .add .i64 (i:Int) 1=i+1:=D3 (by omega) (by omega);simp only[D4,B4,hi,G9,D1,F6,ha,A4,e]
  grind
 intro s;simp[D4,B4]
theorem To {S R:Type} {step:S→Option (S⊕R)} (I:Nat→S→Prop) (Q:R→Prop):∀(k i:Nat) (s:S) (N:Nat),k<N→I i s→
 (∀j s,i≤j→j<i+k→I j s→∃o,step s=some o∧(match o with| .inl s'=>I (j+1) s'| .inr r=>Q r))→
 (∀s,I (i+k) s→∃r,step s=some (.inr r)∧Q r)→∃r,loopN step N s=some r∧Q r
 |0,i,s,N,hN,h0,_,he=>by
  obtain⟨N,rfl⟩:∃M,N=M+1:=⟨N-1,by omega⟩
  grind[loopN]
 | k+1,i,s,N,hN,h0,hs,he=>by
  obtain⟨N,rfl⟩:∃M,N=M+1:=⟨N-1,by omega⟩;obtain⟨o,h1,h2⟩:=hs i s (B3 _) (by omega) h0
  cases o with
  |inl s'=>
   obtain⟨r,h3,h4⟩:=To I Q k (i+1) s' N (by omega) h2 (fun j s a b c=>hs j s (by omega) (by omega) c) (fun s h=>he s (by rw[show i+(k+1)=i+1+k by omega];exact h))
   simp_all[loopN]
  |inr r=>simp_all[loopN]
theorem Vd {β S R:Type} {step:S→Option (List β×(S⊕R))} (st:Nat→S) (f:Nat→List β) (w:List β) (r:R):∀(k i:Nat) {N:Nat},k<N→(∀j,i≤j→j<i+k→step (st j)=some (f j,.inl (st (j+1))))→step (st (i+k))=some (w,.inr r)→
 De step N (st i)=some ((List.range' i k).flatMap f++w,r)
 |0,i,N,hN,_,he=>by
  obtain⟨N,rfl⟩:∃M,N=M+1:=⟨N-1,by omega⟩
  simp_all[De]
 |k+1,i,N,hN,hs,he=>by
  obtain⟨N,rfl⟩:∃M,N=M+1:=⟨N-1,by omega⟩;have:=Vd st f w r k (i+1) (N:=N) (by omega) (fun j a b=>hs j (by omega) (by omega)) (by rw[show i+1+k=i+(k+1) by omega];exact he);simp only[De,hs i (B3 _) (by omega),this,DO,U8,E6]
theorem HL {α β:Type} {R:Type} {step:Unit→α→Option (List β×(Unit⊕R))} (f:α→List β):∀{l:List α},(∀x∈l,step () x=some (f x,.inl ()))→Af step l ()=some (l.flatMap f,.inl ())
 |[],_=>rfl
 |x::l,h=>by
  have:=HL f (l:=l) fun y hy=>h y (by simp[hy])
  simp_all[Af]
noncomputable instance :DecidableEq B6:=Classical.typeDecidableEq _
noncomputable instance :DecidableEq A1:=Classical.typeDecidableEq _
theorem Am6 {i:Nat}(h:i<1000000000000):Ar.ar .add .i64 (i:Int) 1=((i+1:Nat):Int):=by rw[D3 (by omega) (by omega)];omega
theorem AR7 {α:Type} [DecidableEq α] {N:Nat} (l m:List α) (hl:l.length=m.length) (hs:l.length<1000000000000) (f:α→α→Option Bool) (hf:∀x∈l,∀y∈m,f x y=some (decide (x=y))) (hN:l.length<N):
 loopN (fun(i:Int)=>if Ar.cmp .lss i (Ar.len l)=true then(C3 l i).bind fun x=>(C3 m i).bind fun y=>(f x y).bind fun r=>if Ar.nt r=true then some (Sum.inr (Sum.inr (α:=Unit) ()))else some (.inl (Ar.ar .add .i64 i 1))else some (.inr (.inl ()))) N 0=some (if l=m then .inl ()else .inr ()):=by
 obtain⟨r,h1,h2⟩:=To (step:=fun(i:Int)=>if Ar.cmp .lss i (Ar.len l)=true then(C3 l i).bind fun x=>(C3 m i).bind fun y=>(f x y).bind fun r=>if Ar.nt r=true then some (Sum.inr (Sum.inr (α:=Unit) ()))else some (.inl (Ar.ar .add .i64 i 1))else some (.inr (.inl ())))
  (fun j s=>s=(j:Int)∧l.take j=m.take j) (fun r=>r=if l=m then .inl ()else .inr ()) l.length 0 0 N hN ⟨rfl,by simp⟩
  (fun j s _ hj ⟨e,ht⟩=>by
   subst e
   simp only[K1]at hj
   have hj2:j<m.length:=by omega
   have e1:l[j]? =some l[j]:=by simp[hj]
   have e2:m[j]? =some m[j]:=by simp[hj2]
   simp only[D4,B4,show((j:Int)<(l.length:Int)) by omega,G9,D1,F6,e1,e2,A4,hf _ (G3 hj) _ (G3 hj2)]
   by_cases h:l[j]=m[j]
   ·simp only[h,G9,R8,AD,J7,G4];refine⟨_,rfl,Am6 (by omega),?_⟩;rw[List.take_add_one,List.take_add_one,ht,e1,e2,h]
   simp only[h,Iq,R8,Eu,D1]
   grind)
  (fun s ⟨e,ht⟩=>by
   subst e
   simp only[K1]at ht ⊢
   refine⟨.inl (),by simp[D4,B4],?_⟩
   rw[X0,hl,X0]at ht
   rw[A2 ht])
 rw[h1,h2]
theorem YQ {a b:B6}:a=b↔(a.Op=b.Op∧a.Var=b.Var∧a.Field=b.Field∧a.Kind=b.Kind∧a.Value=b.Value)∧a.cL=b.cL:=by
 cases a;cases b;grind
theorem Au5 {a b:B1}:a=b↔a.Kind=b.Kind∧a.Num=b.Num∧a.Text=b.Text:=by cases a;cases b;simp
theorem Vm (a b:B6):Ty a b=true↔¬((a.Op=b.Op∧a.Var=b.Var∧a.Field=b.Field∧a.Kind=b.Kind∧a.Value=b.Value)∧a.cL.length=b.cL.length):=by
 simp only[Ty,P5,L3,R8,N0,D8,GA,B4,Au5,AE,DR,Fu,QJ,Gi,H8,Classical.not_and_iff_not_or_not]
 grind
theorem AV2 {N:Nat} (hN:40000000≤N):∀(n:Nat) (a b:B6),a.bulk≤n→a.bulk≤16777216→X5 N n a b=some (decide (a=b)):=by
 intro n
 induction n with
 |zero=>intro a b h;have:=FL a;omega
 | succ n ih=>
  intro a b hx hb;have hl:=HR a;unfold X5
  change (if Ty a b=true then some false else _)=_
  by_cases h:Ty a b=true
  ·rw[A2 h]
   rw[Vm]at h
   rw[CC]
   grind
  rw[A0 h]
  rw[Vm,Classical.not_not]at h
  rw[AR7 a.cL b.cL h.2 (by omega) _ (fun x hx y hy=>ih x y (by have:=Bn hx;omega) (by have:=Bn hx;omega)) (by omega)];simp only[A4]
  by_cases he:a.cL=b.cL
  ·rw[A2 he,J1 (YQ.2 ⟨h.1,he⟩)]
  rw[A0 he,CC fun e=>he (YQ.1 e).2]
structure Arity (y:A1):Prop where
 op:0≤y.Op∧y.Op≤10
 ev:y.Op=0→y.cL=[]
 two:1≤y.Op→y.Op≤3→2≤y.cL.length
 one:4≤y.Op→y.Op≠8→∃a,y.cL=[a]
 more:y.Op=8→∃a b,y.cL=[a,b]
theorem At8 {β S R:Type}{step:S→Option (List β×(S⊕R))}(st:Nat→S)(f:Nat→List β)(w:List β)(r:R)(k:Nat){s0:S}{N:Nat}(h0:s0=st 0)(hN:k<N)(hs:∀j,j<k→step (st j)=some (f j,.inl (st (j+1))))(he:step (st k)=some (w,.inr r)):
 De step N s0=some ((List.range k).flatMap f++w,r):=by
 rw[h0,Vd st f w r k 0 hN (fun j _ h=>hs j (by omega)) (by rw[K1];exact he),Gr]
def zE:B6:=⟨0,[],0,0,0,⟨0,0,⟨#[]⟩⟩⟩
def nd (op:Int)(args:List A1):A1:=⟨op,args,0,0,0,0,zE⟩
def wth {α:Type}[DecidableEq α](l:List α)(x:α):List α:=if x∈l then l else l++[x]
def dd {α:Type}[DecidableEq α](l:List α):List α:=l.foldl wth []
section
variable {α:Type}[DecidableEq α]
end
end Go.Ab
namespace Go.Ab
theorem Oh {α R:Type} (P:α→Bool) (r:R):∀l:List α,K7 (fun(_:Unit) y=>if P y=true then some (Sum.inr r)else some (.inl ())) l ()=some (if l.any P=true then .inr r else .inl ())
 |[]=>rfl
 | y::l=>by
  unfold K7
  cases h:P y with
  |true=>simp[h]
  |false=>
   simp only[J7,G4,Er,h,Et];exact Oh P r l
theorem Aw9.sub {N:Nat}{x y:A1}(h:Aw9 N x)(hy:y∈x.pre):FX N y=0:=h y hy
theorem Ay3 {N:Nat} (hN:40000000≤N) {x:A1} (hb:x.bulk≤16777216):FV N x=some (if Y0 N x≠0 then Y0 N x else if x.pre.any (fun y=>Ar.cmp .geq y.Op 8)=true then 1 else 0):=by
 unfold FV;rw[AM7 hN hb];simp only[A4]
 by_cases h:Y0 N x=0
 ·rw[A0 (K8 h),A0 (by omega),Mi hN hb];simp only[A4];rw[Oh (fun y:A1=>Ar.cmp .geq y.Op 8) (1:Int) x.pre]
  grind
 rw[A2 (K9 h),A2 h]
theorem MS {N:Nat} {x:A1} (hz:Y0 N x=0):x.pre.length≤64∧x.dep≤12∧Aw9 N x:=by
 have hp:x.pre.length≤64:=by
  grind[Y0]
 have hd:¬12<x.dep:=fun h=>by rw[Y0,A0 (by omega),A2 h]at hz;cases hz
 rw[Y0,A0 (by omega),A0 hd]at hz
 exact⟨hp,by omega,FM.1 hz⟩
theorem Gz (x:A1):x∈x.pre:=by rw[A1.pre_eq];simp
theorem AS7 {α β:Type}{m:Option α}{F:α→Option β}{a:α}{r:Option β}(h1:m=some a)(h2:F a=r):m.bind F=r:=by rw[h1];exact h2
mutual
theorem Ua:∀x:B6,(∀y∈x.pre,y.Value.Text.size≤64)→x.bulk≤74*x.pre.length
 |⟨op,args,var,field,kind,v⟩,h=>by
  have h1:=Ry args fun y hy=>h y (by rw[B6.pre];simp_all);have h2:v.Text.size≤64:=h ⟨op,args,var,field,kind,v⟩ (by rw[B6.pre];simp_all)
  grind[B6.bulk,B6.pre]
theorem Ry:∀l:List B6,(∀y∈B6.pres l,y.Value.Text.size≤64)→B6.bulks l≤1+74*(B6.pres l).length
 |[],_=>by simp[B6.bulks]
 |a::l,h=>by
  have h1:=Ua a fun y hy=>h y (by rw[B6.pres];simp_all);have h2:=Ry l fun y hy=>h y (by rw[B6.pres];simp_all)
  grind[B6.bulks,B6.pres]
end
theorem Oc:(⟨#[]⟩:ByteArray).size=0:=rfl
theorem ZO {v:B1}(h:UD v=true):v.Text.size≤64:=by
 simp only[UD,L3,D8,GA,L9,H8]at h
 rw[h.2.2.1,Oc];omega
theorem Xn {v:B1} (h:N8 v=0):v.Text.size≤64:=by
 unfold N8 at h
 by_cases h1:v.Kind=0∨v.Kind=1
 ·rw[A2 h1]at h
  by_cases h2:v.Text≠⟨#[]⟩
  ·rw[A2 h2]at h;cases h
  have:v.Text=⟨#[]⟩:=Classical.not_not.1 h2;rw[this,Oc];omega
 omega
theorem WH {x:B6} (h:Bq x=0):x.Value.Text.size≤64:=by
 unfold Bq at h
 by_cases h0:x.Op<0∨12<x.Op
 ·rw[A2 h0]at h;cases h
 rw[A0 h0]at h
 by_cases h1:(x.cL.length:Int)≠(if x.Op<5 then 0 else if x.Op=12 then 1 else 2)
 ·rw[A2 h1]at h;cases h
 rw[A0 h1]at h
 by_cases h2:Yl x=true
 ·rw[A2 h2]at h;cases h
 rw[A0 h2]at h
 by_cases h3:Tq x=true
 ·rw[A2 h3]at h;cases h
 rw[A0 h3]at h
 by_cases h4:x.Op=4∨x.Op=0
 ·by_cases h5:N8 x.Value=0
  ·exact Xn h5
  omega
 rw[A0 (fun e=>h4 e.1),A0 (fun e=>h4 (.inl e.1))]at h
 by_cases h6:Px x=true
 ·rw[A2 h6]at h;cases h
 have h7:UD x.Value=true:=by
  have n4:¬x.Op=4:=fun e=>h4 (.inl e);have n0:¬x.Op=0:=fun e=>h4 (.inr e)
  cases hz:UD x.Value with
  |true=>rfl
  |false=>
   refine absurd ?_ h6;simp[Px,P5,L3,R8,D8,n4,n0,hz]
 exact ZO h7
theorem RJ {c:B6}(h:R0 c=0):c.bulk≤4736:=by
 have hp:¬64<c.pre.length:=fun e=>by rw[R0,A2 e]at h;cases h
 have hd:¬12<c.dep:=fun e=>by rw[R0,A0 hp,A2 e]at h;cases h
 rw[R0,A0 hp,A0 hd]at h
 have:=Ua c fun y hy=>WH (FM.1 h y hy);omega
theorem SZ {N:Nat} (hN:40000000≤N) {y:A1} (hb:y.bulk≤16777216) (hl:y.cL.length≤64) (h:FX N y=0):(0≤y.Op∧y.Op≤10)∧∃s ng,PU N y s ng∧y.cN.bulk≤4736:=by
 have hc:y.cN.bulk≤16777216:=by have:=A1.bulk_eq y;omega
 have hop:0≤y.Op∧y.Op≤10:=by
  by_cases ho:0≤y.Op∧y.Op≤10
  ·exact ho
  have h1:=(Hu hN hb hl).1
  unfold Ax at h1
  rw[A2 (AV5 ho).1,h]at h1
  cases h1
 obtain⟨s,ng,hs⟩:=SG N y hop.1 hop.2 hl;have hz:=AV2 hN N y.cN (⟨0,[],0,0,0,(⟨0,0,⟨#[]⟩⟩:B1)⟩:B6) (by omega) hc;have h1:=KJ hN hc hop.1 hop.2 hs hz
 rw[(Hu hN hb hl).2,h]at h1
 have h1:=BL h1;refine⟨hop,s,ng,hs,?_⟩
 by_cases ha:s.cS≤y.cL.length∧(y.cL.length:Int)≤s.most
 ·rw[A2 ha]at h1
  unfold Ol at h1
  by_cases e1:GH s.cO y.Typ 15=true
  ·rw[A2 e1]at h1;cases h1
  rw[A0 e1]at h1
  by_cases e2:GH s.cO y.Var 15=true
  ·rw[A2 e2]at h1;cases h1
  rw[A0 e2]at h1
  by_cases e3:GH s.scope y.cP 63=true
  ·rw[A2 e3]at h1;cases h1
  rw[A0 e3]at h1
  by_cases e4:GH s.span y.Span 1099511627776=true
  ·rw[A2 e4]at h1;cases h1
  rw[A0 e4]at h1
  by_cases e5:s.cond=true
  ·by_cases e6:R0 y.cN=0
   ·exact RJ e6
   grind
  rw[A0 (fun e=>e5 e.1)]at h1
  by_cases e6:y.cN=(⟨0,[],0,0,0,(⟨0,0,⟨#[]⟩⟩:B1)⟩:B6)
  ·rw[e6];simp only[B6.bulk,B6.bulks,Oc];omega
  grind
 omega
end Go.Ab
