/- GHCo8 AbG1 AbI1 AbM1 AbG2 AbG3 GHP0 GHBk GHM1 GHM2 GHM3 GHM4 GHM5 GHM6 GHM7 GHN1 GHD1 -/
import Derived.Test.YtmfdlklcmoklhaaGreatDoorB15
import Derived.Deep.Slices
import Derived.Carry
import Derived.Lib.LaidTab
import Derived.Laws.Strings
set_option linter.all false
namespace Go.Ab
open Go.RowKit Go.Proofs Go.Proofs.Tryz L9
variable [Ar][L9]
set_option maxRecDepth 100000
def cf43 :Cf:=⟨[],[(2,10),(4,10),(3000007,0),(3000007,1),(3000007,2),(3000007,5),(3000007,8)],[],[2000007],[],[]⟩
set_option maxHeartbeats 2000000 in
theorem c43 (N aG bO r) (h:HE N aG bO=some r):C0 prog 43 [sr eBe4 aG,(Kf bO)] (sr eBe4 r):=by
 unfold HE at h
 refine O7 cf43 func43 call43 ntmps43 ?_;intro E H0 K hE hK hO;cbv;obtain⟨s2,hx,h⟩:=bind_some h;refine K0 cf43 hE Q6 (fun s1=>[(0,.v (sr eBe4 aG)),(3,.v (.eref (Js bO) 0)),fi 5 s1]) (fun s1 H1=>C3 Eq H0 [] H1) (fun x e l H1=>e= .exit 0∧l=[(0,.v (sr eBe4 aG)),(3,.v (.eref (Js bO) 0)),fi 5 x]∧C3 Eq H0 [] H1) (by kernel_rfl) ?_ hx ?_ hO ?_
 ·intro s1 H o hO h;clear hx;cbv;refine G1 hE ?_;cbv;refine B1 hE h (fun _ h=>?_) fun _ h=>?_
  ·cbv;refine C9 hE eBf4 h fun x3 h=>?_;cbv;refine A8 hE h (c42 N x3 bO) (.refl _) fun r4 h=>?_;cbv;refine B1 hE h (fun _ h=>?_) fun _ h=>?_
   ·cbv;cases h;exact⟨_,rfl,.e rfl (.e2 .z),rfl,hO⟩
   cbv;cases h;exact⟨_,_,rfl,⟨rfl,rfl,hO⟩,.e rfl (.e2 .z),rfl⟩
  cbv;cases h;exact⟨_,_,rfl,⟨rfl,rfl,hO⟩,.e rfl (.e2 .z),rfl⟩
 ·exact .e rfl (.e2 .z)
 clear hx;rintro e l H ⟨rfl,rfl,hO⟩;cbv;refine G1 hE ?_;cbv;refine B1 hE h (fun _ h=>?_) fun _ h=>?_
 ·cbv;refine C9 hE eBf4 h fun x5 h=>?_;cbv;refine A8 hE h (c42 N x5 bO) (.refl _) fun r6 h=>?_;cbv;refine B1 hE h (fun _ h=>?_) fun _ h=>?_
  ·cbv;cases h;exact hK hO (.refl _)
  cbv;replace hO:=hO.tl0 (t:=.nil) rfl;obtain⟨s7,hx,h⟩:=bind_some h;refine Y4 cf43 hE Q6 (fun e l H1=>∃u1:G3,Au u1∧e= .normal∧l=[(0,.v (sr eBe4 aG)),fi 5 s2,(6,.v (.sl (Ar.lst eBe4 s7) u1))]∧C3 Eq H0 [.tl u1] H1) (by kernel_rfl) ?_ ?_
  ·clear h;have h:=hx;clear hx;cbv;obtain⟨l128,el128,h⟩:=bind_some h;obtain⟨l169,el169,h⟩:=bind_some h;obtain⟨l289,el289,h⟩:=bind_some h
   repeat' first|refine And.intro ?_ ?_|(refine Ko hE (f:=eBe4) AY (Nq el128) fun l128 t129 hh=>?_;obtain rfl:=M6 hh;cbv)|(refine BS (f:=eBe4) hE AY (by decide) hO 0 rfl trivial (l:=[]) (m:=l128) (.lst0) (.refl _) (Nq el169) fun l169 t168 H hO ht168 hh=>?_;obtain rfl:=M6 hh;cbv)|(refine BS (f:=eBe4) hE AY (by decide) hO 0 rfl ht168 (l:=l169) (m:=[bO]) (.refl _) (.lstc (.eq (eBf4 bO) (.refl _)) (.lst0)) (Nq el289) fun l289 t288 H hO ht288 hh=>?_;obtain rfl:=M6 hh;cbv)|(have h:=M6 h;subst h;exact⟨_,⟨t288,ht288,rfl,rfl,hO⟩,.e rfl (.e2 .z),rfl⟩)
  clear hx;rintro e l H ⟨t408,ht408,rfl,rfl,hO⟩;cbv;refine Ko hE (f:=eBe4) AY h fun l409 t410 h=>?_;cbv;refine BS (f:=eBe4) hE AY (by decide) hO 0 rfl ht408 (l:=s7) (m:=l409) (.refl _) (.refl _) h fun l412 t411 H hO ht411 h=>?_;cbv;cases h;exact hK hO (.ro _ _)
 cbv;replace hO:=hO.tl0 (t:=.nil) rfl;obtain⟨s413,hx,h⟩:=bind_some h;refine Y4 cf43 hE Q6 (fun e l H1=>∃u1:G3,Au u1∧e= .normal∧l=[(0,.v (sr eBe4 aG)),fi 5 s2,(6,.v (.sl (Ar.lst eBe4 s413) u1))]∧C3 Eq H0 [.tl u1] H1) (by kernel_rfl) ?_ ?_
 ·clear h;have h:=hx;clear hx;cbv;obtain⟨l534,el534,h⟩:=bind_some h;obtain⟨l575,el575,h⟩:=bind_some h;obtain⟨l695,el695,h⟩:=bind_some h
  repeat' first|refine And.intro ?_ ?_|(refine Ko hE (f:=eBe4) AY (Nq el534) fun l534 t535 hh=>?_;obtain rfl:=M6 hh;cbv)|(refine BS (f:=eBe4) hE AY (by decide) hO 0 rfl trivial (l:=[]) (m:=l534) (.lst0) (.refl _) (Nq el575) fun l575 t574 H hO ht574 hh=>?_;obtain rfl:=M6 hh;cbv)|(refine BS (f:=eBe4) hE AY (by decide) hO 0 rfl ht574 (l:=l575) (m:=[bO]) (.refl _) (.lstc (.eq (eBf4 bO) (.refl _)) (.lst0)) (Nq el695) fun l695 t694 H hO ht694 hh=>?_;obtain rfl:=M6 hh;cbv)|(have h:=M6 h;subst h;exact⟨_,⟨t694,ht694,rfl,rfl,hO⟩,.e rfl (.e2 .z),rfl⟩)
 clear hx;rintro e l H ⟨t814,ht814,rfl,rfl,hO⟩;cbv;refine Ko hE (f:=eBe4) AY h fun l815 t816 h=>?_;cbv;refine BS (f:=eBe4) hE AY (by decide) hO 0 rfl ht814 (l:=s413) (m:=l815) (.refl _) (.refl _) h fun l818 t817 H hO ht817 h=>?_;cbv;cases h;exact hK hO (.ro _ _)
theorem c17 (N aG r) (h:Fs N aG=some r):C0 prog 17 [sr eBe4 aG] (sr eBe4 r):=by
 unfold Fs at h
 refine O7 cf0 func17 call17 ntmps17 ?_;intro E H0 K hE hK hO;cbv;replace hO:=hO.tl0 (t:=.nil) rfl;obtain⟨s2,hx,h⟩:=bind_some h;refine K0 cf0 hE Q6 (fun s1=>[(0,.v (sr eBe4 aG)),(3,.v (sr eBe4 s1.1)),fi 4 s1.2]) (fun s1 H1=>C3 Eq H0 [.tl .nil] H1) (fun x e l H1=>e= .exit 0∧l=[(3,.v (sr eBe4 x))]∧C3 Eq H0 [.tl .nil] H1) (by kernel_rfl) ?_ hx ?_ hO ?_
 ·intro s1 H o hO h;clear hx;cbv;refine G1 hE ?_;cbv;refine B1 hE h (fun _ h=>?_) fun _ h=>?_
  ·cbv;refine C9 hE eBf4 h fun x3 h=>?_;cbv;refine A8 hE h (c43 N s1.1 x3) (.refl _) fun r4 h=>?_;cbv;cases h;exact⟨_,rfl,.e rfl (.e2 .z),rfl,hO⟩
  cbv;cases h;exact⟨_,_,rfl,⟨rfl,rfl,hO⟩,.e rfl .z,rfl⟩
 ·exact .e rfl (.v (.lit _ (E0)) (.e rfl (.z)))
 clear hx;rintro e l H ⟨rfl,rfl,hO⟩;cbv;cases h;exact hK hO (.refl _)
def cf3 :Cf:=⟨[],[(13,9)],[],[],[],[]⟩
theorem c3 (N aA aM r) (h:Ay N aA aM=some r):C0 prog 3 [(D2 aA),(Af aM)] (.bool r):=by
 unfold Ay at h
 refine O7 cf3 func3 call3 ntmps3 ?_;intro E H0 K hE hK hO;cbv;refine A8 hE h (c4 N aA) (.refl _) fun r1 h=>?_;cbv;refine B1 hE h (fun _ h=>?_) fun _ h=>?_
 ·cbv;refine A8 hE h (c8 N) (.refl _) fun r2 h=>?_;cbv;cases h;exact hK hO (.refl _)
 cbv;refine A8 hE h (c5 N aA) (.refl _) fun r3 h=>?_;cbv;refine B1 hE h (fun _ h=>?_) fun _ h=>?_
 ·cbv;refine A8 hE h (c8 N) (.refl _) fun r4 h=>?_;cbv;cases h;exact hK hO (.refl _)
 cbv;refine A8 hE h (c6 N ([aM])) (.cons (.lit _ (I0 ((eBe6 aM).symm) (E0))) (.refl _)) fun r5 h=>?_;cbv;refine B1 hE h (fun _ h=>?_) fun _ h=>?_
 ·cbv;refine A8 hE h (c8 N) (.refl _) fun r6 h=>?_;cbv;cases h;exact hK hO (.refl _)
 cbv;refine A8 hE h (c7 N ([aM])) (.cons (.lit _ (I0 ((eBe6 aM).symm) (E0))) (.refl _)) fun r7 h=>?_;cbv;refine B1 hE h (fun _ h=>?_) fun _ h=>?_
 ·cbv;refine A8 hE h (c8 N) (.refl _) fun r8 h=>?_;cbv;cases h;exact hK hO (.refl _)
 cbv;refine A8 hE h (c9 N aA ([aM])) (.cons (.refl _) (.cons (.lit _ (I0 ((eBe6 aM).symm) (E0))) (.refl _))) fun r9 h=>?_;cbv;refine A8 hE h (c10 N aA) (.refl _) fun r10 h=>?_;cbv;refine B1 hE h (fun _ h=>?_) fun _ h=>?_
 ·cbv;refine B1 hE h (fun _ h=>?_) fun _ h=>?_
  ·cbv;refine A8 hE h (c8 N) (.refl _) fun r11 h=>?_;cbv;cases h;exact hK hO (.refl _)
  cbv;cases h;exact hK hO (.refl _)
 cbv;refine G1 hE ?_;cbv;replace hO:=hO.tl0 (t:=.nil) rfl;obtain⟨s14,hx,h⟩:=bind_some h;refine Bm cf3 hE Q6 (γ:=G3) (fun s12 g=>[(3,.v (.eref (Ky aM) 0)),(5,.v (.sl [(Af aM)] .full)),(6,.v (sr eBe4 r9.1)),(11,.v (.sl (Ar.lst eBe4 s12.1) g)),(72,.v (sr eBf2 r10.1)),fi 73 (Ar.len r10.1),fi 74 s12.2]) (fun s12 g H1=>Au g∧C3 Eq H0 [.tl g] H1) (fun x e l H1=>∃u1:G3,Au u1∧e= .exit 0∧l=[(6,.v (sr eBe4 r9.1)),(11,.v (.sl (Ar.lst eBe4 x) u1))]∧C3 Eq H0 [.tl u1] H1) (by kernel_rfl) ?_ .nil hx ?_ ?_ ?_
 ·rintro s12 t13 H o ⟨ht13,hO⟩ h;clear hx;cbv;refine B1 hE h (fun _ h=>?_) fun _ h=>?_
  ·cbv;refine C9 hE eBf3 h fun x15 h=>?_;cbv;refine B1 hE h (fun _ h=>?_) fun _ h=>?_
   ·cbv;cases h;exact⟨_,t13,rfl,.e rfl (.e2 (.e4 .z)),rfl,ht13,hO⟩
   cbv;refine A8 hE h (c11 N x15.dE (⟨[]⟩:Cl) x15.Var aM) (.cons (.refl _) (.cons (.agg (.cons (.lit _ (E0)) (.refl _))) (.refl _))) fun r16 h=>?_;cbv;refine B1 hE h (fun _ h=>?_) fun _ h=>?_
   ·cbv;cases h;exact⟨_,t13,rfl,.e rfl (.e2 (.e4 .z)),rfl,ht13,hO⟩
   cbv;refine R3 hE (g:=fun r17=>(KF r17)) h (c12 N aM) (.refl _) fun r17 h=>?_;cbv;refine A8 hE h (c13 N ([aM]) 16 ([(⟨x15.Var,r17⟩:G7)])) (.cons (.lit _ (I0 ((eBe6 aM).symm) (E0))) (.cons (.refl _) (.cons (.lit _ (I0 ((eBf9 (⟨x15.Var,r17⟩:G7)).symm) (E0))) (.refl _)))) fun r18 h=>?_;cbv;refine A8 hE (g:=fun r19=>.bool r19) h (fun r19 hx=>c14 N x15.dH (.func (.func 15) [] [.eref (Yw r18) 0]) (fun y1=>O6 N y1 r18) (fun y1 r hx=>C0.value (F:=[]) (C:=[.eref (Yw r18) 0]) (c15 N y1 r18 r hx)) r19 hx) (.refl _) fun r19 h=>?_;cbv;refine B1 hE h (fun _ h=>?_) fun _ h=>?_
   ·cbv;refine BS (f:=eBe4) hE AY (by decide) hO 0 rfl ht13 (l:=s12.1) (m:=[(⟨[(⟨x15.Var,r17⟩:G7)]⟩:G6)]) (.refl _) (.lstc (.eq (eBf4 (⟨[(⟨x15.Var,r17⟩:G7)]⟩:G6)) (.agg (.cons (.lit _ (I0 ((eBf9 (⟨x15.Var,r17⟩:G7)).symm) (E0))) (.refl _)))) (.lst0)) h fun l21 t20 H hO ht20 h=>?_;cbv;cases h;exact⟨_,t20,rfl,.e rfl (.e2 (.e4 .z)),rfl,ht20,hO⟩
   cbv;cases h;exact⟨_,t13,rfl,.e rfl (.e2 (.e4 .z)),rfl,ht13,hO⟩
  cbv;cases h;exact⟨_,_,rfl,⟨t13,ht13,rfl,rfl,hO⟩,.e2 .z,rfl⟩
 ·exact .e rfl (.e2 (.v (.slt _ (.lst0)) (.e rfl (.e rfl (.e rfl (.z))))))
 ·exact⟨trivial,hO⟩
 clear hx;rintro e l H ⟨t22,ht22,rfl,rfl,hO⟩;cbv;refine A8 hE h (c17 N s14) (.cons (.ro _ _) (.refl _)) fun r23 h=>?_;cbv;refine A8 hE h (c16 N r23 r9.1) (.refl _) fun r24 h=>?_;cbv;refine B1 hE h (fun _ h=>?_) fun _ h=>?_
 ·cbv;refine A8 hE h (c8 N) (.refl _) fun r25 h=>?_;cbv;cases h;exact hK hO (.refl _)
 cbv;cases h;exact hK hO (.refl _)
end Go.Ab
namespace Go.Ab
open Go.RowKit Go.ChangeShapes Go.WideShapes
variable [M9]
def g0 (W:World):Gh:=⟨fun _=>none,fun _=>⟨0,0,0⟩,fun _=>none,fun b o=>∃v,W.cell? ⟨b,o,none⟩=some v,0,W.heap.size⟩
theorem rl0 {W:World}(hg:∀n,VR (g0 W) W (.pointer (some ⟨n,0,none⟩)) (M9.gl n)):Rl (g0 W) (fun _=>none) W:=
 ⟨fun id b h=>(by cases h),fun id id' b h=>(by simp[Gh.at]at h),fun b o h=>h,fun id _=>⟨rfl,rfl,rfl⟩,C4 _,hg⟩
def FP (g:Gh)(w:World)(cs:List Value)(xs:List V):Prop:=
 cs.length=xs.length∧∀i,i<xs.length→(cs.getD i undef).oneCell'=true∧VR g w (cs.getD i undef) (xs.getD i .bad)
theorem FP.nil (g:Gh)(w:World):FP g w [] []:=⟨rfl,fun i hi=>by simp at hi⟩
theorem FP.one {g:Gh}{w:World}{v:Value}{x:V}(h1:v.oneCell'=true)(h:VR g w v x):FP g w [v] [x]:=by
 simp_all[FP]
theorem FP.append {g:Gh}{w:World}{cs ds:List Value}{xs ys:List V}(h:FP g w cs xs)(k:FP g w ds ys):FP g w (cs++ds) (xs++ys):=by
 grind [FP]
theorem FP.join {g:Gh}{w:World}{cs:List Value}{xs ys:List V}{a n m:Nat}(h:FP g w ((cs.drop a).take n) xs)(k:FP g w ((cs.drop (a+n)).take m) ys):FP g w ((cs.drop a).take (n+m)) (xs++ys):=by
 have:=h.append k
 rwa[show(cs.drop (a+n))=(cs.drop a).drop n by rw[KX],←List.take_add]at this
theorem FP.agg {g:Gh} {w:World} {cs:Array Value} {xs:List V} (h:FP g w cs.toList xs):VR g w (.agg cs) (.agg xs):=by
 refine .agg (by simpa using h.1) (fun i hi=>?_) fun i hi=>?_
 ·have:=(h.2 i hi).1
  simp_all
 have:=(h.2 i hi).2
 simp_all
section
variable {H α:Type}{enc:TypeId×Value→H}{P:Program}{W:World}{base:Nat}{spare:Nat→Bool}{held:Bool}{t e:TypeId}{n:Nat}
def Opens (enc:TypeId×Value→H)(P:Program)(W:World)(base:Nat)(spare:Nat→Bool)(held:Bool)(t:TypeId)(f:α→V)(R:α→DataW H→Prop)(n:Nat):Prop:=
 ∀cs x,DataW.trod enc P W base spare held n t cs=some x→∃a,FP (g0 W) W cs (f a).cells∧R a x.1
theorem PI {k:IntKind}(ht:P.underlying t=some (.int k)):Opens enc P W base spare held t (V.int k) (fun a d=>d= .lit (.int k a)) n:=by
 intro cs x h;obtain⟨a,rfl,rfl,_⟩:=DataW.trod_int ht h;exact⟨a,.one rfl (.int _ _),rfl⟩
theorem Km (ht:P.underlying t=some .bool):Opens enc P W base spare held t V.bool (fun a d=>d= .lit (.bool a)) n:=by
 intro cs x h;obtain⟨a,rfl,rfl⟩:=DataW.trod_bool ht h;exact⟨a,.one rfl (.bool _),rfl⟩
theorem Ao3 (ht:P.underlying t=some .string):Opens enc P W base spare held t V.str (fun a d=>d= .lit (.string a.data.toList)∧a.size≤maxLen) n:=by
 intro cs x h;obtain⟨a,rfl,rfl,hl⟩:=DataW.trod_string ht h;exact⟨a,.one rfl (.str _),rfl,hl⟩
def RL (R:α→DataW H→Prop)(l:List α)(ds:List (DataW H)):Prop:=l.length=ds.length∧∀(i:Nat) a d,l[i]? =some a→ds[i]? =some d→R a d
def RS (R:α→DataW H→Prop)(l:List α)(d:DataW H):Prop:=l.length≤maxLen∧((d= .nil∧l=[])∨∃es sp,d= .slice es sp∧RL R l es)
theorem LW {f:α→V} {R:α→DataW H→Prop} (ht:P.underlying t=some (.slice e)) (hc:0<P.cellsOf e) (he:Opens enc P W base spare held e f R n):
 Opens enc P W base spare held t (fun l:List α=>.sl (l.map f) .ro) (RS R) (n+1):=by
 intro cs x h
 rcases DataW.trod_slice ht h with⟨rfl,rfl⟩|⟨a,len,cap,elems,rest,n',hn,rfl,rfl,hb,hl,hm,hlen,hel,hsp,hns⟩
 ·exact⟨[],.one rfl (.sl0 rfl),Cn _,.inl ⟨rfl,rfl⟩⟩
 have hn':n'=n:=by omega
 subst hn'
 rcases Lk len with h0|h0
 ·subst h0;have:elems=[]:=List.length_eq_zero_iff.1 hlen;subst this;exact⟨[],.one rfl (.sle (.inl rfl)),Cn _,.inr ⟨_,_,rfl,rfl,fun i a d hi=>by simp at hi⟩⟩
 have one:∀i,i<len→∃cs' y b,W.cells? base (a.add (i*P.cellsOf e)) (P.cellsOf e)=some cs'∧elems[i]? =some y∧FP (g0 W) W cs' (f b).cells∧R b y.1:=by
  grind [Option.bind_eq_some_iff,Opens]
 obtain⟨_,_,b0,_⟩:=one 0 h0
 haveI:Inhabited α:=⟨b0⟩
 obtain⟨A,hA⟩:=Deep.choose_lt (α:=α) (p:=fun i b=>∃cs' y,W.cells? base (a.add (i*P.cellsOf e)) (P.cellsOf e)=some cs'∧elems[i]? =some y∧FP (g0 W) W cs' (f b).cells∧R b y.1)
  (fun i hi=>let⟨cs',y,b,h1,h2,h3,h4⟩:=one i hi;⟨b,cs',y,h1,h2,h3,h4⟩)
 have hspot:a.spot=none:=by
  obtain⟨cs',y,h1,_,_,_⟩:=hA 0 h0;obtain⟨_,hcl,hcell⟩:=Lg h1;have h2:=hcell 0 hc
  have e0:(a.add (0*P.cellsOf e)).add 0=a:=by simp[Addr.add]
  rw[e0]at h2
  have h3:cs'[0]? =some (cs'[0]'(by omega)):=by grind
  rw[h3]at h2
  unfold World.cell? at h2
  split at h2
  ·simp_all
  cases h2
 obtain⟨b,o,s⟩:=a
 simp only at hspot
 subst hspot
 let l:=(List.range len).map A
 have hll:l.length=len:=by simp[l]
 have hg:∀i,i<len→(l.map f).getD i .bad=f (A i):=fun i hi=>by grind
 have cell:∀i j,i<len→j<P.cellsOf e→∃v,W.cell? ⟨b,o+i*P.cellsOf e+j,none⟩=some v∧v.oneCell'=true∧VR (g0 W) W v ((f (A i)).cells.getD j .bad):=by
  intro i j hi hj;obtain⟨cs',y,h1,_,hr,_⟩:=hA i hi;obtain⟨_,hcl,hcell⟩:=Lg h1;have h2:=hcell j hj
  rw[AL,AL]at h2
  have h3:cs'[j]? =some (cs'.getD j undef):=by simp_all
  rw[h3]at h2
  have:=hr.2 j (by rw[←hr.1,hcl];exact hj)
  simp_all
 refine⟨l,.one rfl ?_,by omega,.inr ⟨_,_,rfl,by simp_all,fun i a' d hi hd=>?_⟩⟩
 ·have hz:∀i,i<len→((l.map f).getD i .bad).cells.length=P.cellsOf e:=fun i hi=>by
   obtain⟨cs',y,h1,_,hr,_⟩:=hA i hi;obtain⟨_,hcl,_⟩:=Lg h1;rw[hg i hi,←hr.1,hcl]
  refine .sl (sz:=P.cellsOf e) (fun i j=>(W.cell? ⟨b,o+i*P.cellsOf e+j,none⟩).getD undef) (by simp[hll]) hl hz (fun i j hi hj=>?_) (fun i j hi hj=>?_) (fun i j hi hj=>?_) (fun i j hi hj=>?_) trivial
  ·grind [g0]
  ·grind
  ·grind
  grind
 grind
theorem Aa0 {fs:Array Field} {xs:List (DataW H×List MemPlace)} {cs:List Value} {n:Nat} (hl:xs.length=fs.size)
 (hf:∀(i:Nat) (f:Field),fs[i]? =some f→DataW.trod enc P W base spare held n f.type ((cs.drop f.offset).take (P.cellsOf f.type))=xs[i]?) (i:Nat) {f:Field} (h:fs[i]? =some f):
 ∃y,xs[i]? =some y∧DataW.trod enc P W base spare held n f.type ((cs.drop f.offset).take (P.cellsOf f.type))=some y:=by
 have hi:i<fs.size:=by
  grind
 have h1:xs[i]? =some (xs[i]'(by omega)):=by grind
 grind
end
end Go.Ab
namespace Go.Ab
noncomputable instance arInst :Ar where
 cmp:=Ir
 cmp_eq:=fun _ _ _=>rfl
 ar:=arI
 ar_eq:=fun _ _ _ _=>rfl
 sh:=shI
 sh_eq:=fun _ _ _ _=>rfl
 neg:=fun k n=>k.wrap (0 - n)
 neg_eq:=fun _ _=>rfl
 wr:=fun k n=>k.wrap n
 wr_eq:=fun _ _=>rfl
 scmp:=AX2
 scmp_eq:=fun _ _ _=>rfl
 cat:=fun a b=>a++b
 cat_eq:=fun _ _=>rfl
 slen:=fun s=>s.size
 slen_eq:=fun _=>rfl
 sat:=fun s i=>match s[i.toNat]? with|some b=>(b.toNat:Int)|none=>0
 sat_eq:=fun _ _=>rfl
 beq:=fun a b=>a==b
 beq_eq:=fun _ _=>rfl
 nt:=fun a=> !a
 nt_eq:=fun _=>rfl
 an:=fun a b=>a&&b
 an_eq:=fun _ _=>rfl
 or:=fun a b=>a||b
 or_eq:=fun _ _=>rfl
 pk:=fun c a b=>if c then a else b
 pk_eq:=fun _ _ _=>rfl
 mx:=fun a b=>if a<b then b else a
 mx_eq:=fun _ _=>rfl
 mn:=fun a b=>if b<a then b else a
 mn_eq:=fun _ _=>rfl
 ofs:=fun a b=>a+b
 ofs_eq:=fun _ _=>rfl
 ofN:=fun n=>n
 ofN_eq:=fun _=>rfl
 len:=fun l=>l.length
 len_eq:=fun _=>rfl
 lst:=fun f l=>l.map f
 lst_eq:=fun _ _=>rfl
end Go.Ab
namespace Go.Ab
theorem D1 (a b:Int):Ar.cmp .lss a b=decide (a<b):=rfl
theorem Kw (a b:Int):Ar.cmp .leq a b=decide (a≤b):=rfl
theorem CM (a b:Int):Ar.cmp .gtr a b=decide (b<a):=rfl
theorem R6 (a b:Int):Ar.cmp .geq a b=decide (b≤a):=rfl
theorem C8 (a b:Int):Ar.cmp .eql a b=decide (a=b):=rfl
theorem H8 (a b:Int):Ar.cmp .neq a b= !decide (a=b):=rfl
theorem Q5 (a:Bool):Ar.nt a= !a:=rfl
theorem N7 (a b:Bool):Ar.an a b=(a&&b):=rfl
theorem P1 (a b:Bool):Ar.or a b=(a||b):=rfl
theorem B5 {α:Type}(l:List α):Ar.len l=(l.length:Int):=rfl
theorem PK (a b:Int):Ar.mx a b=if a<b then b else a:=rfl
theorem WN (s:ByteArray):Ar.slen s=(s.size:Int):=rfl
theorem Eh {n:Int} (h0: -9223372036854775808≤n) (h1:n<9223372036854775808):IntKind.wrap .i64 n=n:=by
 have e:IntKind.wrap .i64 n=(if n % 18446744073709551616≥9223372036854775808 then n % 18446744073709551616 - 18446744073709551616 else n % 18446744073709551616):=by
  unfold IntKind.wrap;simp[IntKind.bits,IntKind.signed]
 rw[e]
 split<;>omega
theorem E9 {a b:Int}(h0: -9223372036854775808≤a+b)(h1:a+b<9223372036854775808):Ar.ar .add .i64 a b=a+b:=Eh h0 h1
theorem XL {S σ R α:Type} (l:List α) (hl:l.length<1000000000000) (step:S→Option (S⊕R)) (mk:σ→Int→S) (body:σ→α→Option (σ⊕R)) (fin:σ→R)
 (hstep:∀s (i:Nat) x,l[i]? =some x→step (mk s i)=(body s x).bind fun o=>match o with| .inl s'=>some (.inl (mk s' (i+1)))| .inr r=>some (.inr r))
 (hend:∀s,step (mk s l.length)=some (.inr (fin s))):
 ∀(k:Nat) (i:Nat) (s:σ) (N:Nat),i+k=l.length→k<N→loopN step N (mk s i)=(K9 body (l.drop i) s).bind fun o=>match o with| .inl s=>some (fin s)| .inr r=>some r:=by
 intro k
 induction k with
 |zero=>
  intro i s N hi hN;obtain⟨N,rfl⟩:∃M,N=M+1:=⟨N - 1,by omega⟩;have e:l.drop i=[]:=CA (by omega)
  have ei:((i:Nat):Int)=l.length:=by omega
  rw[e,ei]
  grind [loopN,K9]
 | succ k ih=>
  intro i s N hi hN;obtain⟨N,rfl⟩:∃M,N=M+1:=⟨N - 1,by omega⟩
  have hlt:i<l.length:=by omega
  have hx:l[i]? =some l[i]:=by simp[hlt]
  have e:l.drop i=l[i]::l.drop (i+1):=R9 hlt;rw[e];simp only[loopN,hstep s i _ hx,K9]
  cases hb:body s l[i]with
  |none=>rfl
  | some o=>
   cases o with
   |inl s'=>
    simp only[A4];have:=ih (i+1) s' N (by omega) (by omega);rw[show((i:Int)+1)=((i+1:Nat):Int) by omega];exact this
   |inr r=>rfl
theorem G2 {α:Type}{l:List α}{i:Nat}:C5 l (i:Int)=l[i]? :=by simp[C5]
theorem VN {β S σ R α:Type} (l:List α) (step:S→Option (List β×(S⊕R))) (mk:σ→Int→S) (body:σ→α→Option (List β×(σ⊕R))) (fin:σ→R)
 (hstep:∀s (i:Nat) x,l[i]? =some x→step (mk s i)=(body s x).bind fun o=>match o with|(w,.inl s')=>some (w,.inl (mk s' (i+1)))|(w,.inr r)=>some (w,.inr r))
 (hend:∀s,step (mk s l.length)=some ([],.inr (fin s))):
 ∀(k:Nat) (i:Nat) (s:σ) (N:Nat),i+k=l.length→k<N→W2 step N (mk s i)=(Ca body (l.drop i) s).bind fun o=>match o with|(w,.inl s)=>some (w,fin s)|(w,.inr r)=>some (w,r):=by
 intro k
 induction k with
 |zero=>
  intro i s N hi hN;obtain⟨N,rfl⟩:∃M,N=M+1:=⟨N - 1,by omega⟩;have e:l.drop i=[]:=CA (by omega)
  have ei:((i:Nat):Int)=l.length:=by omega
  rw[e,ei]
  grind [W2,Ca]
 | succ k ih=>
  intro i s N hi hN;obtain⟨N,rfl⟩:∃M,N=M+1:=⟨N - 1,by omega⟩
  have hlt:i<l.length:=by omega
  have hx:l[i]? =some l[i]:=by simp[hlt]
  have e:l.drop i=l[i]::l.drop (i+1):=R9 hlt;rw[e];simp only[W2,hstep s i _ hx,Ca]
  cases hb:body s l[i]with
  |none=>rfl
  | some o=>
   obtain⟨w,o⟩:=o
   cases o with
   |inl s'=>
    simp only[A4];have:=ih (i+1) s' N (by omega) (by omega);rw[show((i:Int)+1)=((i+1:Nat):Int) by omega,this]
    grind
   |inr r=>rfl
theorem P6 {S σ R α:Type} (l:List α) (hl:l.length<1000000000000) {step:S→Option (S⊕R)} (mk:σ→Int→S) (body:σ→α→Option (σ⊕R)) (fin:σ→R) (s:σ) {N:Nat} (hN:l.length<N)
 (hstep:∀s (i:Nat) x,l[i]? =some x→(i:Int)<l.length→step (mk s i)=(body s x).bind fun o=>match o with| .inl s'=>some (.inl (mk s' (i+1)))| .inr r=>some (.inr r))
 (hend:∀s,step (mk s l.length)=some (.inr (fin s))):loopN step N (mk s 0)=(K9 body l s).bind fun o=>match o with| .inl s=>some (fin s)| .inr r=>some r:=by
 have:=XL l hl step mk body fin (fun s i x h=>hstep s i x h (by
  grind)) hend l.length 0 s N (by omega) hN
 simp_all
theorem ZL {β S σ R α:Type} (l:List α) {step:S→Option (List β×(S⊕R))} (mk:σ→Int→S) (body:σ→α→Option (List β×(σ⊕R))) (fin:σ→R) (s:σ) {N:Nat} (hN:l.length<N)
 (hstep:∀s (i:Nat) x,l[i]? =some x→(i:Int)<l.length→step (mk s i)=(body s x).bind fun o=>match o with|(w,.inl s')=>some (w,.inl (mk s' (i+1)))|(w,.inr r)=>some (w,.inr r))
 (hend:∀s,step (mk s l.length)=some ([],.inr (fin s))):W2 step N (mk s 0)=(Ca body l s).bind fun o=>match o with|(w,.inl s)=>some (w,fin s)|(w,.inr r)=>some (w,r):=by
 have:=VN l step mk body fin (fun s i x h=>hstep s i x h (by
  grind)) hend l.length 0 s N (by omega) hN
 simp_all
theorem DU {α σ R:Type} {step:σ→α→Option (σ⊕R)} (I:List α→σ→Prop) (hs:∀x r s,I (x::r) s→∃s',step s x=some (.inl s')∧I r s'):∀{l:List α} {s:σ},I l s→∃s',K9 step l s=some (.inl s')∧I [] s'
 |[],s,h=>⟨s,rfl,h⟩
 |x::l,s,h=>by
  obtain⟨s',h1,h2⟩:=hs x l s h;obtain⟨s2,h3,h4⟩:=DU I hs h2
  simp_all[K9]
theorem Sp {α β σ R:Type} {step:σ→α→Option (List β×(σ⊕R))} (I:List α→List β→σ→Prop) (hs:∀x r w s,I (x::r) w s→∃w' s',step s x=some (w',.inl s')∧I r (w++w') s'):
 ∀{l:List α} {w:List β} {s:σ},I l w s→∃w' s',Ca step l s=some (w',.inl s')∧I [] (w++w') s'
 |[],w,s,h=>⟨[],s,rfl,by grind⟩
 |x::l,w,s,h=>by
  obtain⟨w1,s1,h1,h2⟩:=hs x l w s h;obtain⟨w2,s2,h3,h4⟩:=Sp I hs h2
  grind [Ca]
def Av {α:Type}(f:α→Int):List α→Int
 |[]=>0
 |x::l=>if f x=0 then Av f l else f x
theorem Fk {α:Type} {f:α→Int}:∀{l:List α},Av f l=0↔∀x∈l,f x=0
 |[]=>by simp[Av]
 |x::l=>by
  unfold Av
  split
  ·rename_i h;rw[Fk];simp[h]
  simp_all
theorem QZ {α:Type} {f:α→Int}:∀{l m:List α},Av f (l++m)=if Av f l=0 then Av f m else Av f l
 |[],m=>by simp[Av]
 |x::l,m=>by
  simp only[Cx,Av]
  split
  ·rw[QZ]
  omega
theorem Uo {α:Type} {F:α→Option Int} {f:α→Int}:∀{l:List α},(∀x∈l,F x=some (f x))→
 K9 (fun(_:Unit) x=>(F x).bind fun r=>if Ar.cmp .neq r 0=true then some (Sum.inr r)else some (.inl ())) l ()=some (if Av f l=0 then .inl ()else .inr (Av f l))
 |[],_=>rfl
 |x::l,h=>by
  have h1:=Uo (l:=l) fun y hy=>h y (by simp[hy]);unfold K9;simp only[h x (by simp),A4,H8,Av]
  by_cases hz:f x=0
  ·simp_all[H8]
  simp[hz]
noncomputable def Ex {α:Type}(F:α→Option Int)(_:Unit)(a:α):Option (Unit⊕(Unit⊕Int)):=(F a).bind fun r=>if Ar.cmp .neq r 0=true then some (.inr (.inr r))else some (.inl ())
theorem CW {α:Type} {F:α→Option Int} {f:α→Int}:∀{l:List α},(∀x∈l,F x=some (f x))→K9 (Ex F) l ()=some (if Av f l=0 then .inl ()else .inr (.inr (Av f l)))
 |[],_=>rfl
 |x::l,h=>by
  have h1:=CW (l:=l) fun y hy=>h y (by simp[hy]);unfold K9 Ex;simp only[h x (by simp),A4,H8,Av]
  by_cases hz:f x=0
  ·simp only[hz,I6,W5,F6,E4,C7];exact h1
  simp[hz]
end Go.Ab
namespace Go.Ab
open Go.RowKit Go.ChangeShapes Go.WideShapes
variable [M9]
section
variable {H α:Type}{enc:TypeId×Value→H}{P:Program}{W:World}{base:Nat}{spare:Nat→Bool}{held:Bool}{t e:TypeId}{n:Nat}
theorem Ul {cs:List Value} {sz:Nat} {f:α→V}:∀(l:List α) (o:Nat),(∀(i:Nat) a,l[i]? =some a→FP (g0 W) W ((cs.drop (o+i*sz)).take sz) (f a).cells)→FP (g0 W) W ((cs.drop o).take (l.length*sz)) (l.flatMap fun a=>(f a).cells)
 |[],o,_=>by simp;exact .nil _ _
 | a::l,o,h=>by
  have h0:=h 0 a rfl
  rw[Nat.zero_mul,Cu]at h0
  have h1:=Ul l (o+sz) fun i b hi=>by
   have:=h (i+1) b (by grind)
   rwa[show o+(i+1)*sz=o+sz+i*sz by rw[E5];omega]at this
  have:=h0.join h1;rw[J7,BL,show(l.length+1)*sz=sz+l.length*sz by rw[E5];omega];exact this
theorem Xy {f:α→V} {R:α→DataW H→Prop} {m:Nat} (ht:P.underlying t=some (.array m e)) (hct:P.cellsOf t=m*P.cellsOf e) (hm:0<m) (he:∀n,Opens enc P W base spare held e f R n) {cs:List Value} {x:DataW H×List MemPlace}
 (h:DataW.trod enc P W base spare held n t cs=some x):∃l:List α,FP (g0 W) W cs (l.flatMap fun a=>(f a).cells)∧∃ds,x.1= .agg ds∧RL R l ds:=by
 cases n with
 |zero=>simp[DataW.trod]at h
 | succ n=>
  simp only[DataW.trod,ht]at h
  split at h
  ·rename_i hl;obtain⟨xs,hmm,rfl⟩:=Option.map_eq_some_iff.1 h
   have hxl:xs.length=m:=by simpa using mapM_some_length hmm
   have one:∀i,i<m→∃b,FP (g0 W) W ((cs.drop (i*P.cellsOf e)).take (P.cellsOf e)) (f b).cells∧∀y,xs[i]? =some y→R b y.1:=by
    intro i hi;have h1:=mapM_some_get hmm i i (by simp[hi])
    have h2:xs[i]? =some (xs[i]'(by omega)):=by grind
    rw[h2]at h1
    obtain⟨b,hr,hR⟩:=he n _ _ h1
    grind
   obtain⟨b0,_⟩:=one 0 hm
   haveI:Inhabited α:=⟨b0⟩
   obtain⟨A,hA⟩:=Deep.choose_lt one
   have hat:∀(i:Nat) a,((List.range m).map A)[i]? =some a→i<m∧a=A i:=fun i a hi=>by
    grind
   refine⟨(List.range m).map A,?_,_,rfl,by simp[hxl],fun i a d hi hd=>?_⟩
   ·have:=Ul (cs:=cs) (sz:=P.cellsOf e) (f:=f) (W:=W) ((List.range m).map A) 0 (fun i a hi=>by
     grind)
    grind
   grind
  cases h
theorem XX {g:Nat} {cs:Array Value} {xs:List V} {name:String} (hg:P.globalNamed name=some g) (hv:W.var? P name=some cs) (hr:FP (g0 W) W cs.toList xs):VR (g0 W) W (.pointer (some ⟨g,0,none⟩)) (.eref xs 0):=by
 have cell:∀j,j<xs.length→W.cell? ⟨g,0+j,none⟩=some (cs.toList.getD j undef):=fun j hj=>by
  have h1:=World.var?_cell hg hv j
  have h2:j<cs.size:=by have:=hr.1;simp_all
  rw[Q0,h1]
  simp_all
 exact .eref (g:=g0 W) (o:=0) (off:=0) (fun j=>cs.toList.getD j undef) (fun j hj=>(⟨_,cell j hj⟩:∃v,W.cell? ⟨g,0+j,none⟩=some v)) (fun j hj=>cell j hj) (fun j hj=>(hr.2 j hj).1) fun j hj=>(hr.2 j hj).2
end
end Go.Ab
namespace Go.Ab
open Go.RowKit Go.ChangeShapes Go.WideShapes
variable [M9]
section
variable {H:Type}{enc:TypeId×Value→H}{P:Program}{W:World}{base:Nat}{spare:Nat→Bool}{held:Bool}{t e:TypeId}{n:Nat}
end
end Go.Ab
namespace Go.Ab
variable [Ar]
structure Eg where
 Var:Int
 At:Int
deriving DecidableEq
def Jy (N:Nat)(aA:A0):Option Bool:=
 some (Ar.or (Ar.cmp .eql aA.Op 5) (Ar.cmp .eql aA.Op 9))
def HS (N:Nat) (aA:A0):Option Bool:=
 if Ar.cmp .eql aA.Op 0=true then
  some true
 else
  (Jy N aA).bind fun r1=>
  some r1
def Fd (N:Nat)(aA:A0):Option Bool:=
 some (Ar.or (Ar.cmp .eql aA.Op 6) (Ar.cmp .eql aA.Op 10))
def LN (N:Nat) (aA:A0):Option Bool:=
 if Ar.cmp .eql aA.Op 0=true then
  some (Ar.cmp .eql (Ar.len aA.dD) 0)
 else
  ((
   if Ar.cmp .eql aA.Op 1=true then
    some true
   else
    if Ar.cmp .eql aA.Op 2=true then
     some true
    else
     some (Ar.cmp .eql aA.Op 3)
  ):Option (Bool)).bind fun s1=>
  if s1=true then
   some (Ar.cmp .geq (Ar.len aA.dD) 2)
  else
   if Ar.cmp .eql aA.Op 8=true then
    some (Ar.cmp .eql (Ar.len aA.dD) 2)
   else
    some (Ar.cmp .eql (Ar.len aA.dD) 1)
def Hi (N:Nat)(aA:A0):Option Bool:=
 (HS N aA).bind fun r1=>
 some (Ar.or r1 (Ar.cmp .eql aA.Op 7))
def DT (N:Nat)(bR:Bool)(aR:Int)(cC:Int):Option Bool:=
 some (Ar.an bR (Ar.or (Ar.cmp .lss aR 0) (Ar.cmp .gtr aR cC)))
def EE (N : Nat) (aA:A0):Option Int:=
 if Ar.or (Ar.cmp .lss aA.Op 0) (Ar.cmp .gtr aA.Op 10)=true then
  some 1
 else
  (LN N aA).bind fun r1=>
  if Ar.nt r1=true then
   some 15
  else
   (HS N aA).bind fun r2=>
   (Jy N aA).bind fun r3=>
   if r3 = true then
    (Hi N aA).bind fun r4=>
    (DT N r2 aA.Typ 15).bind fun r5=>
    if r5=true then
     some 2
    else
     (DT N r2 aA.Var 15).bind fun r6=>
     if r6=true then
      some 2
     else
      (DT N true aA.dG 63).bind fun r7=>
      if r7=true then
       some 2
      else
       (Fd N aA).bind fun r8=>
       (DT N r8 aA.Span 1099511627776).bind fun r9=>
       if r9=true then
        some 2
       else
        ((
         if r4=true then
          (DI N aA.dE).bind fun r11=>
          if Ar.cmp .neq r11 0=true then
           some (.inr r11)
          else
           some (.inl ())
         else
          some (.inl ())
        ):Option (Unit⊕Int)).bind fun s10=>
        match s10 with
        | .inl y12=>
         if Ar.or (Ar.an (Ar.nt r2) (Ar.or (Ar.cmp .neq aA.Typ 0) (Ar.cmp .neq aA.Var 0))) (Ar.an (Ar.nt true) (Ar.cmp .neq aA.dG 0))=true then
          some 3
         else
          (Fd N aA).bind fun r13=>
          if Ar.an (Ar.nt r13) (Ar.cmp .neq aA.Span 0)=true then
           some 3
          else
           if Ar.nt r4=true then
            (X5 N N aA.dE (⟨0,[],0,0,0,(⟨0,0,⟨#[]⟩⟩:A7)⟩:B0)).bind fun r14=>
            if Ar.nt r14=true then
             some 3
            else
             some 0
           else
            some 0
        | .inr y15=>
         some y15
   else
    (Fd N aA).bind fun r16=>
    (Hi N aA).bind fun r17=>
    (DT N r2 aA.Typ 15).bind fun r18=>
    if r18=true then
     some 2
    else
     (DT N r2 aA.Var 15).bind fun r19=>
     if r19=true then
      some 2
     else
      (DT N r16 aA.dG 63).bind fun r20=>
      if r20=true then
       some 2
      else
       (Fd N aA).bind fun r21=>
       (DT N r21 aA.Span 1099511627776).bind fun r22=>
       if r22=true then
        some 2
       else
        ((
         if r17=true then
          (DI N aA.dE).bind fun r24=>
          if Ar.cmp .neq r24 0=true then
           some (.inr r24)
          else
           some (.inl ())
         else
          some (.inl ())
        ):Option (Unit⊕Int)).bind fun s23=>
        match s23 with
        | .inl y25=>
         if Ar.or (Ar.an (Ar.nt r2) (Ar.or (Ar.cmp .neq aA.Typ 0) (Ar.cmp .neq aA.Var 0))) (Ar.an (Ar.nt r16) (Ar.cmp .neq aA.dG 0))=true then
          some 3
         else
          (Fd N aA).bind fun r26=>
          if Ar.an (Ar.nt r26) (Ar.cmp .neq aA.Span 0)=true then
           some 3
          else
           if Ar.nt r17=true then
            (X5 N N aA.dE (⟨0,[],0,0,0,(⟨0,0,⟨#[]⟩⟩:A7)⟩:B0)).bind fun r27=>
            if Ar.nt r27=true then
             some 3
            else
             some 0
           else
            some 0
        | .inr y28=>
         some y28
end Go.Ab
namespace Go.Ab
mutual
def B0.bulk :B0→Nat
 |⟨_,args,_,_,_,v⟩=>B0.bulks args+v.Text.size+9
def B0.bulks :List B0→Nat
 |[]=>1
 |a::r=>B0.bulk a+B0.bulks r
end
mutual
def A0.bulk :A0→Nat
 |⟨_,args,_,_,_,_,c⟩=>A0.bulks args+B0.bulk c+6
def A0.bulks :List A0→Nat
 |[]=>1
 |a::r=>A0.bulk a+A0.bulks r
end
end Go.Ab
namespace Go.Ab
mutual
def B0.pre :B0→List B0
 |⟨op,args,var,field,kind,val⟩=>⟨op,args,var,field,kind,val⟩::B0.pres args
def B0.pres :List B0→List B0
 |[]=>[]
 |a::r=>B0.pre a++B0.pres r
end
mutual
def B0.dep :B0→Nat
 |⟨_,args,_,_,_,_⟩=>B0.deps args+1
def B0.deps :List B0→Nat
 |[]=>0
 |a::r=>max (B0.dep a) (B0.deps r)
end
mutual
def A0.pre :A0→List A0
 |⟨op,args,typ,var,scope,span,c⟩=>⟨op,args,typ,var,scope,span,c⟩::A0.pres args
def A0.pres :List A0→List A0
 |[]=>[]
 |a::r=>A0.pre a++A0.pres r
end
mutual
def A0.dep :A0→Nat
 |⟨_,args,_,_,_,_,_⟩=>A0.deps args+1
def A0.deps :List A0→Nat
 |[]=>0
 |a::r=>max (A0.dep a) (A0.deps r)
end
theorem B0.pre_eq (x:B0):x.pre=x::B0.pres x.dD:=by cases x;simp[B0.pre]
theorem A0.pre_eq (x:A0):x.pre=x::A0.pres x.dD:=by cases x;simp[A0.pre]
theorem B0.dep_eq (x:B0):x.dep=B0.deps x.dD+1:=by cases x;simp[B0.dep]
theorem A0.dep_eq (x:A0):x.dep=A0.deps x.dD+1:=by cases x;simp[A0.dep]
theorem B0.bulk_eq (x:B0):x.bulk=B0.bulks x.dD+x.Value.Text.size+9:=by cases x;simp[B0.bulk]
theorem A0.bulk_eq (x:A0):x.bulk=A0.bulks x.dD+x.dE.bulk+6:=by cases x;simp[A0.bulk]
theorem RD :∀(l:List B0),(∀a∈l,B0.bulk a≤B0.bulks l)∧l.length≤B0.bulks l
 |[]=>⟨fun a h=>by simp at h,by simp_all⟩
 |b::l=>by
  have h:=RD l;have hb:=B0.bulk_eq b
  grind [B0.bulks]
theorem RC :∀(l:List A0),(∀a∈l,A0.bulk a≤A0.bulks l)∧l.length≤A0.bulks l
 |[]=>⟨fun a h=>by simp at h,by simp_all⟩
 |b::l=>by
  have h:=RC l;have hb:=A0.bulk_eq b
  grind [A0.bulks]
mutual
theorem ZA :∀x:B0,x.pre.length≤x.bulk
 |⟨op,args,var,field,kind,val⟩=>by
  have:=Jg args
  grind [B0.pre,B0.bulk]
theorem Jg :∀l:List B0,(B0.pres l).length≤B0.bulks l
 |[]=>by simp[B0.pres]
 |a::l=>by
  have h1:=ZA a;have h2:=Jg l
  grind [B0.pres,B0.bulks]
end
mutual
theorem NH :∀x:A0,x.pre.length≤x.bulk
 |⟨op,args,typ,var,scope,span,c⟩=>by
  have:=Jf args
  grind [A0.pre,A0.bulk]
theorem Jf :∀l:List A0,(A0.pres l).length≤A0.bulks l
 |[]=>by simp[A0.pres]
 |a::l=>by
  have h1:=NH a;have h2:=Jf l
  grind [A0.pres,A0.bulks]
end
mutual
theorem Of :∀x:B0,x.dep≤x.bulk
 |⟨op,args,var,field,kind,val⟩=>by
  have:=Jo args
  grind [B0.dep,B0.bulk]
theorem Jo :∀l:List B0,B0.deps l≤B0.bulks l
 |[]=>by simp[B0.deps]
 |a::l=>by
  have h1:=Of a;have h2:=Jo l
  grind [B0.deps,B0.bulks]
end
mutual
theorem Ab1 :∀x:A0,x.dep≤x.bulk
 |⟨op,args,typ,var,scope,span,c⟩=>by
  have:=Mr args
  grind [A0.dep,A0.bulk]
theorem Mr :∀l:List A0,A0.deps l≤A0.bulks l
 |[]=>by simp[A0.deps]
 |a::l=>by
  have h1:=Ab1 a;have h2:=Mr l
  grind [A0.deps,A0.bulks]
end
def Cut (lim:Int)(cnt:Nat)(r:Int):Prop:=1≤r∧r≤cnt∧(r=cnt∨lim<r)
section
variable {α:Type}
theorem LR {lim:Int} {f:α→Option Int} {cnt:α→Nat} {B:Nat} (hB:B≤1000000000000):∀(l:List α) (s:Int),0≤s→s+(l.map cnt).sum≤B→(∀a∈l,∃r,f a=some r∧Cut lim (cnt a) r)→
 ∃o,K9 (fun(s:Int) x=>if s≤lim then(f x).bind fun r=>some (.inl (Ar.ar .add .i64 s r))else some (.inr s)) l s=some o∧
  ∃v,v=(match o with| .inl s=>s| .inr s=>s)∧s≤v∧v≤s+(l.map cnt).sum∧(v=s+(l.map cnt).sum∨lim<v)
 |[],s,h0,_,_=>⟨.inl s,rfl,s,rfl,Z2 _,by simp,.inl (by simp)⟩
 | a::l,s,h0,hb,hf=>by
  simp only[D8,List.sum_cons]at hb ⊢
  unfold K9
  by_cases hs:s≤lim
  ·obtain⟨r,h1,h2,h3,h4⟩:=hf a (by simp);simp only[A2 hs,h1,A4];have e:Ar.ar .add .i64 s r=s+r:=E9 (by omega) (by omega);rw[e];obtain⟨o,k1,v,k2,k3,k4,k5⟩:=LR hB l (s+r) (by omega) (by omega) fun b hb=>hf b (by simp[hb])
   grind
  simp only[A1 hs]
  grind
end
theorem Nw :∀l:List A0,(l.map fun a=>a.pre.length).sum=(A0.pres l).length
 |[]=>rfl
 |a::l=>by simp[A0.pres,Nw l]
theorem Nx :∀l:List B0,(l.map fun a=>a.pre.length).sum=(B0.pres l).length
 |[]=>rfl
 |a::l=>by simp[B0.pres,Nx l]
theorem Av8 {N:Nat} (hN:40000000≤N) (lim:Int):∀(n:Nat) (x:A0),x.bulk≤n→x.bulk≤16777216→∃r,Cr N n x lim=some r∧Cut lim x.pre.length r:=by
 intro n
 induction n with
 |zero=>intro x h;have:=A0.bulk_eq x;omega
 | succ n ih=>
  intro x hx hb;have hxb:=A0.bulk_eq x;have hB:=RC x.dD;have hpb:=Jf x.dD;unfold Cr;rw[P6 x.dD (by omega) (mk:=fun(s:Int) i=>(s,i)) (body:=fun(s:Int) a=>if s≤lim then(Cr N n a lim).bind fun r=>some (.inl (Ar.ar .add .i64 s r))else some (.inr s)) (fin:=fun s=>s) (s:=1) (by omega) ?_ ?_]
  ·obtain⟨o,k1,v,k2,k3,k4,k5⟩:=LR (lim:=lim) (f:=fun a=>Cr N n a lim) (cnt:=fun a=>a.pre.length) (B:=40000000) (by omega) x.dD 1 (by omega) (by rw[Nw];omega) fun a ha=>ih a (by have:=hB.1 a ha;omega) (by have:=hB.1 a ha;omega)
   rw[Nw]at k4 k5
   have hpe:x.pre.length=(A0.pres x.dD).length+1:=by rw[A0.pre_eq];rfl
   simp only[k1,A4];refine⟨v,?_,by omega,by omega,?_⟩
   ·cases o<;>simp_all
   omega
  ·intro s i a ha hi;have e:Ar.ar .add .i64 (i:Int) 1=i+1:=E9 (by omega) (by omega);simp only[D1,Kw,N7,B5,hi,I6,IC,G2,ha,A4,e,D9]
   grind
  intro s;simp[D1,N7,B5]
end Go.Ab
namespace Go.Ab
theorem Fy {x a:A0}(h:a∈x.dD):a.bulk<x.bulk:=by
 have h1:=(RC x.dD).1 a h;have h2:=A0.bulk_eq x;omega
theorem BT {x a:B0}(h:a∈x.dD):a.bulk<x.bulk:=by
 have h1:=(RD x.dD).1 a h;have h2:=B0.bulk_eq x;omega
theorem OM (x:A0):x.dD.length≤x.bulk:=by
 have h1:=(RC x.dD).2;have h2:=A0.bulk_eq x;omega
theorem Ih (x:B0):x.dD.length≤x.bulk:=by
 have h1:=(RD x.dD).2;have h2:=B0.bulk_eq x;omega
theorem Mu (x:A0):0<x.bulk:=by have:=A0.bulk_eq x;omega
theorem Gv (x:B0):0<x.bulk:=by have:=B0.bulk_eq x;omega
theorem U8 {α:Type}{l m:List α}(h:l.length+m.length≤1073741824):N6 l m=some (l++m):=by simp[N6,h]
theorem Az2 {N:Nat} (hN:40000000≤N):∀(n:Nat) (x:A0),x.bulk≤n→x.bulk≤16777216→Cs N n x=some x.pre:=by
 intro n
 induction n with
 |zero=>intro x h;have:=Mu x;omega
 | succ n ih=>
  intro x hx hb;have hl:=OM x;unfold Cs;rw[P6 x.dD (by omega) (mk:=fun(s:List A0) i=>(s,i)) (body:=fun(s:List A0) a=>(Cs N n a).bind fun r=>(N6 s r).bind fun l=>some (.inl l)) (fin:=fun s=>s) (s:=[x]) (by omega) ?_ ?_]
  ·have hp:=NH x;have hpe:=A0.pre_eq x
   obtain⟨s',k1,k2⟩:=DU (R:=List A0) (step:=fun(s:List A0) a=>(Cs N n a).bind fun r=>(N6 s r).bind fun l=>some (.inl l)) (fun r s=>(∀a∈r,a∈x.dD)∧s++A0.pres r=x.pre) (fun a r s ⟨h1,h2⟩=>by
    have hm:=Fy (h1 a (by simp));have hlen:=J5 List.length h2
    simp only[A0.pres,K7]at hlen
    refine⟨_,by rw[ih a (by omega) (by omega)];simp only[A4];rw[U8 (by omega)];rfl,fun b hb=>h1 b (by simp[hb]),?_⟩
    rw[←h2];simp[A0.pres]) (l:=x.dD) (s:=[x]) ⟨fun a h=>h,by rw[hpe];rfl⟩
   simp only[k1,A4];have:=k2.2
   simp only[A0.pres,F2]at this
   rw[this]
  ·intro s i a ha hi;have e:Ar.ar .add .i64 (i:Int) 1=i+1:=E9 (by omega) (by omega);simp only[D1,B5,hi,I6,C7,G2,ha,A4,e]
   grind
  intro s;simp[D1,B5]
theorem AI9 {N:Nat} (hN:40000000≤N):∀(n:Nat) (x:A0),x.bulk≤n→x.bulk≤16777216→AO N n x=some ((x.pre.length:Int),(x.dep:Int)):=by
 intro n
 induction n with
 |zero=>intro x h;have:=Mu x;omega
 | succ n ih=>
  intro x hx hb;have hl:=OM x;unfold AO;rw[P6 x.dD (by omega) (mk:=fun(s:Int×Int) i=>(s.1,s.2,i)) (body:=fun(s:Int×Int) a=>(AO N n a).bind fun r=>some (.inl (Ar.ar .add .i64 s.1 r.1,Ar.mx s.2 r.2))) (fin:=fun s=>s) (s:=(1,0)) (by omega) ?_ ?_]
  ·have hp:=Jf x.dD;have hd:=Mr x.dD;have hbe:=A0.bulk_eq x
   obtain⟨s',k1,k2⟩:=DU (R:=Int×Int) (step:=fun(s:Int×Int) a=>(AO N n a).bind fun r=>some (.inl (Ar.ar .add .i64 s.1 r.1,Ar.mx s.2 r.2))) (fun r s=>(∀a∈r,a∈x.dD)∧0≤s.2∧0≤s.1∧s.1+(A0.pres r).length=(A0.pres x.dD).length+1∧max s.2 (A0.deps r:Int)=(A0.deps x.dD:Int)) (fun a r s ⟨h1,h2,h3,h4,h5⟩=>by
    have hm:=Fy (h1 a (by simp))
    simp only[A0.pres,K7,A0.deps]at h4 h5
    refine⟨_,by rw[ih a (by omega) (by omega)];rfl,fun b hb=>h1 b (by simp[hb]),?_,?_,?_,?_⟩
    ·simp only[PK];split<;>omega
    ·rw[E9 (by omega) (by omega)];omega
    ·rw[E9 (by omega) (by omega)];omega
    rw[←h5];simp only[PK];split<;>omega) (l:=x.dD) (s:=(1,0)) ⟨fun a h=>h,by simp,by simp,by omega,by omega⟩
   simp only[k1,A4];obtain⟨_,_,_,e1,e2⟩:=k2
   simp only[A0.pres,T7,A0.deps]at e1 e2
   have e3:s'.1=(x.pre.length:Int):=by rw[A0.pre_eq];simp_all
   have e4:s'.2=(A0.deps x.dD:Int):=by omega
   rw[e3,e4,E9 (by omega) (by omega),A0.dep_eq];rfl
  ·intro s i a ha hi;have e:Ar.ar .add .i64 (i:Int) 1=i+1:=E9 (by omega) (by omega);simp only[D1,B5,hi,I6,C7,G2,ha,A4,e];cases AO N n a<;>rfl
  intro s;simp[D1,B5]
theorem AI0 {N:Nat} (hN:40000000≤N):∀(n:Nat) (x:A0),x.bulk≤n→x.bulk≤16777216→AN N n x=some x.pre:=by
 intro n
 induction n with
 |zero=>intro x h;have:=Mu x;omega
 | succ n ih=>
  intro x hx hb;have hl:=OM x;unfold AN;rw[ZL x.dD (mk:=fun(_:Unit) i=>i) (body:=fun(_:Unit) a=>(AN N n a).bind fun l=>some (l,.inl ())) (fin:=fun _=>()) (s:=()) (by omega) ?_ ?_]
  ·obtain⟨w,s',k1,k2⟩:=Sp (R:=Unit) (step:=fun(_:Unit) a=>(AN N n a).bind fun l=>some (l,.inl ())) (fun r w s=>(∀a∈r,a∈x.dD)∧w++A0.pres r=A0.pres x.dD) (fun a r w s ⟨h1,h2⟩=>by
    have hm:=Fy (h1 a (by simp));refine⟨a.pre,(),by rw[ih a (by omega) (by omega)];rfl,fun b hb=>h1 b (by simp[hb]),?_⟩
    rw[←h2];simp[A0.pres]) (l:=x.dD) (w:=[]) (s:=()) ⟨fun a h=>h,by simp⟩
   have e:w=A0.pres x.dD:=by have:=k2.2;simp_all[A0.pres]
   rw[k1,e,A0.pre_eq];simp[J2]
  ·intro s i a ha hi;have e:Ar.ar .add .i64 (i:Int) 1=i+1:=E9 (by omega) (by omega);simp only[D1,B5,hi,I6,C7,G2,ha,A4,e];cases AN N n a<;>simp[J2]
  intro s;simp[D1,B5]
end Go.Ab
namespace Go.Ab
theorem Yp {N:Nat} (hN:40000000≤N) (lim:Int):∀(n:Nat) (x:B0),x.bulk≤n→x.bulk≤16777216→∃r,AT N n x lim=some r∧Cut lim x.pre.length r:=by
 intro n
 induction n with
 |zero=>intro x h;have:=Gv x;omega
 | succ n ih=>
  intro x hx hb;have hxb:=B0.bulk_eq x;have hB:=RD x.dD;have hpb:=Jg x.dD;unfold AT;rw[P6 x.dD (by omega) (mk:=fun(s:Int) i=>(s,i)) (body:=fun(s:Int) a=>if s≤lim then(AT N n a lim).bind fun r=>some (.inl (Ar.ar .add .i64 s r))else some (.inr s)) (fin:=fun s=>s) (s:=1) (by omega) ?_ ?_]
  ·obtain⟨o,k1,v,k2,k3,k4,k5⟩:=LR (lim:=lim) (f:=fun a=>AT N n a lim) (cnt:=fun a=>a.pre.length) (B:=40000000) (by omega) x.dD 1 (by omega) (by rw[Nx];omega) fun a ha=>ih a (by have:=hB.1 a ha;omega) (by have:=hB.1 a ha;omega)
   rw[Nx]at k4 k5
   have hpe:x.pre.length=(B0.pres x.dD).length+1:=by rw[B0.pre_eq];rfl
   simp only[k1,A4];refine⟨v,?_,by omega,by omega,?_⟩
   ·cases o<;>simp_all
   omega
  ·intro s i a ha hi;have e:Ar.ar .add .i64 (i:Int) 1=i+1:=E9 (by omega) (by omega);simp only[D1,Kw,N7,B5,hi,I6,IC,G2,ha,A4,e,D9]
   grind
  intro s;simp[D1,N7,B5]
theorem Ab0 {N:Nat} (hN:40000000≤N):∀(n:Nat) (x:B0),x.bulk≤n→x.bulk≤16777216→Bx N n x=some (x.dep:Int):=by
 intro n
 induction n with
 |zero=>intro x h;have:=Gv x;omega
 | succ n ih=>
  intro x hx hb;have hl:=Ih x;unfold Bx;rw[P6 x.dD (by omega) (mk:=fun(s:Int) i=>(s,i)) (body:=fun(s:Int) a=>(Bx N n a).bind fun r=>some (.inl (Ar.mx s r))) (fin:=fun s=>s) (s:=0) (by omega) ?_ ?_]
  ·obtain⟨s',k1,k2⟩:=DU (R:=Int) (step:=fun(s:Int) a=>(Bx N n a).bind fun r=>some (.inl (Ar.mx s r))) (fun r s=>(∀a∈r,a∈x.dD)∧0≤s∧max s (B0.deps r:Int)=(B0.deps x.dD:Int)) (fun a r s ⟨h1,h2,h3⟩=>by
    have hm:=BT (h1 a (by simp));refine⟨_,by rw[ih a (by omega) (by omega)];rfl,fun b hb=>h1 b (by simp[hb]),?_,?_⟩
    ·rw[PK];split<;>omega
    rw[←h3,PK];grind [B0.deps]) (l:=x.dD) (s:=0) ⟨fun a h=>h,Z2 _,by omega⟩
   simp only[k1,A4]
   have e:s'=(B0.deps x.dD:Int):=by have:=k2.2.2;grind [B0.deps]
   have hd:=Jo x.dD;have hd2:=B0.bulk_eq x;rw[e,E9 (by omega) (by omega),B0.dep_eq];rfl
  ·intro s i a ha hi;have e:Ar.ar .add .i64 (i:Int) 1=i+1:=E9 (by omega) (by omega);simp only[D1,B5,hi,I6,C7,G2,ha,A4,e];cases Bx N n a<;>rfl
  intro s;simp[D1,B5]
theorem Al3 {N:Nat} (hN:40000000≤N):∀(n:Nat) (x:B0),x.bulk≤n→x.bulk≤16777216→DV N n x=some ((x.pre.length:Int),(x.dep:Int)):=by
 intro n
 induction n with
 |zero=>intro x h;have:=Gv x;omega
 | succ n ih=>
  intro x hx hb;have hl:=Ih x;unfold DV;rw[P6 x.dD (by omega) (mk:=fun(s:Int×Int) i=>(s.1,s.2,i)) (body:=fun(s:Int×Int) a=>(DV N n a).bind fun r=>some (.inl (Ar.ar .add .i64 s.1 r.1,Ar.mx s.2 r.2))) (fin:=fun s=>s) (s:=(1,0)) (by omega) ?_ ?_]
  ·have hp:=Jg x.dD;have hd:=Jo x.dD;have hbe:=B0.bulk_eq x
   obtain⟨s',k1,k2⟩:=DU (R:=Int×Int) (step:=fun(s:Int×Int) a=>(DV N n a).bind fun r=>some (.inl (Ar.ar .add .i64 s.1 r.1,Ar.mx s.2 r.2))) (fun r s=>(∀a∈r,a∈x.dD)∧0≤s.2∧0≤s.1∧s.1+(B0.pres r).length=(B0.pres x.dD).length+1∧max s.2 (B0.deps r:Int)=(B0.deps x.dD:Int)) (fun a r s ⟨h1,h2,h3,h4,h5⟩=>by
    have hm:=BT (h1 a (by simp))
    simp only[B0.pres,K7,B0.deps]at h4 h5
    refine⟨_,by rw[ih a (by omega) (by omega)];rfl,fun b hb=>h1 b (by simp[hb]),?_,?_,?_,?_⟩
    ·simp only[PK];split<;>omega
    ·rw[E9 (by omega) (by omega)];omega
    ·rw[E9 (by omega) (by omega)];omega
    rw[←h5];simp only[PK];split<;>omega) (l:=x.dD) (s:=(1,0)) ⟨fun a h=>h,by simp,by simp,by omega,by omega⟩
   simp only[k1,A4];obtain⟨_,_,_,e1,e2⟩:=k2
   simp only[B0.pres,T7,B0.deps]at e1 e2
   have e3:s'.1=(x.pre.length:Int):=by rw[B0.pre_eq];simp_all
   have e4:s'.2=(B0.deps x.dD:Int):=by omega
   rw[e3,e4,E9 (by omega) (by omega),B0.dep_eq];rfl
  ·intro s i a ha hi;have e:Ar.ar .add .i64 (i:Int) 1=i+1:=E9 (by omega) (by omega);simp only[D1,B5,hi,I6,C7,G2,ha,A4,e];cases DV N n a<;>rfl
  intro s;simp[D1,B5]
theorem Tm {f:B0→Int}:∀l:List B0,Av (fun a=>Av f a.pre) l=Av f (B0.pres l)
 |[]=>rfl
 |a::l=>by rw[B0.pres,QZ,Av,Tm l]
theorem WI {a y:B0} (hy:y∈a.pre):∀l:List B0,a∈l→y∈B0.pres l
 |[],h=>by simp at h
 |b::l,h=>by
  rcases List.mem_cons.1 h with rfl|h
  ·simp_all[B0.pres]
  simp[B0.pres,WI hy l h]
theorem Av2 {N:Nat} (hN:40000000≤N) {F:B0→Option Int} {f:B0→Int}:∀(n:Nat) (x:B0),x.bulk≤n→x.bulk≤16777216→(∀y∈x.pre,F y=some (f y))→EK N n x F=some (Av f x.pre):=by
 intro n
 induction n with
 |zero=>intro x h;have:=Gv x;omega
 | succ n ih=>
  intro x hx hb hF;have hl:=Ih x;have hpe:=B0.pre_eq x;unfold EK;rw[hF x (by rw[hpe];simp)];simp only[A4,H8];rw[hpe,Av]
  by_cases hz:f x=0
  ·simp only[hz,I6,W5,F6,E4,C7];rw[P6 x.dD (by omega) (mk:=fun(_:Unit) i=>i) (body:=Ex fun a=>EK N n a F) (fin:=fun _=>.inl ()) (s:=()) (by omega) ?_ ?_]
   ·rw[CW (f:=fun a=>Av f a.pre) fun a ha=>ih a (by have:=BT ha;omega) (by have:=BT ha;omega) fun y hy=>hF y (by rw[hpe];exact Q1 _ (WI hy _ ha)),Tm]
    grind
   ·intro s i a ha hi;have e:Ar.ar .add .i64 (i:Int) 1=i+1:=E9 (by omega) (by omega);simp only[D1,B5,hi,I6,C7,G2,ha,A4,e,Ex,H8]
    grind
   intro s;simp[D1,B5]
  simp[hz]
theorem Ao8 {N:Nat} (hN:40000000≤N) {f:B0→Int} (hF:∀y,Gf N y=some (f y)):∀(n:Nat) (x:B0),x.bulk≤n→x.bulk≤16777216→DF N n x=some (Av f x.pre):=by
 intro n
 induction n with
 |zero=>intro x h;have:=Gv x;omega
 | succ n ih=>
  intro x hx hb;have hl:=Ih x;have hpe:=B0.pre_eq x;unfold DF;rw[hF x];simp only[A4,H8];rw[hpe,Av]
  by_cases hz:f x=0
  ·simp only[hz,I6,W5,F6,E4,C7];rw[P6 x.dD (by omega) (mk:=fun(_:Unit) i=>i) (body:=Ex fun a=>DF N n a) (fin:=fun _=>.inl ()) (s:=()) (by omega) ?_ ?_]
   ·rw[CW (f:=fun a=>Av f a.pre) fun a ha=>ih a (by have:=BT ha;omega) (by have:=BT ha;omega),Tm]
    grind
   ·intro s i a ha hi;have e:Ar.ar .add .i64 (i:Int) 1=i+1:=E9 (by omega) (by omega);simp only[D1,B5,hi,I6,C7,G2,ha,A4,e,Ex,H8]
    grind
   intro s;simp[D1,B5]
  simp[hz]
end Go.Ab
namespace Go.Ab
theorem RJ {a b:ByteArray}:a.toList=b.toList↔a=b:=by
 rw[ByteArray.toList_eq,ByteArray.toList_eq]
 constructor
 ·intro h;obtain⟨⟨a⟩⟩:=a
  simp_all
 simp_all
theorem Xc (a b:ByteArray):Ar.scmp .neq a b= !decide (a=b):=by
 show(!(a.toList==b.toList))=_
 by_cases h:a=b
 ·grind
 have:a.toList≠b.toList:=fun e=>h (RJ.1 e)
 grind
theorem GT (a b:ByteArray):Ar.scmp .eql a b=decide (a=b):=by
 show(a.toList==b.toList)=_
 by_cases h:a=b
 ·grind
 have:a.toList≠b.toList:=fun e=>h (RJ.1 e)
 grind
theorem AX4 (N:Nat)(op:Int):Ip N op=some (if op<0∨12<op then(0,false)else if op<5 then(0,true)else if op=12 then(1,true)else(2,true)):=by
 unfold Ip;simp only[D1,CM,C8,P1,Z4,D9]
 grind
theorem AP3 (N:Nat) (op:Int):GX N op=some (if op<0∨12<op then -1 else if op<5 then 0 else if op=12 then 1 else 2):=by
 have h:op<0∨op=0∨op=1∨op=2∨op=3∨op=4∨op=5∨op=6∨op=7∨op=8∨op=9∨op=10∨op=11∨op=12∨12<op:=by omega
 unfold GX;simp only[C8]
 rcases h with h|h|h|h|h|h|h|h|h|h|h|h|h|h|h
 all_goals first
  |(subst h;rfl)
  | (have h0:op≠0:=by omega
     have h1:op≠1:=by omega
     have h2:op≠2:=by omega
     have h3:op≠3:=by omega
     have h4:op≠4:=by omega
     have h5:op≠5:=by omega
     have h6:op≠6:=by omega
     have h7:op≠7:=by omega
     have h8:op≠8:=by omega
     have h9:op≠9:=by omega
     have ha:op≠10:=by omega
     have hb:op≠11:=by omega
     have hc:op≠12:=by omega
     simp[h0,h1,h2,h3,h4,h5,h6,h7,h8,h9,ha,hb,hc,h])
theorem Ba3 (N:Nat)(op:Int):JX N op=some (decide (op=1∨op=2∨op=3∨op=4),decide (op=1∨op=4)):=by
 unfold JX;simp only[C8,D9]
 grind
theorem AT3 (N:Nat)(op:Int):HT N op=some (decide (op=1∨op=2∨op=3∨op=4),decide (op=1∨op=4)):=by
 unfold HT;simp only[C8,P1]
 by_cases h1:op=1
 ·simp[h1]
 by_cases h4:op=4
 ·simp[h4]
 simp_all
def N3 (v:A7):Int:=
 if v.Kind=0∨v.Kind=1 then
  if v.Text≠⟨#[]⟩then 3
  else if v.Kind=0∧(v.Num< -1099511627776∨1099511627776<v.Num)∨v.Kind=1∧v.Num≠0∧v.Num≠1 then 2 else 0
 else if v.Kind=2 then(if v.Num≠0 then 3 else if 64<(v.Text.size:Int)then 13 else 0)else 1
theorem Ot (N:Nat) (v:A7):AQ N v=some (N3 v):=by
 obtain⟨k,n,t⟩:=v;unfold AQ HP N3;simp only[C8,H8,D1,CM,N7,P1,Xc,WN]
 by_cases h0:k=0
 ·subst h0
  by_cases ht:t=⟨#[]⟩
  ·subst ht
   by_cases h1:n< -1099511627776∨1099511627776<n
   ·simp[h1]
   simp[h1];decide
  simp[ht]
 by_cases h1:k=1
 ·subst h1
  by_cases ht:t=⟨#[]⟩
  ·subst ht
   by_cases h2:n=0
   ·simp[h2];decide
   by_cases h3:n=1
   ·simp[h3];decide
   simp_all
  simp[ht]
 grind
theorem Mz (N:Nat)(v:A7):Bz N v=some (N3 v):=by
 obtain⟨k,n,t⟩:=v;unfold Bz N3;simp only[C8,H8,D1,CM,N7,P1,Xc,WN]
 grind
theorem Aw0 (N:Nat)(k:Int)(v:A7):Io N k v=some (decide (v.Kind=0∨k=4∨k=5)):=by
 unfold Io;simp only[C8,P1]
 by_cases h1:v.Kind=0<;>by_cases h2:k=4<;>by_cases h3:k=5<;>simp[h1,h2,h3]
theorem Ak5 (N:Nat)(k:Int)(v:A7)(h:k≠0):AU N k v=some (decide (v.Kind=0∨k=4∨k=5)):=by
 unfold AU;simp only[C8,P1]
 by_cases h1:v.Kind=0<;>by_cases h2:k=4<;>by_cases h3:k=5<;>simp[h,h1,h2,h3]
def Av3 (op:Int):Bool:=decide (op=1∨op=2∨op=3∨op=4)
def Av4 (op:Int):Bool:=decide (op=1∨op=4)
noncomputable def VG (x:B0):Bool:=Ar.or (Ar.an (Av3 x.Op) (Ar.or (Ar.cmp .lss x.Var 0) (Ar.cmp .geq x.Var 16))) (Ar.an (Av4 x.Op) (Ar.or (Ar.cmp .lss x.Field 0) (Ar.cmp .geq x.Field 8)))
noncomputable def SK (x:B0):Bool:=Ar.an (Ar.cmp .eql x.Op 4) (Ar.or (Ar.cmp .lss x.Kind 1) (Ar.cmp .gtr x.Kind 5))
noncomputable def TX (v:A7):Bool:=Ar.an (Ar.cmp .eql v.Kind 0) (Ar.an (Ar.cmp .eql v.Num 0) (Ar.an (Ar.scmp .eql v.Text (⟨#[]⟩)) true))
noncomputable def Nb (x:B0):Bool:=Ar.or (Ar.nt (decide (x.Value.Kind=0∨x.Kind=4∨x.Kind=5))) (Ar.an (Ar.cmp .eql x.Kind 1) (Ar.nt (TX x.Value)))
noncomputable def ON (x:B0):Bool:=Ar.or (Ar.or (Ar.or (Ar.an (Ar.nt (Av3 x.Op)) (Ar.cmp .neq x.Var 0)) (Ar.an (Ar.nt (Av4 x.Op)) (Ar.cmp .neq x.Field 0))) (Ar.an (Ar.nt (Ar.cmp .eql x.Op 4)) (Ar.cmp .neq x.Kind 0))) (Ar.an (Ar.nt (Ar.or (Ar.cmp .eql x.Op 4) (Ar.cmp .eql x.Op 0))) (Ar.nt (TX x.Value)))
noncomputable def BY (x:B0):Int:=
 if x.Op<0∨12<x.Op then 1
 else if(x.dD.length:Int)≠(if x.Op<5 then 0 else if x.Op=12 then 1 else 2)then 15
 else if VG x=true then 2
 else if SK x=true then 1
 else if(x.Op=4∨x.Op=0)∧N3 x.Value≠0 then N3 x.Value
 else if x.Op=4∧Nb x=true then 9
 else if ON x=true then 3 else 0
theorem Ao9 (N:Nat) (x:B0):Gf N x=some (BY x):=by
 unfold Gf BY;rw[AP3,AT3];simp only[A4]
 by_cases h0:x.Op<0∨12<x.Op
 ·rw[A2 h0,A2 h0];rfl
 rw[A1 h0,A1 h0]
 have ha:¬(Ar.cmp .lss (if x.Op<5 then 0 else if x.Op=12 then 1 else 2) 0=true):=by
  rw[D1];grind
 rw[A1 ha]
 by_cases h1:(x.dD.length:Int)≠(if x.Op<5 then 0 else if x.Op=12 then 1 else 2)
 ·rw[A2 h1,A2 (by simp[H8,B5,h1])]
 rw[A1 h1,A1 (by simp only[H8,B5];grind)]
 change (if VG x=true then some 2 else _)=_
 by_cases h2:VG x=true
 ·rw[A2 h2,A2 h2]
 rw[A1 h2,A1 h2]
 change (if SK x=true then some 1 else _)=_
 by_cases h3:SK x=true
 ·rw[A2 h3,A2 h3]
 rw[A1 h3,A1 h3];rw[Mz]
 have e4:(Ar.or (Ar.cmp .eql x.Op 4) (Ar.cmp .eql x.Op 0)=true)↔(x.Op=4∨x.Op=0):=by simp[C8,P1]
 have e6:(Ar.cmp .eql x.Op 4=true)↔x.Op=4:=by simp[C8]
 by_cases h4:x.Op=4∨x.Op=0
 ·rw [A2 (e4.2 h4)];simp only[A4]
  by_cases h5:N3 x.Value=0
  ·have n5:¬(Ar.cmp .neq (N3 x.Value) 0=true):=by simp[H8,h5]
   have n5':¬((x.Op=4∨x.Op=0)∧N3 x.Value≠0):=fun h=>h.2 h5;rw[A1 n5,A1 n5'];simp only[A4]
   by_cases h6:x.Op=4
   ·rw[A2 (e6.2 h6)]
    have hk:x.Kind≠0:=by
     intro e;apply h3;simp[SK,N7,P1,C8,D1,h6,e]
    rw[Ak5 N _ _ hk];simp only[A4]
    change (if Nb x=true then some 9 else if ON x=true then some 3 else some 0)=_
    grind
   rw[A1 (show¬(Ar.cmp .eql x.Op 4=true)from fun h=>h6 (e6.1 h)),A1 (show¬(x.Op=4∧Nb x=true)from fun h=>h6 h.1)]
   change (if ON x=true then some 3 else some 0)=_
   grind
  have n5:Ar.cmp .neq (N3 x.Value) 0=true:=by simp[H8,h5]
  rw[A2 n5,A2 (show(x.Op=4∨x.Op=0)∧N3 x.Value≠0 from⟨h4,h5⟩)];rfl
 rw[A1 (show¬(Ar.or (Ar.cmp .eql x.Op 4) (Ar.cmp .eql x.Op 0)=true)from fun h=>h4 (e4.1 h)),A1 (show¬((x.Op=4∨x.Op=0)∧N3 x.Value≠0)from fun h=>h4 h.1)];simp only[A4];have h6:¬x.Op=4:=fun e=>h4 (.inl e);rw[A1 (show¬(Ar.cmp .eql x.Op 4=true)from fun h=>h6 (e6.1 h)),A1 (show¬(x.Op=4∧Nb x=true)from fun h=>h6 h.1)]
 change (if ON x=true then some 3 else some 0)=_
 grind
theorem Az3 (N:Nat) (x:B0):HK N x=some (BY x):=by
 unfold HK BY;rw[AX4,Ba3];simp only[A4]
 by_cases h0:x.Op<0∨12<x.Op
 ·rw[A2 h0,A2 h0];rfl
 rw[A1 h0,A1 h0]
 have ha:(if x.Op<5 then((0:Int),true)else if x.Op=12 then(1,true)else(2,true))=((if x.Op<5 then 0 else if x.Op=12 then 1 else 2),true):=by
  grind
 rw[ha];rw[A1 (by simp[Q5])]
 by_cases h1:(x.dD.length:Int)≠(if x.Op<5 then 0 else if x.Op=12 then 1 else 2)
 ·rw[A2 h1,A2 (by simp[H8,B5,h1])]
 rw[A1 h1,A1 (by simp only[H8,B5];grind)]
 change (if VG x=true then some 2 else _)=_
 by_cases h2:VG x=true
 ·rw[A2 h2,A2 h2]
 rw[A1 h2,A1 h2]
 change (if SK x=true then some 1 else _)=_
 by_cases h3:SK x=true
 ·rw[A2 h3,A2 h3]
 rw[A1 h3,A1 h3];unfold FD;rw[Ot]
 have e4:(Ar.or (Ar.cmp .eql x.Op 4) (Ar.cmp .eql x.Op 0)=true)↔(x.Op=4∨x.Op=0):=by simp[C8,P1]
 have e6:(Ar.cmp .eql x.Op 4=true)↔x.Op=4:=by simp[C8]
 by_cases h4:x.Op=4∨x.Op=0
 ·rw[A2 (e4.2 h4)];simp only[A4]
  by_cases h5:N3 x.Value=0
  ·have n5:¬(Ar.cmp .neq (N3 x.Value) 0=true):=by simp[H8,h5]
   have n5':¬((x.Op=4∨x.Op=0)∧N3 x.Value≠0):=fun h=>h.2 h5;rw[A1 n5,A1 n5']
   by_cases h6:x.Op=4
   ·rw[A2 (e6.2 h6),Aw0];simp only[A4]
    change (((if Nb x=true then some 9 else some 0):Option Int).bind _).bind _=_
    by_cases h7:Nb x=true
    ·rw[A2 h7,A2 (show x.Op=4∧Nb x=true from⟨h6,h7⟩)];rfl
    rw[A1 h7,A1 (show¬(x.Op=4∧Nb x=true)from fun h=>h7 h.2)]
    change (if ON x=true then some 3 else some 0)=_
    grind
   rw[A1 (show¬(Ar.cmp .eql x.Op 4=true)from fun h=>h6 (e6.1 h)),A1 (show¬(x.Op=4∧Nb x=true)from fun h=>h6 h.1)]
   change (if ON x=true then some 3 else some 0)=_
   grind
  have n5:Ar.cmp .neq (N3 x.Value) 0=true:=by simp[H8,h5]
  rw[A2 n5,A2 (show(x.Op=4∨x.Op=0)∧N3 x.Value≠0 from⟨h4,h5⟩)]
  simp_all
 rw[A1 (show¬(Ar.or (Ar.cmp .eql x.Op 4) (Ar.cmp .eql x.Op 0)=true)from fun h=>h4 (e4.1 h)),A1 (show¬((x.Op=4∨x.Op=0)∧N3 x.Value≠0)from fun h=>h4 h.1)];have h6:¬x.Op=4:=fun e=>h4 (.inl e);rw[A1 (show¬(x.Op=4∧Nb x=true)from fun h=>h6 h.1)]
 change (if ON x=true then some 3 else some 0)=_
 grind
end Go.Ab
namespace Go.Ab
theorem BX {a b:Int}(h:b<a):Ar.cmp .gtr a b=true:=by rw[CM];simp_all
theorem An {a b:Int}(h:¬b<a):¬(Ar.cmp .gtr a b=true):=by rw[CM];grind
theorem W0 {a b:Int}(h:a≠b):Ar.cmp .neq a b=true:=by rw[H8];grind
theorem T5 {a b:Int}(h:a=b):¬(Ar.cmp .neq a b=true):=by rw[H8];grind
noncomputable def R7 (x:B0):Int:=if 64<x.pre.length then 5 else if 12<x.dep then 12 else Av BY x.pre
theorem UP {N:Nat}(hN:40000000≤N){x:B0}(hb:x.bulk≤16777216):Gn N x=some (R7 x):=by
 unfold Gn R7;rw[Al3 hN N x (by omega) hb];simp only[A4]
 by_cases h1:64<x.pre.length
 ·rw[A2 h1,A2 (BX (by omega))]
 rw[A1 h1,A1 (An (by omega))]
 by_cases h2:12<x.dep
 ·rw[A2 h2,A2 (BX (by omega))]
 rw[A1 h2,A1 (An (by omega)),Av2 hN N x (by omega) hb fun y _=>Az3 N y];rfl
theorem Tf {N:Nat}(hN:40000000≤N){x:B0}(hb:x.bulk≤16777216):DI N x=some (R7 x):=by
 unfold DI R7;obtain⟨r,h0,c1,c2,c3⟩:=Yp hN 64 N x (by omega) hb;rw[h0];simp only[A4]
 by_cases h1:64<x.pre.length
 ·rw[A2 h1,A2 (BX (by omega))]
 rw[A1 h1,A1 (An (by omega)),Ab0 hN N x (by omega) hb];simp only[A4]
 by_cases h2:12<x.dep
 ·rw[A2 h2,A2 (BX (by omega))]
 rw[A1 h2,A1 (An (by omega)),Ao8 hN (fun y=>Ao9 N y) N x (by omega) hb];rfl
noncomputable def SN (a b:B0):Bool:=Ar.or (Ar.or (Ar.or (Ar.or (Ar.or (Ar.cmp .neq a.Op b.Op) (Ar.cmp .neq a.Var b.Var)) (Ar.cmp .neq a.Field b.Field)) (Ar.cmp .neq a.Kind b.Kind)) (Ar.nt (Ar.an (Ar.cmp .eql a.Value.Kind b.Value.Kind) (Ar.an (Ar.cmp .eql a.Value.Num b.Value.Num) (Ar.an (Ar.scmp .eql a.Value.Text b.Value.Text) true))))) (Ar.cmp .neq (Ar.len a.dD) (Ar.len b.dD))
theorem JN (N:Nat):∀(n:Nat) (a b:B0),Ch N n a b=X5 N n a b
 |0,_,_=>rfl
 |n+1,a,b=>by
  unfold Ch X5;simp only[JN N n]
theorem PE {N:Nat} (hN:40000000≤N) (x:B0):∃b,X5 N N x (⟨0,[],0,0,0,(⟨0,0,⟨#[]⟩⟩:A7)⟩:B0)=some b:=by
 obtain⟨M,rfl⟩:∃M,N=M+1:=⟨N - 1,by omega⟩;rw[X5];generalize hz:(⟨0,[],0,0,0,(⟨0,0,⟨#[]⟩⟩:A7)⟩:B0)=z
 change ∃b,(if SN x z=true then some false else _)=some b
 by_cases h:SN x z=true
 ·rw[A2 h];simp_all
 rw[A1 h]
 have hlen:x.dD.length=0:=by
  subst hz
  simp only[SN,P1,H8,B5,T7]at h
  simp_all
 have:x.dD=[]:=List.length_eq_zero_iff.1 hlen;refine⟨true,?_⟩;rw[show M+1=(M+1 - 1)+1 by omega];simp only[loopN,this,D1,B5];rfl
end Go.Ab
namespace Go.Ab
def EN (u:Bool)(n m:Int):Bool:=u&&(decide (n<0)||decide (m<n))
def W7 (u:Bool)(n:Int):Bool:=u||decide (n=0)
theorem My (N:Nat)(u:Bool)(n m:Int):Al N u n m=some (!EN u n m):=by
 unfold Al;simp only[P1,N7,Q5,R6,Kw,EN];cases u
 ·rfl
 by_cases h1:n<0<;>by_cases h2:m<n<;>simp[h1,h2]<;>omega
theorem Ak4 (N:Nat)(u:Bool)(n:Int):S4 N u n=some (W7 u n):=rfl
theorem AX3 (N:Nat)(u:Bool)(n m:Int):DT N u n m=some (EN u n m):=rfl
noncomputable def LU (s:P3)(x:A0)(sz:Bool):Int:=
 if EN s.typed x.Typ 15=true then 2
 else if EN s.typed x.Var 15=true then 2
 else if EN s.scope x.dG 63=true then 2
 else if EN s.span x.Span 1099511627776=true then 2
 else if s.cond=true∧R7 x.dE≠0 then R7 x.dE
 else if(s.cond||sz)=true∧W7 s.typed x.Typ=true∧W7 s.typed x.Var=true∧W7 s.scope x.dG=true∧W7 s.span x.Span=true then 0 else 3
structure Pq (N:Nat) (x:A0) (s:P3) (ng:Bool):Prop where
 tab:C5 K8 x.Op=some s
 var:HS N x=some s.typed
 neg:Jy N x=some ng
 tim:Fd N x=some s.span
 con:Hi N x=some s.cond
 sco:s.scope=(ng||s.span)
 ari:LN N x=some (decide (s.dK≤x.dD.length∧(x.dD.length:Int)≤s.most))
theorem AW8 (n k:Int):decide (n=k)=(decide (k≤n)&&decide (n≤k)):=by
 rw[←KY]
 grind
theorem Oy (N:Nat) (x:A0) (h0:0≤x.Op) (h1:x.Op≤10) (hl:x.dD.length≤64):∃s ng,Pq N x s ng:=by
 obtain⟨op,args,typ,var,scope,span,c⟩:=x
 simp only at h0 h1 hl
 have h:op=0∨op=1∨op=2∨op=3∨op=4∨op=5∨op=6∨op=7∨op=8∨op=9∨op=10:=by omega
 rcases h with h|h|h|h|h|h|h|h|h|h|h
 all_goals
  subst h;refine⟨_,_,rfl,rfl,rfl,rfl,rfl,rfl,?_⟩;unfold LN;simp only[C8,R6,B5];simp
  try first|omega|exact AW8 _ _
theorem Bb0 {x:A0}(h0:0≤x.Op)(h1:x.Op≤10):¬(Ar.or (Ar.cmp .lss x.Op 0) (Ar.cmp .geq x.Op 11)=true):=by
 simp only[P1,D1,R6,Z4,D9];omega
theorem AU6 {x:A0}(h0:0≤x.Op)(h1:x.Op≤10):¬(Ar.or (Ar.cmp .lss x.Op 0) (Ar.cmp .gtr x.Op 10)=true):=by
 simp only[P1,D1,CM,Z4,D9];omega
theorem Ay8 {x:A0}(h:¬(0≤x.Op∧x.Op≤10)):Ar.or (Ar.cmp .lss x.Op 0) (Ar.cmp .geq x.Op 11)=true∧Ar.or (Ar.cmp .lss x.Op 0) (Ar.cmp .gtr x.Op 10)=true:=by
 simp only[P1,D1,R6,CM,Z4,D9];omega
theorem As5 {N:Nat} (hN:40000000≤N) {x:A0} (hb:x.dE.bulk≤16777216) (h0:0≤x.Op) (h1:x.Op≤10) {s:P3} {ng:Bool} (hs:Pq N x s ng) {sz:Bool}
 (hz:X5 N N x.dE (⟨0,[],0,0,0,(⟨0,0,⟨#[]⟩⟩:A7)⟩:B0)=some sz):
 Ah N x=some (if s.dK≤x.dD.length∧(x.dD.length:Int)≤s.most then LU s x sz else 15):=by
 unfold Ah;rw[A1 (Bb0 h0 h1),hs.tab];simp only[A4]
 by_cases ha:s.dK≤x.dD.length∧(x.dD.length:Int)≤s.most
 ·rw [A2 ha,A1 (by simp only[P1,D1,CM,B5,Z4,D9];omega)];rw[My,My,My,My,UP hN hb,JN,hz];simp only[Ak4,A4];unfold LU;generalize EN s.typed x.Typ 15=b1;generalize EN s.typed x.Var 15=b2;generalize EN s.scope x.dG 63=b3;generalize EN s.span x.Span 1099511627776=b4;generalize W7 s.typed x.Typ=c1;generalize W7 s.typed x.Var=c2;generalize W7 s.scope x.dG=c3;generalize W7 s.span x.Span=c4;generalize R7 x.dE=ec
  cases b1 with
  |true=>rfl
  | false =>
   cases b2 with
   |true=>rfl
   | false =>
    cases b3 with
    |true=>rfl
    | false=>
     cases b4 with
     |true=>rfl
     | false=>
      cases s.cond with
      | false=>
       cases sz with
       |false=>rfl
       | true=>
        cases c1 with
        |false=>rfl
        | true=>
         cases c2 with
         |false=>rfl
         | true=>
          cases c3 with
          |false=>rfl
          |true=>
           cases c4<;>rfl
      | true=>
       by_cases he:ec=0
       ·subst he
        cases c1 with
        |false=>cases sz<;>rfl
        | true=>
         cases c2 with
         |false=>cases sz<;>rfl
         | true=>
          cases c3 with
          |false=>cases sz<;>rfl
          |true=>
           cases c4<;>cases sz<;>rfl
       simp[Q5,W0 he,he]
 rw[A1 ha,A2 (by simp only[P1,D1,CM,B5,Z4,D9];omega)]
theorem SL (u:Bool)(n:Int):Ar.an (Ar.nt u) (Ar.cmp .neq n 0)= !W7 u n:=by
 simp only[N7,Q5,H8,W7,Bool.not_or]
theorem Ah8 (u w:Bool)(t v sc:Int):Ar.or (Ar.an (Ar.nt u) (Ar.or (Ar.cmp .neq t 0) (Ar.cmp .neq v 0))) (Ar.an (Ar.nt w) (Ar.cmp .neq sc 0))=((!W7 u t|| !W7 u v)|| !W7 w sc):=by
 rw[SL];simp only[P1,N7,Q5,H8,W7];cases u<;>simp
theorem Gs {N:Nat} (hN:40000000≤N) {x:A0} (hb:x.dE.bulk≤16777216) (h0:0≤x.Op) (h1:x.Op≤10) {s:P3} {ng:Bool} (hs:Pq N x s ng) {sz:Bool}
 (hz:X5 N N x.dE (⟨0,[],0,0,0,(⟨0,0,⟨#[]⟩⟩:A7)⟩:B0)=some sz):
 EE N x=some (if s.dK≤x.dD.length∧(x.dD.length:Int)≤s.most then LU s x sz else 15):=by
 unfold EE;rw[A1 (AU6 h0 h1),hs.ari,hs.var,hs.neg,hs.tim,hs.con,Tf hN hb,hz];simp only[A4]
 by_cases ha:s.dK≤x.dD.length∧(x.dD.length:Int)≤s.most
 ·rw [A2 ha,A1 (by simp[Q5,ha])];have sco:=hs.sco;simp only[AX3,A4];cases ng
  ·rw [A1 (by simp)]
   simp only[Dz]at sco
   rw[Ah8,SL];unfold LU;rw[sco];generalize EN s.typed x.Typ 15=b1;generalize EN s.typed x.Var 15=b2;generalize EN s.span x.dG 63=b3;generalize EN s.span x.Span 1099511627776=b4;generalize W7 s.typed x.Typ=c1;generalize W7 s.typed x.Var=c2;generalize W7 s.span x.dG=c3;generalize W7 s.span x.Span=c4;generalize R7 x.dE=ec
   cases b1 with
   |true=>rfl
   | false=>
    cases b2 with
    |true=>rfl
    | false=>
     cases b3 with
     |true=>rfl
     | false=>
      cases b4 with
      |true=>rfl
      | false=>
       cases s.cond with
       |false=>cases sz<;>cases c1<;>cases c2<;>cases c3<;>cases c4<;>rfl
       |true=>
        by_cases he:ec=0
        ·subst he;cases sz<;>cases c1<;>cases c2<;>cases c3<;>cases c4<;>rfl
        simp[W0 he,he]
  rw[A2 rfl]
  simp only[Bool.true_or]at sco
  rw[Ah8,SL];unfold LU;rw[sco];generalize EN s.typed x.Typ 15=b1;generalize EN s.typed x.Var 15=b2;generalize EN true x.dG 63=b3;generalize EN s.span x.Span 1099511627776=b4;generalize W7 s.typed x.Typ=c1;generalize W7 s.typed x.Var=c2;generalize W7 true x.dG=c3;generalize W7 s.span x.Span=c4;generalize R7 x.dE=ec
  cases b1 with
  |true=>rfl
  | false=>
   cases b2 with
   |true=>rfl
   | false=>
    cases b3 with
    |true=>rfl
    | false=>
     cases b4 with
     |true=>rfl
     | false=>
      cases s.cond with
      |false=>cases sz<;>cases c1<;>cases c2<;>cases c3<;>cases c4<;>rfl
      |true=>
       by_cases he:ec=0
       ·subst he;cases sz<;>cases c1<;>cases c2<;>cases c3<;>cases c4<;>rfl
       simp[W0 he,he]
 rw[A1 ha,A2 (by simp only[Q5,R8 ha];rfl)]
end Go.Ab
namespace Go.Ab
mutual
theorem Kq :∀(x y:A0),y∈x.pre→y.bulk≤x.bulk∧y.pre.length≤x.pre.length
 |⟨op,args,typ,var,scope,span,c⟩,y,h=>by
  rw[A0.pre]at h
  rcases List.mem_cons.1 h with rfl|h
  ·omega
  have:=SB args y h
  grind [A0.bulk,A0.pre]
theorem SB :∀(l:List A0) (y:A0),y∈A0.pres l→y.bulk≤A0.bulks l∧y.pre.length≤(A0.pres l).length
 |[],y,h=>by grind [A0.pres]
 | a::l,y,h=>by
  rw[A0.pres]at h
  rcases List.mem_append.1 h with h|h
  ·have:=Kq a y h
   grind [A0.bulks,A0.pres]
  have:=SB l y h
  grind [A0.bulks,A0.pres]
end
theorem UT :∀l:List A0,l.length≤(A0.pres l).length
 |[]=>C4 _
 |a::l=>by
  have:=UT l;simp only[A0.pres,A0.pre_eq a,K7,J7];omega
theorem It (x:A0):x.dD.length<x.pre.length:=by
 rw[A0.pre_eq];have:=UT x.dD;grind
noncomputable def Ey (N:Nat)(y:A0):Int:=(EE N y).getD 0
theorem Gl {N:Nat} (hN:40000000≤N) {y:A0} (hb:y.bulk≤16777216) (hl:y.dD.length≤64):Ah N y=some (Ey N y)∧EE N y=some (Ey N y):=by
 have hc:y.dE.bulk≤16777216:=by have:=A0.bulk_eq y;omega
 have key:∃r,Ah N y=some r∧EE N y=some r:=by
  by_cases h:0≤y.Op∧y.Op≤10
  ·obtain⟨s,ng,hs⟩:=Oy N y h.1 h.2 hl;obtain⟨sz,hz⟩:=PE hN y.dE;exact⟨_,As5 hN hc h.1 h.2 hs hz,Gs hN hc h.1 h.2 hs hz⟩
  obtain⟨h1,h2⟩:=Ay8 h
  simp_all[Ah,EE]
 grind [Ey]
noncomputable def N8 (N:Nat)(x:A0):Int:=if 64<x.pre.length then 5 else if 12<x.dep then 12 else Av (Ey N) x.pre
theorem LT {N:Nat}(hN:40000000≤N){x:A0}(hb:x.bulk≤16777216):Ac N x=some x.pre:=by
 unfold Ac CG;rw[AI0 hN N x (by omega) hb];simp[J2]
theorem Vy {N:Nat}(hN:40000000≤N){x:A0}(hb:x.bulk≤16777216):R0 N x=some (N8 N x):=by
 unfold R0 N8;rw[AI9 hN N x (by omega) hb];simp only[A4]
 by_cases h1:64<x.pre.length
 ·rw[A2 h1,A2 (BX (by omega))]
 rw[A1 h1,A1 (An (by omega))]
 by_cases h2:12<x.dep
 ·rw[A2 h2,A2 (BX (by omega))]
 rw[A1 h2,A1 (An (by omega)),LT hN hb];simp only[A4];rw[Uo (f:=Ey N) fun y hy=>(Gl hN (by have:=Kq x y hy;omega) (by have:=Kq x y hy;have:=It y;omega)).1]
 grind
end Go.Ab
namespace Go.Ab
def Good (N:Nat)(x:A0):Prop:=∀y∈x.pre,Ey N y=0
theorem Ny {a y:A0} (hy:y∈a.pre):∀l:List A0,a∈l→y∈A0.pres l
 |[],h=>by simp at h
 |b::l,h=>by
  rcases List.mem_cons.1 h with rfl|h
  ·simp_all[A0.pres]
  simp[A0.pres,Ny hy l h]
theorem Good.arg {N:Nat}{x a:A0}(h:Good N x)(ha:a∈x.dD):Good N a:=fun y hy=>h y (by
 rw[A0.pre_eq];exact Q1 _ (Ny hy _ ha))
theorem Ag {x a:A0}(ha:a∈x.dD):a.pre.length<x.pre.length:=by
 have:=(SB x.dD a (Ny (by rw[A0.pre_eq];simp) _ ha)).2;rw[A0.pre_eq x];grind
theorem AG3 {N:Nat} (hN:40000000≤N) {y:A0} (hb:y.bulk≤16777216) (hl:y.dD.length≤64) (h:Ey N y=0) (ho:y.Op=1∨y.Op=7∨y.Op=8∨y.Op=9∨y.Op=10):∃a r,y.dD=a::r:=by
 have hc:y.dE.bulk≤16777216:=by have:=A0.bulk_eq y;omega
 obtain⟨s,ng,hs⟩:=Oy N y (by omega) (by omega) hl;obtain⟨sz,hz⟩:=PE hN y.dE;have h1:=Gs hN hc (by omega) (by omega) hs hz
 rw[(Gl hN hb hl).2,h]at h1
 have h2:s.dK≤y.dD.length:=by
  have h1:=AA h1;omega
 have h3:1≤s.dK:=by
  have ht:=hs.tab
  rcases ho with h|h|h|h|h<;>rw[h]at ht<;>cases ht<;>decide
 match he:y.dD,h2 with
 |[],h2=>grind
 |a::r,_=>simp_all
theorem OY {a b:Int}(h:a=b):Ar.cmp .eql a b=true:=by rw[C8];simp_all
theorem Ar8 {a b:Int}(h:¬a=b):Ar.cmp .eql a b=false:=by rw[C8];simp_all
end Go.Ab
namespace Go.Ab
theorem OL {S R:Type} {step:S→Option (S⊕R)} (I:Nat→S→Prop) (Q:R→Prop):∀(k i:Nat) (s:S) (N:Nat),k<N→I i s→
 (∀j s,i≤j→j<i+k→I j s→∃o,step s=some o∧(match o with| .inl s'=>I (j+1) s'| .inr r=>Q r))→
 (∀s,I (i+k) s→∃r,step s=some (.inr r)∧Q r)→∃r,loopN step N s=some r∧Q r
 |0,i,s,N,hN,h0,_,he=>by
  obtain⟨N,rfl⟩:∃M,N=M+1:=⟨N - 1,by omega⟩
  grind [loopN]
 | k+1,i,s,N,hN,h0,hs,he=>by
  obtain⟨N,rfl⟩:∃M,N=M+1:=⟨N - 1,by omega⟩;obtain⟨o,h1,h2⟩:=hs i s (C4 _) (by omega) h0
  cases o with
  |inl s'=>
   obtain⟨r,h3,h4⟩:=OL I Q k (i+1) s' N (by omega) h2 (fun j s a b c=>hs j s (by omega) (by omega) c) (fun s h=>he s (by rw[show i+(k+1)=i+1+k by omega];exact h))
   simp_all[loopN]
  |inr r=>simp_all[loopN]
theorem Uy {β S R:Type} {step:S→Option (List β×(S⊕R))} (st:Nat→S) (f:Nat→List β) (w:List β) (r:R):∀(k i:Nat) {N:Nat},k<N→(∀j,i≤j→j<i+k→step (st j)=some (f j,.inl (st (j+1))))→step (st (i+k))=some (w,.inr r)→
 W2 step N (st i)=some ((List.range' i k).flatMap f++w,r)
 |0,i,N,hN,_,he=>by
  obtain⟨N,rfl⟩:∃M,N=M+1:=⟨N - 1,by omega⟩
  simp_all[W2]
 |k+1,i,N,hN,hs,he=>by
  obtain⟨N,rfl⟩:∃M,N=M+1:=⟨N - 1,by omega⟩;have:=Uy st f w r k (i+1) (N:=N) (by omega) (fun j a b=>hs j (by omega) (by omega)) (by rw[show i+1+k=i+(k+1) by omega];exact he);simp only[W2,hs i (C4 _) (by omega),this,EX,BL,D4]
theorem Gi {α β:Type} {R:Type} {step:Unit→α→Option (List β×(Unit⊕R))} (f:α→List β):∀{l:List α},(∀x∈l,step () x=some (f x,.inl ()))→Ca step l ()=some (l.flatMap f,.inl ())
 |[],_=>rfl
 |x::l,h=>by
  have:=Gi f (l:=l) fun y hy=>h y (by simp[hy])
  simp_all[Ca]
noncomputable instance :DecidableEq B0:=Classical.typeDecidableEq _
noncomputable instance :DecidableEq A0:=Classical.typeDecidableEq _
noncomputable instance :DecidableEq D7:=Classical.typeDecidableEq _
noncomputable instance :DecidableEq As:=Classical.typeDecidableEq _
noncomputable instance :DecidableEq A6:=Classical.typeDecidableEq _
theorem Ks {i:Nat}(h:i<1000000000000):Ar.ar .add .i64 (i:Int) 1=((i+1:Nat):Int):=by rw[E9 (by omega) (by omega)];omega
theorem RB {α:Type} [DecidableEq α] {N:Nat} (l m:List α) (hl:l.length=m.length) (hs:l.length<1000000000000) (f:α→α→Option Bool) (hf:∀x∈l,∀y∈m,f x y=some (decide (x=y))) (hN:l.length<N):
 loopN (fun(i:Int)=>if Ar.cmp .lss i (Ar.len l)=true then(C5 l i).bind fun x=>(C5 m i).bind fun y=>(f x y).bind fun r=>if Ar.nt r=true then some (Sum.inr (Sum.inr (α:=Unit) ()))else some (.inl (Ar.ar .add .i64 i 1))else some (.inr (.inl ()))) N 0=some (if l=m then .inl ()else .inr ()):=by
 obtain⟨r,h1,h2⟩:=OL (step:=fun(i:Int)=>if Ar.cmp .lss i (Ar.len l)=true then(C5 l i).bind fun x=>(C5 m i).bind fun y=>(f x y).bind fun r=>if Ar.nt r=true then some (Sum.inr (Sum.inr (α:=Unit) ()))else some (.inl (Ar.ar .add .i64 i 1))else some (.inr (.inl ())))
  (fun j s=>s=(j:Int)∧l.take j=m.take j) (fun r=>r=if l=m then .inl ()else .inr ()) l.length 0 0 N hN ⟨rfl,by simp⟩
  (fun j s _ hj ⟨e,ht⟩=>by
   subst e
   simp only[Q0]at hj
   have hj2:j<m.length:=by omega
   have e1:l[j]? =some l[j]:=by simp[hj]
   have e2:m[j]? =some m[j]:=by simp[hj2]
   simp only[D1,B5,show((j:Int)<(l.length:Int)) by omega,I6,C7,G2,e1,e2,A4,hf _ (O9 hj) _ (O9 hj2)]
   by_cases h:l[j]=m[j]
   ·simp only[h,I6,Q5,W5,F6,E4];refine⟨_,rfl,Ks (by omega),?_⟩;rw[List.take_add_one,List.take_add_one,ht,e1,e2,h]
   simp only[h,ES,Q5,Cw,C7]
   grind)
  (fun s ⟨e,ht⟩=>by
   subst e
   simp only[Q0]at ht ⊢
   refine⟨.inl (),by simp[D1,B5],?_⟩
   rw[Lc,hl,Lc]at ht
   rw[A2 ht])
 rw[h1,h2]
theorem XZ {a b:B0}:a=b↔(a.Op=b.Op∧a.Var=b.Var∧a.Field=b.Field∧a.Kind=b.Kind∧a.Value=b.Value)∧a.dD=b.dD:=by
 cases a;cases b;grind
theorem Aq4 {a b:A7}:a=b↔a.Kind=b.Kind∧a.Num=b.Num∧a.Text=b.Text:=by cases a;cases b;simp
theorem GZ {a b:A0}:a=b↔(a.Op=b.Op∧a.Typ=b.Typ∧a.Var=b.Var∧a.dG=b.dG∧a.Span=b.Span)∧a.dE=b.dE∧a.dD=b.dD:=by
 cases a;cases b;grind
theorem UF (a b:B0):SN a b=true↔¬((a.Op=b.Op∧a.Var=b.Var∧a.Field=b.Field∧a.Kind=b.Kind∧a.Value=b.Value)∧a.dD.length=b.dD.length):=by
 simp only[SN,P1,N7,Q5,H8,C8,GT,B5,Aq4,Z4,Z7,Bd,Lt,ET,D9,Classical.not_and_iff_not_or_not]
 grind
theorem Ui {N:Nat} (hN:40000000≤N):∀(n:Nat) (a b:B0),a.bulk≤n→a.bulk≤16777216→X5 N n a b=some (decide (a=b)):=by
 intro n
 induction n with
 |zero=>intro a b h;have:=Gv a;omega
 | succ n ih=>
  intro a b hx hb;have hl:=Ih a;unfold X5
  change (if SN a b=true then some false else _)=_
  by_cases h:SN a b=true
  ·rw[A2 h]
   rw[UF]at h
   rw[R8]
   grind
  rw[A1 h]
  rw[UF,Classical.not_not]at h
  rw[RB a.dD b.dD h.2 (by omega) _ (fun x hx y hy=>ih x y (by have:=BT hx;omega) (by have:=BT hx;omega)) (by omega)];simp only[A4]
  by_cases he:a.dD=b.dD
  ·rw[A2 he,D5 (XZ.2 ⟨h.1,he⟩)]
  rw[A1 he,R8 fun e=>he (XZ.1 e).2]
theorem Ba5 {N:Nat} (hN:40000000≤N):∀(n:Nat) (a b:A0),a.bulk≤n→a.bulk≤16777216→CH N n a b=some (decide (a=b)):=by
 intro n
 induction n with
 |zero=>intro a b h;have:=Mu a;omega
 | succ n ih=>
  intro a b hx hb;have hl:=OM a;have hc:=A0.bulk_eq a;unfold CH
  by_cases h:a.Op=b.Op∧a.Typ=b.Typ∧a.Var=b.Var∧a.dG=b.dG∧a.Span=b.Span
  ·rw[A1 (by obtain⟨h1,h2,h3,h4,h5⟩:=h;simp[P1,H8,h1,h2,h3,h4,h5]),JN,Ui hN N a.dE b.dE (by omega) (by omega)];simp only[A4]
   by_cases hq:a.dE=b.dE
   ·rw[A1 (by simp[Q5,hq])];unfold J3
    by_cases hq2:a.dD.length=b.dD.length
    ·rw[A1 (by simp[H8,B5,hq2]),RB a.dD b.dD hq2 (by omega) _ (fun x hx y hy=>ih x y (by have:=Fy hx;omega) (by have:=Fy hx;omega)) (by omega)];simp only[A4]
     by_cases he:a.dD=b.dD
     ·rw[A2 he,D5 (GZ.2 ⟨h,hq,he⟩)];rfl
     rw[A1 he,R8 fun e=>he (GZ.1 e).2.2];rfl
    rw[A2 (by simp only[H8,B5,Z7,Bd];omega),R8 fun e=>hq2 (by rw[(GZ.1 e).2.2])];rfl
   rw[A2 (by simp[Q5,hq]),R8 fun e=>hq (GZ.1 e).2.1]
  rw[A2,R8 fun e=>h (GZ.1 e).1];simp only[P1,H8,Z4,Z7,Bd];omega
structure Bd7 (y:A0):Prop where
 op:0≤y.Op∧y.Op≤10
 ev:y.Op=0→y.dD=[]
 two:1≤y.Op→y.Op≤3→2≤y.dD.length
 one:4≤y.Op→y.Op≠8→∃a,y.dD=[a]
 more:y.Op=8→∃a b,y.dD=[a,b]
theorem AB7 {α:Type}{l:List α}(h:l.length=1):∃a,l=[a]:=List.length_eq_one_iff.1 h
theorem AB6 {α:Type}{l:List α}(h:l.length=2):∃a b,l=[a,b]:=by
 match l,h with
 |[a,b],_=>simp_all
theorem AG1 {N:Nat} (hN:40000000≤N) {y:A0} (hb:y.bulk≤16777216) (hl:y.dD.length≤64) (h:Ey N y=0):Bd7 y:=by
 have hc:y.dE.bulk≤16777216:=by have:=A0.bulk_eq y;omega
 by_cases hop:0≤y.Op∧y.Op≤10
 ·obtain⟨s,ng,hs⟩:=Oy N y hop.1 hop.2 hl;obtain⟨sz,hz⟩:=PE hN y.dE;have h1:=Gs hN hc hop.1 hop.2 hs hz
  rw[(Gl hN hb hl).2,h]at h1
  have h2:s.dK≤y.dD.length∧(y.dD.length:Int)≤s.most:=by
   have h1:=AA h1;omega
  have ht:=hs.tab;refine⟨hop,fun ho=>?_,fun ha hb=>?_,fun ha hb=>?_,fun ho=>?_⟩
  ·rw[ho]at ht;cases ht
   simp only at h2
   exact Dx (by omega)
  ·have ho:y.Op=1∨y.Op=2∨y.Op=3:=by omega
   rcases ho with ho|ho|ho<;>rw[ho]at ht<;>cases ht<;>simp only at h2<;>omega
  ·have ho:y.Op=4∨y.Op=5∨y.Op=6∨y.Op=7∨y.Op=9∨y.Op=10:=by omega
   apply AB7
   rcases ho with ho|ho|ho|ho|ho|ho<;>rw[ho]at ht<;>cases ht<;>simp only at h2<;>omega
  apply AB6
  rw[ho]at ht;cases ht;grind
 obtain⟨h1,h2⟩:=Ay8 hop;exfalso
 unfold Ey EE at h
 rw[A2 h2]at h
 cases h
end Go.Ab
