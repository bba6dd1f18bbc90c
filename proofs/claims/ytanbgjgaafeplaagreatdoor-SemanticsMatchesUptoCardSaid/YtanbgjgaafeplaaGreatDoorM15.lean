/- GTCo6 GTCo7 AbG1 AbI1 AbM1 AbG2 AbG3 GTBk GTM1 GTM2 GTM3 -/
import Derived.Test.YtanbgjgaafeplaaGreatDoorM14
import Derived.Deep.Slices
import Derived.Carry
import Derived.Lib.LaidTab
set_option linter.all false
namespace Go.Ab
open Go.RowKit Go.Proofs Go.Proofs.Tryz I7
variable [Ar][I7]
set_option maxRecDepth 100000
def cf154 :Cf:=⟨[8,3000053,8000053,9000053],[(8,14),(11,8)],[],[],[],[]⟩
theorem c154 (N:Nat):∀n aB aR aT aU r,Z7 N n aB aR aT aU=some r→B4 prog 154 [(I0 aB),(DP aR),vi aT,(V7 aU)] (.tup [(C6 r.1),vi r.2]):=by
 intro n
 induction n with
 |zero=>intro aB aR aT aU r h;cases h
 |succ n ih=>
 intro aB aR aT aU r h
 unfold Z7 at h
 refine I4 cf154 func154 call154 ntmps154 ?_;intro E H0 K hE hK hO;cbv;refine C5 hE hO fun b1 H hO=>?_;cbv;refine D5 hE ?_;cbv;refine A8 hE h (fun _ h=>?_) fun _ h=>?_
 ·cbv;refine A5 hE h (c187 N aB aR aT aU) (.refl _) fun r2 h=>?_;cbv;refine A9 hE hO 0 rfl rfl fun H hO=>?_;cbv;refine B2 hE hO 0 rfl ?_;cbv;cases h;exact hK hO (.refl _)
 cbv;replace hO:=hO.tl0 (t:=.nil) rfl;replace hO:=hO.tl0 (t:=.nil) rfl;obtain⟨s6,hx,h⟩:=bind_some h;refine M8 cf154 hE M3 (γ:=D1×D1) (fun s3 g=>[fi 2 aT,(4,.v (.eref (Af aB) 0)),(5,.v (.eref (Ab5 aR) 0)),(7,.v (.eref (JM aU) 0)),(8,.v (.ref b1 0)),(10,.v (.sl (Ar.lst eAm8 s3.1) g.2)),(11,.v (.sl (Ar.lst (V.int .i64) s3.2.1) g.1)),fi 12 s3.2.2]) (fun s3 g H1=>K8 g.1∧K8 g.2∧C1 Eq H0 [.tl g.1,.tl g.2,cb b1 [vi 0,vi 0,.str (⟨#[]⟩)]] H1) (fun x e l H1=>match(generalizing:=false) x with| .inl y=>∃u1:D1,K8 u1∧∃u2:D1,K8 u2∧e= .exit 0∧l=[(4,.v (.eref (Af aB) 0)),(8,.v (.ref b1 0)),(10,.v (.sl (Ar.lst eAm8 y.1) u2)),(11,.v (.sl (Ar.lst (V.int .i64) y.2) u1))]∧C1 Eq H0 [.tl u1,.tl u2,cb b1 [vi 0,vi 0,.str (⟨#[]⟩)]] H1| .inr y=>∃u1:D1,K8 u1∧∃u2:D1,K8 u2∧e= .ret∧l=[(8,.v (.ref b1 0)),fi 9 y]∧C1 Eq H0 [.tl u1,.tl u2,cb b1 [vi 0,vi 0,.str (⟨#[]⟩)]] H1) (by kernel_rfl) ?_ (⟨.nil,.nil⟩) hx ?_ ?_ ?_
 ·rintro s3 ⟨t4,t5⟩ H o ⟨ht4,ht5,hO⟩ h;clear hx;cbv;refine D5 hE ?_;cbv;refine A8 hE h (fun _ h=>?_) fun _ h=>?_
  ·cbv;refine B8 hE eAn3 h fun x7 h=>?_;cbv;refine C9 hE (g:=fun r8=>.tup [(C6 r8.1),vi r8.2]) h (ih x7 aR aT aU) (.refl _) fun r8 h=>?_;cbv;refine A8 hE h (fun _ h=>?_) fun _ h=>?_
   ·cbv;refine A9 hE hO 2 rfl rfl fun H hO=>?_;cbv;cases h;exact⟨_,_,rfl,⟨t4,ht4,t5,ht5,rfl,rfl,hO⟩,.e2 .z,rfl⟩
   cbv;refine Lq hE hO 1 rfl ht5 fun H hO=>?_;cbv;refine IG hE trivial ?_;cbv;refine OP (f:=eAm8) hE HC (by decide) (l:=s3.1) (m:=[r8.1]) (.refl _) (.lstc (.eq (eAm4 r8.1) (.refl _)) (.lst0)) h fun l9 h=>?_;cbv;refine Ls hE hO 1 rfl fun t10 H hO ht10=>?_;cbv;refine AO (f:=(V.int .i64)) hE (fun _=>rfl) (by decide) hO 0 rfl ht4 (l:=s3.2.1) (m:=[r8.1.Kind]) (.refl _) (.lstc (.refl _) (.lst0)) h fun l12 t11 H hO ht11 h=>?_;cbv;cases h;exact⟨_,⟨t11,t10⟩,rfl,.e4 (.e4 .z),rfl,ht11,ht10,hO⟩
  cbv;cases h;exact⟨_,_,rfl,⟨t4,ht4,t5,ht5,rfl,rfl,hO⟩,.e4 .z,rfl⟩
 ·exact .e rfl (.e4 (.v (.slt _ (.lst0)) (.v (.slt _ (.lst0)) (.e rfl (.z)))))
 ·exact⟨trivial,trivial,hO⟩
 clear hx
 rcases s6 with y13|y18
 ·rintro e l H ⟨t14,ht14,t15,ht15,rfl,rfl,hO⟩;cbv;refine A5 hE h (c188 N aB.Op y13.2) (.cons (.refl _) (.cons (.ro _ _) (.refl _))) fun r16 h=>?_;cbv;refine A8 hE h (fun _ h=>?_) fun _ h=>?_
  ·cbv;refine A9 hE hO 2 rfl rfl fun H hO=>?_;cbv;refine B2 hE hO 2 rfl ?_;cbv;cases h;exact hK hO (.refl _)
  cbv;refine A5 hE h (c189 N aB.Op y13.1) (.cons (.refl _) (.cons (.ro _ _) (.refl _))) fun r17 h=>?_;cbv;refine A9 hE hO 2 rfl rfl fun H hO=>?_;cbv;refine B2 hE hO 2 rfl ?_;cbv;cases h;exact hK hO (.refl _)
 rintro e l H ⟨t19,ht19,t20,ht20,rfl,rfl,hO⟩;cbv;refine B2 hE hO 2 rfl ?_;cbv;cases h;exact hK hO (.refl _)
def cf119 :Cf:=⟨[8],[],[],[],[],[]⟩
theorem c119 (N aB aR aT aU r)(h:DV N aB aR aT aU=some r):B4 prog 119 [(I0 aB),(DP aR),vi aT,(V7 aU)] (.tup [(C6 r.1),vi r.2]):=by
 unfold DV at h
 refine I4 cf119 func119 call119 ntmps119 ?_;intro E H0 K hE hK hO;cbv;refine C5 hE hO fun b1 H hO=>?_;cbv;refine A5 hE h (c136 N aB) (.refl _) fun r2 h=>?_;cbv;refine A8 hE h (fun _ h=>?_) fun _ h=>?_
 ·cbv;refine A9 hE hO 0 rfl rfl fun H hO=>?_;cbv;refine B2 hE hO 0 rfl ?_;cbv;cases h;exact hK hO (.refl _)
 cbv;refine A5 hE h (c154 N N aB aR aT aU) (.refl _) fun r3 h=>?_;cbv;refine A9 hE hO 0 rfl rfl fun H hO=>?_;cbv;refine B2 hE hO 0 rfl ?_;cbv;cases h;exact hK hO (.refl _)
def cf53 :Cf:=⟨[],[(2,5)],[],[],[],[]⟩
theorem c53 (N aB aR aT aU r)(h:AK N aB aR aT aU=some r):B4 prog 53 [(I0 aB),(DP aR),vi aT,(V7 aU)] (.bool r):=by
 unfold AK at h
 refine I4 cf53 func53 call53 ntmps53 ?_;intro E H0 K hE hK hO;cbv;refine A5 hE h (c119 N aB aR aT aU) (.refl _) fun r1 h=>?_;cbv;refine A8 hE h (fun _ h=>?_) fun _ h=>?_
 ·cbv;refine C9 hE (g:=fun r2=>(C6 r2)) h (c120 N true) (.refl _) fun r2 h=>?_;cbv;cases h;exact hK hO (.refl _)
 cbv;cases h;exact hK hO (.refl _)
def cf207 :Cf:=⟨[6,7,3000049,8000049,9000049],[(6,26)],[],[],[(51,1000007)],[]⟩
theorem c207 (N aF aI aZ r) (h:Cq N aF aI aZ=some r):B4 prog 207 [sr eAl9 aF,sr eAm0 aI,vi aZ] ((DP r)):=by
 unfold Cq at h
 refine I4 cf207 func207 call207 ntmps207 ?_;intro E H0 K hE hK hO;cbv;refine C5 hE hO fun b1 H hO=>?_;cbv;refine Aa5 hE (f:=eAl9) (by decide) hO 1 h fun l3 w2 H hw2 h hO=>?_;have hO:C1 Eq H0 (.blk w2.q.id (.arr 1 (w2.q.pre++Ar.lst (Aj eAl9) w2.row++w2.q.rest))::cb b1 [.sl [] .nil]::(Fj w2++[])) H:=hO;cbv;refine C5 hE hO fun b4 H hO=>?_;cbv;refine A9 hE hO 0 rfl rfl fun H hO=>?_;cbv;obtain⟨s7,hx,h⟩:=bind_some h;refine M8 cf207 hE M3 (γ:=Rw A7) (fun s5 g=>[(0,.v (sr eAl9 aF)),(1,.v (sr eAm0 aI)),fi 2 aZ,(6,.v (.ref b1 0)),(7,.v (.ref b4 0)),fi 8 s5.1]) (fun s5 g H1=>Bl g s5.2∧C1 Eq H0 (cb b4 [.own g.q.id g.q.lo g.q.n]:: .blk g.q.id (.arr 1 (g.q.pre++Ar.lst (Aj eAl9) g.row++g.q.rest))::cb b1 [.sl [] .nil]::(Fj g++[])) H1) (fun x e l H1=>∃u1:Rw A7,Bl u1 x∧e= .exit 0∧l=[(6,.v (.ref b1 0)),(7,.v (.ref b4 0))]∧C1 Eq H0 (cb b4 [.own u1.q.id u1.q.lo u1.q.n]:: .blk u1.q.id (.arr 1 (u1.q.pre++Ar.lst (Aj eAl9) u1.row++u1.q.rest))::cb b1 [.sl [] .nil]::(Fj u1++[])) H1) (by kernel_rfl) ?_ w2 hx ?_ ?_ ?_
 ·rintro s5 w6 H o ⟨hw6,hO⟩ h;clear hx;cbv;refine D5 hE ?_;cbv;refine A8 hE h (fun _ h=>?_) fun _ h=>?_
  ·cbv;refine B8 hE eAm9 h fun x8 h=>?_;cbv;refine A8 hE h (fun _ h=>?_) fun _ h=>?_
   ·cbv;obtain⟨x9,ex9,h⟩:=bind_some h;obtain⟨x10,hxx10,h⟩:=bind_some h
    obtain⟨hjx10,t11,hrx10,hax10⟩:=hw6.at hxx10
    obtain⟨Rx10,hO,hbx10⟩:=hO.rtake (w:=w6) (T1:=[]) (T2:=[]) 3 rfl hrx10;refine Lq hE hO 0 rfl hax10 fun H hO=>?_;cbv;refine B2 hE hO 1 rfl ?_;cbv;refine XV hE eAm9 ex9 ?_;cbv;refine B2 hE hO 1 rfl ?_;cbv;refine XV hE eAm9 ex9 ?_;cbv;refine Pg hE (f:=Aj eAl9) hO hw6.ok 2 rfl hjx10 ?_;cbv;refine Ul hE (f:=Aj eAl9) (fun _=>rfl) hO hw6.ok 2 rfl hjx10.1 hrx10 ?_;cbv;refine XV hE eAm9 ex9 ?_;cbv;refine B8 hE eAm5 h fun x15 h=>?_;cbv;refine IG hE trivial ?_;cbv;refine OP (f:=eAl9) hE Kb (by decide) (l:=x10) (m:=[x15]) (.refl _) (.lstc (.eq (eAm5 x15) (.refl _)) (.lst0)) h fun l16 h=>?_;cbv;refine Ls hE hO 0 rfl fun t12 H hO htt12=>?_;cbv;refine Pg hE (f:=Aj eAl9) hO hw6.ok 2 rfl hjx10 ?_;cbv;refine Ri hE (f:=Aj eAl9) (tz:=1) (x':=(l16,t12)) (fun _=>⟨.sl (Ar.lst eAl9 l16) t12,.refl _,rfl,rfl,rfl⟩) (by decide) hO hw6.ok 2 rfl hjx10 fun H hO=>?_;cbv;obtain⟨l14,hu,h⟩:=bind_some h;obtain⟨w13,hqw13,hw13,hO⟩:∃w0:Rw A7,w0.q=w6.q∧Bl w0 l14∧C1 Eq H0 (cb b4 [.own w0.q.id w0.q.lo w0.q.n]:: .blk w0.q.id (.arr 1 (w0.q.pre++Ar.lst (Aj eAl9) w0.row++w0.q.rest))::cb b1 [.sl [] .nil]::(Fj w0++[])) H:=⟨(⟨w6.q,w6.row.set (x9.Var).toNat (l16,t12)⟩:Rw A7),rfl,by rw[PK hu];exact hw6.put _ htt12,(by have e:=hbx10 (l16,t12) H [cb b4 [.own w6.q.id w6.q.lo w6.q.n],.blk w6.q.id (.arr 1 (w6.q.pre++Ar.lst (Aj eAl9) (w6.row.set (x9.Var).toNat (l16,t12))++w6.q.rest)),cb b1 [.sl [] .nil]] hO;simp only[List.cons_append,List.nil_append,List.append_nil]at e ⊢;exact e)⟩
    try rw[←hqw13]
    cases h;exact⟨_,w13,rfl,.e2 (.e4 .z),rfl,hw13,hO⟩
   cbv;cases h;exact⟨_,w6,rfl,.e2 (.e4 .z),rfl,hw6,hO⟩
  cbv;cases h;exact⟨_,_,rfl,⟨w6,hw6,rfl,rfl,hO⟩,.e2 .z,rfl⟩
 ·exact .e2 (.e4 .z)
 ·exact⟨hw2,hO⟩
 clear hx;rintro e l H ⟨w17,hw17,rfl,rfl,hO⟩;cbv;refine QL hE (e:=eAn9) eAo2 hO hw17 0 1 rfl rfl rfl (by decide) fun H hO=>?_;have hO:C1 Eq H0 [cb b4 [sr eAn9 s7],cb b1 [.sl [] .nil]] H:=hO.rdrop (w:=w17) (T1:=[]) (T2:=[]) 2 rfl;cbv;refine B2 hE hO 0 rfl ?_;cbv;refine A9 hE hO 1 rfl rfl fun H hO=>?_;cbv;refine B2 hE hO 1 rfl ?_;cbv;cases h;exact hK hO (.refl _)
def cf163 :Cf:=⟨[],[(5,21)],[],[],[],[]⟩
theorem c163 (N aA aF aD aG r) (h:CP N aA aF aD aG=some r):B4 prog 163 [(C3 aA),sr eAl9 aF,sr eAm0 aD,vi aG] (sr eAm1 r):=by
 unfold CP at h
 refine I4 cf163 func163 call163 ntmps163 ?_;intro E H0 K hE hK hO;cbv;replace hO:=hO.tl0 (t:=.nil) rfl;obtain⟨s3,hx,h⟩:=bind_some h;refine M8 cf163 hE M3 (γ:=D1) (fun s1 g=>[(1,.v (sr eAl9 aF)),(2,.v (sr eAm0 aD)),(4,.v (.eref (D3 aA) 0)),(9,.v (.sl (Ar.lst eAm1 s1.1) g)),fi 10 s1.2]) (fun s1 g H1=>K8 g∧C1 Eq H0 [.tl g] H1) (fun x e l H1=>∃u1:D1,K8 u1∧e= .exit 0∧l=[(9,.v (.sl (Ar.lst eAm1 x) u1))]∧C1 Eq H0 [.tl u1] H1) (by kernel_rfl) ?_ .nil hx ?_ ?_ ?_
 ·rintro s1 t2 H o ⟨ht2,hO⟩ h;clear hx;cbv;refine D5 hE ?_;cbv;refine A8 hE h (fun _ h=>?_) fun _ h=>?_
  ·cbv;refine B8 hE eAm5 h fun x4 h=>?_;cbv;refine A8 hE h (fun _ h=>?_) fun _ h=>?_
   ·cbv;refine C9 hE (g:=fun r5=>(DP r5)) h (c207 N aF aD s1.2) (.refl _) fun r5 h=>?_;cbv;refine B8 hE eAm5 h fun x6 h=>?_;cbv;refine A5 hE h (c53 N aA.cN r5 aA.Var x6) (.refl _) fun r7 h=>?_;cbv;refine A8 hE h (fun _ h=>?_) fun _ h=>?_
    ·cbv;refine AO (f:=eAm1) hE Y1 (by decide) hO 0 rfl ht2 (l:=s1.1) (m:=[[(⟨aA.Var,s1.2⟩:A2)]]) (.refl _) (.lstc (.eq (eAn1 ([(⟨aA.Var,s1.2⟩:A2)])) (.lit _ (F9 ((eAm9 (⟨aA.Var,s1.2⟩:A2)).symm) (E6)))) (.lst0)) h fun l9 t8 H hO ht8 h=>?_;cbv;cases h;exact⟨_,t8,rfl,.e rfl (.e4 .z),rfl,ht8,hO⟩
    cbv;cases h;exact⟨_,t2,rfl,.e rfl (.e4 .z),rfl,ht2,hO⟩
   cbv;cases h;exact⟨_,t2,rfl,.e rfl (.e4 .z),rfl,ht2,hO⟩
  cbv;cases h;exact⟨_,_,rfl,⟨t2,ht2,rfl,rfl,hO⟩,.e rfl .z,rfl⟩
 ·exact .e rfl (.e2 (.v (.slt _ (.lst0)) (.e rfl (.z))))
 ·exact⟨trivial,hO⟩
 clear hx;rintro e l H ⟨t10,ht10,rfl,rfl,hO⟩;cbv;cases h;exact hK hO (.ro _ _)
def cf208 :Cf:=⟨[],[(3,16),(3000004,0),(3000004,1),(3000004,3),(3000004,6),(3000004,8),(3000004,9),(3000005,0),(3000005,1),(3000005,3),(3000005,6),(3000005,8),(3000005,9)],[],[2000004,2000005],[],[]⟩
set_option maxHeartbeats 2000000 in
theorem c208 (N aC aD r) (h:G3 N aC aD=some r):B4 prog 208 [sr eAm0 aC,sr eAm0 aD] (sr eAm0 r):=by
 unfold G3 at h
 refine I4 cf208 func208 call208 ntmps208 ?_;intro E H0 K hE hK hO;cbv;replace hO:=hO.tl0 (t:=.nil) rfl;obtain⟨s3,hx,h⟩:=bind_some h;refine M8 cf208 hE M3 (γ:=D1) (fun s1 g=>[(0,.v (sr eAm0 s1.1)),(1,.v (sr eAm0 s1.2.1)),(5,.v (.sl (Ar.lst eAm0 s1.2.2) g))]) (fun s1 g H1=>K8 g∧C1 Eq H0 [.tl g] H1) (fun x e l H1=>∃u1:D1,K8 u1∧e= .exit 0∧l=[(5,.v (.sl (Ar.lst eAm0 x) u1))]∧C1 Eq H0 [.tl u1] H1) (by kernel_rfl) ?_ .nil hx ?_ ?_ ?_
 ·rintro s1 t2 H o ⟨ht2,hO⟩ h;clear hx;cbv;refine D5 hE ?_;cbv;refine D5 hE ?_;cbv;refine A8 hE h (fun _ h=>?_) fun _ h=>?_
  ·cbv;refine D5 hE ?_;cbv;refine D5 hE ?_;cbv;refine A8 hE h (fun _ h=>?_) fun _ h=>?_
   ·cbv;obtain⟨s4,hx,h⟩:=bind_some h;refine S3 cf208 hE M3 (fun e l H1=>∃u1:D1,K8 u1∧e= .normal∧l=[(0,.v (sr eAm0 s4.1)),(1,.v (sr eAm0 s1.2.1)),(5,.v (.sl (Ar.lst eAm0 s4.2) u1))]∧C1 Eq H0 [.tl u1] H1) (by kernel_rfl) ?_ ?_
    ·clear h;have h:=hx;clear hx;cbv;obtain⟨x85,ex85,h⟩:=bind_some h;obtain⟨l206,el206,h⟩:=bind_some h;obtain⟨l285,el285,h⟩:=bind_some h
     repeat' first|refine And.intro ?_ ?_|(refine B8 hE eAm9 (Er ex85) fun x85 hh=>?_;obtain rfl:=G2 hh;cbv)|(refine AO (f:=eAm0) hE H5 (by decide) hO 0 rfl ht2 (l:=s1.2.2) (m:=[x85]) (.refl _) (.lstc (.eq (eAm9 x85) (.refl _)) (.lst0)) (Er el206) fun l206 t205 H hO ht205 hh=>?_;obtain rfl:=G2 hh;cbv)|(refine FW hE (f:=eAm0) H5 (Er el285) fun l285 t286 hh=>?_;obtain rfl:=G2 hh;cbv)|(have h:=G2 h;subst h;exact⟨_,⟨t205,ht205,rfl,rfl,hO⟩,.v (.ro _ _) (.e2 .z),rfl⟩)
    clear hx;rintro e l H ⟨t445,ht445,rfl,rfl,hO⟩;cbv;cases h;exact⟨_,t445,rfl,.e rfl (.e2 .z),rfl,ht445,hO⟩
   cbv;refine A8 hE h (fun _ h=>?_) fun _ h=>?_
   ·cbv;refine B8 hE eAm9 h fun x446 h=>?_;cbv;refine B8 hE eAm9 h fun x447 h=>?_;cbv;refine A8 hE h (fun _ h=>?_) fun _ h=>?_
    ·cbv;obtain⟨s448,hx,h⟩:=bind_some h;refine S3 cf208 hE M3 (fun e l H1=>∃u1:D1,K8 u1∧e= .normal∧l=[(0,.v (sr eAm0 s448.1)),(1,.v (sr eAm0 s1.2.1)),(5,.v (.sl (Ar.lst eAm0 s448.2) u1))]∧C1 Eq H0 [.tl u1] H1) (by kernel_rfl) ?_ ?_
     ·clear h;have h:=hx;clear hx;cbv;obtain⟨x529,ex529,h⟩:=bind_some h;obtain⟨l650,el650,h⟩:=bind_some h;obtain⟨l729,el729,h⟩:=bind_some h
      repeat' first|refine And.intro ?_ ?_|(refine B8 hE eAm9 (Er ex529) fun x529 hh=>?_;obtain rfl:=G2 hh;cbv)|(refine AO (f:=eAm0) hE H5 (by decide) hO 0 rfl ht2 (l:=s1.2.2) (m:=[x529]) (.refl _) (.lstc (.eq (eAm9 x529) (.refl _)) (.lst0)) (Er el650) fun l650 t649 H hO ht649 hh=>?_;obtain rfl:=G2 hh;cbv)|(refine FW hE (f:=eAm0) H5 (Er el729) fun l729 t730 hh=>?_;obtain rfl:=G2 hh;cbv)|(have h:=G2 h;subst h;exact⟨_,⟨t649,ht649,rfl,rfl,hO⟩,.v (.ro _ _) (.e2 .z),rfl⟩)
     clear hx;rintro e l H ⟨t889,ht889,rfl,rfl,hO⟩;cbv;cases h;exact⟨_,t889,rfl,.e rfl (.e2 .z),rfl,ht889,hO⟩
    cbv;obtain⟨s890,hx,h⟩:=bind_some h;refine S3 cf208 hE M3 (fun e l H1=>∃u1:D1,K8 u1∧e= .normal∧l=[(0,.v (sr eAm0 s1.1)),(1,.v (sr eAm0 s890.1)),(5,.v (.sl (Ar.lst eAm0 s890.2) u1))]∧C1 Eq H0 [.tl u1] H1) (by kernel_rfl) ?_ ?_
    ·clear h;have h:=hx;clear hx;cbv;obtain⟨x971,ex971,h⟩:=bind_some h;obtain⟨l1092,el1092,h⟩:=bind_some h;obtain⟨l1171,el1171,h⟩:=bind_some h
     repeat' first|refine And.intro ?_ ?_|(refine B8 hE eAm9 (Er ex971) fun x971 hh=>?_;obtain rfl:=G2 hh;cbv)|(refine AO (f:=eAm0) hE H5 (by decide) hO 0 rfl ht2 (l:=s1.2.2) (m:=[x971]) (.refl _) (.lstc (.eq (eAm9 x971) (.refl _)) (.lst0)) (Er el1092) fun l1092 t1091 H hO ht1091 hh=>?_;obtain rfl:=G2 hh;cbv)|(refine FW hE (f:=eAm0) H5 (Er el1171) fun l1171 t1172 hh=>?_;obtain rfl:=G2 hh;cbv)|(have h:=G2 h;subst h;exact⟨_,⟨t1091,ht1091,rfl,rfl,hO⟩,.e rfl (.v (.ro _ _) (.e rfl (.z))),rfl⟩)
    clear hx;rintro e l H ⟨t1331,ht1331,rfl,rfl,hO⟩;cbv;cases h;exact⟨_,t1331,rfl,.e rfl (.e2 .z),rfl,ht1331,hO⟩
   cbv;obtain⟨s1332,hx,h⟩:=bind_some h;refine S3 cf208 hE M3 (fun e l H1=>∃u1:D1,K8 u1∧e= .normal∧l=[(0,.v (sr eAm0 s1.1)),(1,.v (sr eAm0 s1332.1)),(5,.v (.sl (Ar.lst eAm0 s1332.2) u1))]∧C1 Eq H0 [.tl u1] H1) (by kernel_rfl) ?_ ?_
   ·clear h;have h:=hx;clear hx;cbv;obtain⟨x1413,ex1413,h⟩:=bind_some h;obtain⟨l1534,el1534,h⟩:=bind_some h;obtain⟨l1613,el1613,h⟩:=bind_some h
    repeat' first|refine And.intro ?_ ?_|(refine B8 hE eAm9 (Er ex1413) fun x1413 hh=>?_;obtain rfl:=G2 hh;cbv)|(refine AO (f:=eAm0) hE H5 (by decide) hO 0 rfl ht2 (l:=s1.2.2) (m:=[x1413]) (.refl _) (.lstc (.eq (eAm9 x1413) (.refl _)) (.lst0)) (Er el1534) fun l1534 t1533 H hO ht1533 hh=>?_;obtain rfl:=G2 hh;cbv)|(refine FW hE (f:=eAm0) H5 (Er el1613) fun l1613 t1614 hh=>?_;obtain rfl:=G2 hh;cbv)|(have h:=G2 h;subst h;exact⟨_,⟨t1533,ht1533,rfl,rfl,hO⟩,.e rfl (.v (.ro _ _) (.e rfl (.z))),rfl⟩)
   clear hx;rintro e l H ⟨t1773,ht1773,rfl,rfl,hO⟩;cbv;cases h;exact⟨_,t1773,rfl,.e rfl (.e2 .z),rfl,ht1773,hO⟩
  cbv;cases h;exact⟨_,_,rfl,⟨t2,ht2,rfl,rfl,hO⟩,.e rfl .z,rfl⟩
 ·exact .e2 (.v (.slt _ (.lst0)) (.z))
 ·exact⟨trivial,hO⟩
 clear hx;rintro e l H ⟨t1774,ht1774,rfl,rfl,hO⟩;cbv;cases h;exact hK hO (.ro _ _)
def cf248 :Cf:=⟨[],[(6,8)],[],[],[],[]⟩
theorem c248 (N aC aD r) (h:CQ N aC aD=some r):B4 prog 248 [sr eAm0 aC,sr eAm0 aD] (.bool r):=by
 unfold CQ at h
 refine I4 cf248 func248 call248 ntmps248 ?_;intro E H0 K hE hK hO;cbv;refine D5 hE ?_;cbv;refine D5 hE ?_;cbv;refine A8 hE h (fun _ h=>?_) fun _ h=>?_
 ·cbv;cases h;exact hK hO (.refl _)
 cbv;obtain⟨s2,hx,h⟩:=bind_some h;refine F2 cf248 hE M3 (fun s1=>[(0,.v (sr eAm0 aC)),(1,.v (sr eAm0 aD)),fi 5 s1]) (fun s1 H1=>C1 Eq H0 [] H1) (fun x e l H1=>match(generalizing:=false) x with| .inl y=>e= .exit 0∧l=[]∧C1 Eq H0 [] H1| .inr y=>e= .ret∧l=[(4,.b false)]∧C1 Eq H0 [] H1) (by kernel_rfl) ?_ hx ?_ hO ?_
 ·intro s1 H o hO h;clear hx;cbv;refine D5 hE ?_;cbv;refine A8 hE h (fun _ h=>?_) fun _ h=>?_
  ·cbv;refine B8 hE eAm9 h fun x3 h=>?_;cbv;refine B8 hE eAm9 h fun x4 h=>?_;cbv;refine A8 hE h (fun _ h=>?_) fun _ h=>?_
   ·cbv;cases h;exact⟨_,_,rfl,⟨rfl,rfl,hO⟩,.b rfl (.z),rfl⟩
   cbv;cases h;exact⟨_,rfl,.e rfl (.e2 .z),rfl,hO⟩
  cbv;cases h;exact⟨_,_,rfl,⟨rfl,rfl,hO⟩,.z,rfl⟩
 ·exact .e rfl (.e2 .z)
 clear hx
 rcases s2 with y5|y6
 ·rintro e l H ⟨rfl,rfl,hO⟩;cbv;cases h;exact hK hO (.refl _)
 rintro e l H ⟨rfl,rfl,hO⟩;cbv;cases h;exact hK hO (.refl _)
theorem c209 (N aF aI r) (h:S2 N aF aI=some r):Ab7 prog 209 [sr eAm0 aI] (Ar.lst eAm1 aF) (Ar.lst eAm1 r):=by
 unfold S2 at h
 intro H0 tl0 htl0 hap;refine VV (T:=TT) cf0 M3 func209 (by rfl) (by kernel_rfl) call209 ntmps209 (by rfl) (by rfl) ?_;intro E K hE hK;have hO:C1 Eq (E1 H0 tl0) [.tl tl0] H0:=C1.startT hap;cbv;obtain⟨s2,hx,h⟩:=bind_some h;refine F2 cf0 hE M3 (fun s1=>[(0,.v (.sl (Ar.lst eAm1 aF) tl0)),(1,.v (sr eAm0 aI)),fi 5 s1]) (fun s1 H1=>C1 Eq (E1 H0 tl0) [.tl tl0] H1) (fun x e l H1=>match(generalizing:=false) x with| .inl y=>e= .exit 0∧l=[(0,.v (.sl (Ar.lst eAm1 aF) tl0)),(1,.v (sr eAm0 aI))]∧C1 Eq (E1 H0 tl0) [.tl tl0] H1| .inr y=>e= .ret∧l=[(4,.v (.sl (Ar.lst eAm1 aF) tl0))]∧C1 Eq (E1 H0 tl0) [.tl tl0] H1) (by kernel_rfl) ?_ hx ?_ hO ?_
 ·intro s1 H o hO h;clear hx;cbv;refine D5 hE ?_;cbv;refine A8 hE h (fun _ h=>?_) fun _ h=>?_
  ·cbv;refine B8 hE eAn1 h fun x3 h=>?_;cbv;refine A5 hE h (c248 N x3 aI) (.refl _) fun r4 h=>?_;cbv;refine A8 hE h (fun _ h=>?_) fun _ h=>?_
   ·cbv;cases h;exact⟨_,_,rfl,⟨rfl,rfl,hO⟩,.e rfl .z,rfl⟩
   cbv;cases h;exact⟨_,rfl,.e rfl (.e2 .z),rfl,hO⟩
  cbv;cases h;exact⟨_,_,rfl,⟨rfl,rfl,hO⟩,.e2 .z,rfl⟩
 ·exact .e rfl (.e2 .z)
 clear hx
 rcases s2 with y5|y8
 ·rintro e l H ⟨rfl,rfl,hO⟩;cbv;refine AO (f:=eAm1) hE Y1 (by decide) hO 0 rfl htl0 (l:=aF) (m:=[aI]) (.refl _) (.lstc (.eq (eAn1 aI) (.refl _)) (.lst0)) h fun l7 t6 H hO ht6 h=>?_;cbv;cases h;exact hK _ _ _ 0 _ (.refl _) (by rfl) ht6 hO
 rintro e l H ⟨rfl,rfl,hO⟩;cbv;cases h;exact hK _ _ _ 0 _ (.refl _) (by rfl) htl0 hO
theorem c249 (N aI aZ r) (h:DE N aI aZ=some r):B4 prog 249 [sr eAm0 aI,vi aZ] (.bool r):=by
 unfold DE at h
 refine I4 cf0 func249 call249 ntmps249 ?_;intro E H0 K hE hK hO;cbv;obtain⟨s2,hx,h⟩:=bind_some h;refine F2 cf0 hE M3 (fun s1=>[(0,.v (sr eAm0 aI)),fi 1 aZ,fi 5 s1]) (fun s1 H1=>C1 Eq H0 [] H1) (fun x e l H1=>match(generalizing:=false) x with| .inl y=>e= .exit 0∧l=[]∧C1 Eq H0 [] H1| .inr y=>e= .ret∧l=[(4,.b true)]∧C1 Eq H0 [] H1) (by kernel_rfl) ?_ hx ?_ hO ?_
 ·intro s1 H o hO h;clear hx;cbv;refine D5 hE ?_;cbv;refine A8 hE h (fun _ h=>?_) fun _ h=>?_
  ·cbv;refine B8 hE eAm9 h fun x3 h=>?_;cbv;refine A8 hE h (fun _ h=>?_) fun _ h=>?_
   ·cbv;cases h;exact⟨_,_,rfl,⟨rfl,rfl,hO⟩,.b rfl (.z),rfl⟩
   cbv;cases h;exact⟨_,rfl,.e rfl (.e2 .z),rfl,hO⟩
  cbv;cases h;exact⟨_,_,rfl,⟨rfl,rfl,hO⟩,.z,rfl⟩
 ·exact .e rfl (.e2 .z)
 clear hx
 rcases s2 with y4|y5
 ·rintro e l H ⟨rfl,rfl,hO⟩;cbv;cases h;exact hK hO (.refl _)
 rintro e l H ⟨rfl,rfl,hO⟩;cbv;cases h;exact hK hO (.refl _)
theorem c210 (N aC aD r) (h:BJ N aC aD=some r):B4 prog 210 [sr eAm0 aC,sr eAm0 aD] (.bool r):=by
 unfold BJ at h
 refine I4 cf0 func210 call210 ntmps210 ?_;intro E H0 K hE hK hO;cbv;obtain⟨s2,hx,h⟩:=bind_some h;refine F2 cf0 hE M3 (fun s1=>[(0,.v (sr eAm0 aC)),(1,.v (sr eAm0 aD)),fi 5 s1]) (fun s1 H1=>C1 Eq H0 [] H1) (fun x e l H1=>match(generalizing:=false) x with| .inl y=>e= .exit 0∧l=[]∧C1 Eq H0 [] H1| .inr y=>e= .ret∧l=[(4,.b false)]∧C1 Eq H0 [] H1) (by kernel_rfl) ?_ hx ?_ hO ?_
 ·intro s1 H o hO h;clear hx;cbv;refine D5 hE ?_;cbv;refine A8 hE h (fun _ h=>?_) fun _ h=>?_
  ·cbv;refine B8 hE eAm9 h fun x3 h=>?_;cbv;refine A5 hE h (c249 N aD x3.At) (.refl _) fun r4 h=>?_;cbv;refine A8 hE h (fun _ h=>?_) fun _ h=>?_
   ·cbv;cases h;exact⟨_,_,rfl,⟨rfl,rfl,hO⟩,.b rfl (.z),rfl⟩
   cbv;cases h;exact⟨_,rfl,.e rfl (.e2 .z),rfl,hO⟩
  cbv;cases h;exact⟨_,_,rfl,⟨rfl,rfl,hO⟩,.z,rfl⟩
 ·exact .e rfl (.e2 .z)
 clear hx
 rcases s2 with y5|y6
 ·rintro e l H ⟨rfl,rfl,hO⟩;cbv;cases h;exact hK hO (.refl _)
 rintro e l H ⟨rfl,rfl,hO⟩;cbv;cases h;exact hK hO (.refl _)
def cf211 :Cf:=⟨[],[(4,29)],[],[],[],[]⟩
theorem c211 (N aA aF aD aI r) (h:EF N aA aF aD aI=some r):B4 prog 211 [(C3 aA),sr eAl9 aF,sr eAm0 aD,sr eAm0 aI] (.bool r):=by
 unfold EF at h
 refine I4 cf211 func211 call211 ntmps211 ?_;intro E H0 K hE hK hO;cbv;refine B8 hE eAm9 h fun x1 h=>?_;cbv;obtain⟨s3,hx,h⟩:=bind_some h;refine F2 cf211 hE M3 (fun s2=>[(1,.v (sr eAl9 aF)),(2,.v (sr eAm0 aD)),(3,.v (sr eAm0 aI)),(4,.v (.eref (D3 aA) 0)),fi 9 s2]) (fun s2 H1=>C1 Eq H0 [] H1) (fun x e l H1=>match(generalizing:=false) x with| .inl y=>e= .exit 0∧l=[]∧C1 Eq H0 [] H1| .inr y=>e= .ret∧l=[(8,.b false)]∧C1 Eq H0 [] H1) (by kernel_rfl) ?_ hx ?_ hO ?_
 ·intro s2 H o hO h;clear hx;cbv;refine D5 hE ?_;cbv;refine B8 hE eAm9 h fun x4 h=>?_;cbv;refine A8 hE h (fun _ h=>?_) fun _ h=>?_
  ·cbv;refine C9 hE (g:=fun r5=>.bool r5) h (c249 N aI s2) (.refl _) fun r5 h=>?_;cbv;refine A8 hE h (fun _ h=>?_) fun _ h=>?_
   ·cbv;refine B8 hE eAm5 h fun x6 h=>?_;cbv;refine A8 hE h (fun _ h=>?_) fun _ h=>?_
    ·cbv;refine C9 hE (g:=fun r7=>sr eAm0 r7) h (c208 N aD aI) (.refl _) fun r7 h=>?_;cbv;refine C9 hE (g:=fun r8=>(DP r8)) h (c207 N aF r7 s2) (.refl _) fun r8 h=>?_;cbv;refine B8 hE eAm5 h fun x9 h=>?_;cbv;refine A5 hE h (c53 N aA.cN r8 aA.Var x9) (.refl _) fun r10 h=>?_;cbv;refine A8 hE h (fun _ h=>?_) fun _ h=>?_
     ·cbv;cases h;exact⟨_,_,rfl,⟨rfl,rfl,hO⟩,.b rfl (.z),rfl⟩
     cbv;cases h;exact⟨_,rfl,.e rfl (.e4 .z),rfl,hO⟩
    cbv;cases h;exact⟨_,rfl,.e rfl (.e4 .z),rfl,hO⟩
   cbv;cases h;exact⟨_,rfl,.e rfl (.e4 .z),rfl,hO⟩
  cbv;cases h;exact⟨_,_,rfl,⟨rfl,rfl,hO⟩,.z,rfl⟩
 ·exact .e rfl (.e4 .z)
 clear hx
 rcases s3 with y11|y12
 ·rintro e l H ⟨rfl,rfl,hO⟩;cbv;cases h;exact hK hO (.refl _)
 rintro e l H ⟨rfl,rfl,hO⟩;cbv;cases h;exact hK hO (.refl _)
def cf168 :Cf:=⟨[],[(4,22),(5,10)],[],[],[],[]⟩
theorem c168 (N aA aF aD aI r)(h:CO N aA aF aD aI=some r):B4 prog 168 [(C3 aA),sr eAl9 aF,sr eAm0 aD,sr eAm0 aI] (.bool r):=by
 unfold CO at h
 refine I4 cf168 func168 call168 ntmps168 ?_;intro E H0 K hE hK hO;cbv;refine A8 hE h (fun _ h=>?_) fun _ h=>?_
 ·cbv;refine A5 hE h (c211 N aA aF aD aI) (.refl _) fun r1 h=>?_;cbv;cases h;exact hK hO (.refl _)
 cbv;refine A8 hE h (fun _ h=>?_) fun _ h=>?_
 ·cbv;refine D5 hE ?_;cbv;refine B8 hE eAm9 h fun x2 h=>?_;cbv;refine B8 hE eAm5 h fun x3 h=>?_;cbv;refine B8 hE eAm9 h fun x4 h=>?_;cbv;refine B8 hE eAm5 h fun x5 h=>?_;cbv;cases h;exact hK hO (.refl _)
 cbv;refine C9 hE (g:=fun r6=>sr eAm0 r6) h (c208 N aD aI) (.refl _) fun r6 h=>?_;cbv;refine D5 hE ?_;cbv;refine C9 hE (g:=fun r7=>(DP r7)) h (c207 N aF r6 (Ar.len aF)) (.refl _) fun r7 h=>?_;cbv;refine A5 hE h (c53 N aA.cN r7 (-1) (⟨0,0,0,0,[]⟩:A7)) (.cons (.refl _) (.cons (.refl _) (.cons (.refl _) (.cons (.agg (.cons (.refl _) (.cons (.refl _) (.cons (.refl _) (.cons (.refl _) (.cons (.lit _ (E6)) (.refl _))))))) (.refl _))))) fun r8 h=>?_;cbv;cases h;exact hK hO (.refl _)
def cf129 :Cf:=⟨[],[(17,7)],[],[],[],[]⟩
def Tn (N n:Nat):Prop:=∀(aA:A1) (aF:List A7) (aD:List A2) (aG:Int) (r:(List (List A2))),J9 N n aA aF aD aG=some r→B4 prog 129 [(C3 aA),sr eAl9 aF,sr eAm0 aD,vi aG] (sr eAm1 r)
def cf164 :Cf:=⟨[],[(9,14)],[],[],[],[]⟩
def ZQ (N n:Nat):Prop:=∀(aV:List A1) (aF:List A7) (aD:List A2) (aG:Int) (r:(List (List A2))),Y3 N n aV aF aD aG=some r→B4 prog 164 [sr eAm3 aV,sr eAl9 aF,sr eAm0 aD,vi aG] (sr eAm1 r)
def Ai0 (N n:Nat):Prop:=∀(aV:List A1) (aF:List A7) (aD:List A2) (aG:Int) (r:(List (List A2))),DF N n aV aF aD aG=some r→B4 prog 165 [sr eAm3 aV,sr eAl9 aF,sr eAm0 aD,vi aG] (sr eAm1 r)
def cf166 :Cf:=⟨[],[(13,8),(14,10)],[],[],[],[]⟩
def Ah9 (N n:Nat):Prop:=∀(aV:List A1) (aF:List A7) (aD:List A2) (aG:Int) (r:(List (List A2))),DG N n aV aF aD aG=some r→B4 prog 166 [sr eAm3 aV,sr eAl9 aF,sr eAm0 aD,vi aG] (sr eAm1 r)
def cf167 :Cf:=⟨[],[(8,13)],[],[],[],[]⟩
def ZP (N n:Nat):Prop:=∀(aA:A1) (aF:List A7) (aD:List A2) (aG:Int) (r:(List (List A2))),V2 N n aA aF aD aG=some r→B4 prog 167 [(C3 aA),sr eAl9 aF,sr eAm0 aD,vi aG] (sr eAm1 r)
theorem k129 (N n:Nat) (ih129:Tn N n) (ih164:ZQ N n) (ih165:Ai0 N n) (ih166:Ah9 N n) (ih167:ZP N n):Tn N (n+1):=by
 intro aA aF aD aG r h
 unfold J9 at h
 refine I4 cf129 func129 call129 ntmps129 ?_;intro E H0 K hE hK hO;cbv;refine A8 hE h (fun _ h=>?_) fun _ h=>?_
 ·cbv;refine A5 hE h (c163 N aA aF aD aG) (.refl _) fun r1 h=>?_;cbv;cases h;exact hK hO (.refl _)
 cbv;refine A8 hE h (fun _ h=>?_) fun _ h=>?_
 ·cbv;refine A5 hE h (ih164 aA.cL aF aD aG) (.refl _) fun r2 h=>?_;cbv;cases h;exact hK hO (.refl _)
 cbv;refine A8 hE h (fun _ h=>?_) fun _ h=>?_
 ·cbv;refine A5 hE h (ih165 aA.cL aF aD aG) (.refl _) fun r3 h=>?_;cbv;cases h;exact hK hO (.refl _)
 cbv;refine A8 hE h (fun _ h=>?_) fun _ h=>?_
 ·cbv;refine A5 hE h (ih166 aA.cL aF aD aG) (.refl _) fun r4 h=>?_;cbv;cases h;exact hK hO (.refl _)
 cbv;refine A8 hE h (fun _ h=>?_) fun _ h=>?_
 ·cbv;refine A5 hE h (ih167 aA aF aD aG) (.refl _) fun r5 h=>?_;cbv;cases h;exact hK hO (.refl _)
 cbv;refine B8 hE eAm2 h fun x6 h=>?_;cbv;refine A5 hE h (ih129 x6 aF aD aG) (.refl _) fun r7 h=>?_;cbv;replace hO:=hO.tl0 (t:=.nil) rfl;obtain⟨s10,hx,h⟩:=bind_some h;refine M8 cf129 hE M3 (γ:=D1) (fun s8 g=>[(1,.v (sr eAl9 aF)),(2,.v (sr eAm0 aD)),(4,.v (.eref (D3 aA) 0)),(9,.v (sr eAm1 r7)),(10,.v (.sl (Ar.lst eAm1 s8.1) g)),fi 11 s8.2]) (fun s8 g H1=>K8 g∧C1 Eq H0 [.tl g] H1) (fun x e l H1=>∃u1:D1,K8 u1∧e= .exit 1∧l=[(10,.v (.sl (Ar.lst eAm1 x) u1))]∧C1 Eq H0 [.tl u1] H1) (by kernel_rfl) ?_ .nil hx ?_ ?_ ?_
 ·rintro s8 t9 H o ⟨ht9,hO⟩ h;clear hx;cbv;refine D5 hE ?_;cbv;refine A8 hE h (fun _ h=>?_) fun _ h=>?_
  ·cbv;refine B8 hE eAn1 h fun x11 h=>?_;cbv;refine A5 hE h (c168 N aA aF aD x11) (.refl _) fun r12 h=>?_;cbv;refine A8 hE h (fun _ h=>?_) fun _ h=>?_
   ·cbv;refine B8 hE eAn1 h fun x13 h=>?_;cbv;refine AO (f:=eAm1) hE Y1 (by decide) hO 0 rfl ht9 (l:=s8.1) (m:=[x13]) (.refl _) (.lstc (.eq (eAn1 x13) (.refl _)) (.lst0)) h fun l15 t14 H hO ht14 h=>?_;cbv;cases h;exact⟨_,t14,rfl,.e2 (.e4 .z),rfl,ht14,hO⟩
   cbv;cases h;exact⟨_,t9,rfl,.e2 (.e4 .z),rfl,ht9,hO⟩
  cbv;cases h;exact⟨_,_,rfl,⟨t9,ht9,rfl,rfl,hO⟩,.e rfl .z,rfl⟩
 ·exact .e4 (.v (.slt _ (.lst0)) (.e rfl (.z)))
 ·exact⟨trivial,hO⟩
 clear hx;rintro e l H ⟨t16,ht16,rfl,rfl,hO⟩;cbv;cases h;exact hK hO (.ro _ _)
theorem k164 (N n:Nat) (ih129:Tn N n) (ih164:ZQ N n):ZQ N (n+1):=by
 intro aV aF aD aG r h
 unfold Y3 at h
 refine I4 cf164 func164 call164 ntmps164 ?_;intro E H0 K hE hK hO;cbv;refine B8 hE eAm2 h fun x1 h=>?_;cbv;refine A5 hE h (ih129 x1 aF aD aG) (.refl _) fun r2 h=>?_;cbv;refine D5 hE ?_;cbv;refine A8 hE h (fun _ h=>?_) fun _ h=>?_
 ·cbv;cases h;exact hK hO (.refl _)
 cbv;replace hO:=hO.tl0 (t:=.nil) rfl;obtain⟨s5,hx,h⟩:=bind_some h;refine M8 cf164 hE M3 (γ:=D1) (fun s3 g=>[(0,.v (sr eAm3 aV)),(1,.v (sr eAl9 aF)),(2,.v (sr eAm0 aD)),(9,.v (sr eAm1 r2)),(10,.v (.sl (Ar.lst eAm1 s3.1) g)),fi 11 s3.2]) (fun s3 g H1=>K8 g∧C1 Eq H0 [.tl g] H1) (fun x e l H1=>∃u1:D1,K8 u1∧e= .exit 0∧l=[(10,.v (.sl (Ar.lst eAm1 x) u1))]∧C1 Eq H0 [.tl u1] H1) (by kernel_rfl) ?_ .nil hx ?_ ?_ ?_
 ·rintro s3 t4 H o ⟨ht4,hO⟩ h;clear hx;cbv;refine D5 hE ?_;cbv;refine A8 hE h (fun _ h=>?_) fun _ h=>?_
  ·cbv;refine B8 hE eAn1 h fun x6 h=>?_;cbv;refine FW hE (f:=eAm3) GI h fun l7 t8 h=>?_;cbv;refine C9 hE (g:=fun r9=>sr eAm0 r9) h (c208 N aD x6) (.refl _) fun r9 h=>?_;cbv;refine D5 hE ?_;cbv;refine B8 hE eAm9 h fun x10 h=>?_;cbv;refine A5 hE h (ih164 l7 aF r9 (Ar.ar .add .i64 x10.At 1)) (.cons (.ro _ _) (.refl _)) fun r11 h=>?_;cbv;obtain⟨s14,hx,h⟩:=bind_some h;refine M8 cf164 hE M3 (γ:=D1) (fun s12 g=>[(0,.v (sr eAm3 aV)),(1,.v (sr eAl9 aF)),(2,.v (sr eAm0 aD)),(9,.v (sr eAm1 r2)),(10,.v (.sl (Ar.lst eAm1 s12.1) g)),fi 11 s3.2,(12,.v (sr eAm0 x6)),(13,.v (sr eAm1 r11)),fi 14 s12.2]) (fun s12 g H1=>K8 g∧C1 Eq H0 [.tl g] H1) (fun x e l H1=>∃u1:D1,K8 u1∧e= .exit 2∧l=[(0,.v (sr eAm3 aV)),(1,.v (sr eAl9 aF)),(2,.v (sr eAm0 aD)),(9,.v (sr eAm1 r2)),(10,.v (.sl (Ar.lst eAm1 x) u1)),fi 11 s3.2]∧C1 Eq H0 [.tl u1] H1) (by kernel_rfl) ?_ t4 hx ?_ ?_ ?_
   ·rintro s12 t13 H o ⟨ht13,hO⟩ h;clear hx;cbv;refine D5 hE ?_;cbv;refine A8 hE h (fun _ h=>?_) fun _ h=>?_
    ·cbv;refine B8 hE eAn1 h fun x15 h=>?_;cbv;refine A5 hE h (c208 N x6 x15) (.refl _) fun r16 h=>?_;cbv;refine Jw hE (f:=eAm1) hO 0 rfl ht13 h (c209 N s12.1 r16) (.refl _) (.refl _) fun l17 t19 H hO ht19 h=>?_;cbv;cases h;exact⟨_,t19,rfl,.e rfl (.e4 (.e4 .z)),rfl,ht19,hO⟩
    cbv;cases h;exact⟨_,_,rfl,⟨t13,ht13,rfl,rfl,hO⟩,.e2 (.e4 .z),rfl⟩
   ·exact .e rfl (.e4 (.e4 .z))
   ·exact⟨ht4,hO⟩
   clear hx;rintro e l H ⟨t20,ht20,rfl,rfl,hO⟩;cbv;cases h;exact⟨_,t20,rfl,.e2 (.e4 .z),rfl,ht20,hO⟩
  cbv;cases h;exact⟨_,_,rfl,⟨t4,ht4,rfl,rfl,hO⟩,.e rfl .z,rfl⟩
 ·exact .e4 (.v (.slt _ (.lst0)) (.e rfl (.z)))
 ·exact⟨trivial,hO⟩
 clear hx;rintro e l H ⟨t21,ht21,rfl,rfl,hO⟩;cbv;cases h;exact hK hO (.ro _ _)
theorem k165 (N n:Nat) (ih129:Tn N n):Ai0 N (n+1):=by
 intro aV aF aD aG r h
 unfold DF at h
 refine I4 cf0 func165 call165 ntmps165 ?_;intro E H0 K hE hK hO;cbv;replace hO:=hO.tl0 (t:=.nil) rfl;obtain⟨s3,hx,h⟩:=bind_some h;refine M8 cf0 hE M3 (γ:=D1) (fun s1 g=>[(0,.v (sr eAm3 aV)),(1,.v (sr eAl9 aF)),(2,.v (sr eAm0 aD)),fi 3 aG,(9,.v (.sl (Ar.lst eAm1 s1.1) g)),fi 10 s1.2]) (fun s1 g H1=>K8 g∧C1 Eq H0 [.tl g] H1) (fun x e l H1=>∃u1:D1,K8 u1∧e= .exit 0∧l=[(9,.v (.sl (Ar.lst eAm1 x) u1))]∧C1 Eq H0 [.tl u1] H1) (by kernel_rfl) ?_ .nil hx ?_ ?_ ?_
 ·rintro s1 t2 H o ⟨ht2,hO⟩ h;clear hx;cbv;refine D5 hE ?_;cbv;refine A8 hE h (fun _ h=>?_) fun _ h=>?_
  ·cbv;refine B8 hE eAm2 h fun x4 h=>?_;cbv;refine A5 hE h (ih129 x4 aF aD aG) (.refl _) fun r5 h=>?_;cbv;obtain⟨s8,hx,h⟩:=bind_some h;refine M8 cf0 hE M3 (γ:=D1) (fun s6 g=>[(0,.v (sr eAm3 aV)),(1,.v (sr eAl9 aF)),(2,.v (sr eAm0 aD)),fi 3 aG,(9,.v (.sl (Ar.lst eAm1 s6.1) g)),fi 10 s1.2,(11,.v (sr eAm1 r5)),fi 12 s6.2]) (fun s6 g H1=>K8 g∧C1 Eq H0 [.tl g] H1) (fun x e l H1=>∃u1:D1,K8 u1∧e= .exit 2∧l=[(0,.v (sr eAm3 aV)),(1,.v (sr eAl9 aF)),(2,.v (sr eAm0 aD)),fi 3 aG,(9,.v (.sl (Ar.lst eAm1 x) u1)),fi 10 s1.2]∧C1 Eq H0 [.tl u1] H1) (by kernel_rfl) ?_ t2 hx ?_ ?_ ?_
   ·rintro s6 t7 H o ⟨ht7,hO⟩ h;clear hx;cbv;refine D5 hE ?_;cbv;refine A8 hE h (fun _ h=>?_) fun _ h=>?_
    ·cbv;refine B8 hE eAn1 h fun x9 h=>?_;cbv;refine Jw hE (f:=eAm1) hO 0 rfl ht7 h (c209 N s6.1 x9) (.refl _) (.refl _) fun l10 t12 H hO ht12 h=>?_;cbv;cases h;exact⟨_,t12,rfl,.e4 (.e4 .z),rfl,ht12,hO⟩
    cbv;cases h;exact⟨_,_,rfl,⟨t7,ht7,rfl,rfl,hO⟩,.e2 (.e4 .z),rfl⟩
   ·exact .e4 (.e4 .z)
   ·exact⟨ht2,hO⟩
   clear hx;rintro e l H ⟨t13,ht13,rfl,rfl,hO⟩;cbv;cases h;exact⟨_,t13,rfl,.e2 (.e4 .z),rfl,ht13,hO⟩
  cbv;cases h;exact⟨_,_,rfl,⟨t2,ht2,rfl,rfl,hO⟩,.e rfl .z,rfl⟩
 ·exact .e4 (.v (.slt _ (.lst0)) (.e rfl (.z)))
 ·exact⟨trivial,hO⟩
 clear hx;rintro e l H ⟨t14,ht14,rfl,rfl,hO⟩;cbv;cases h;exact hK hO (.ro _ _)
theorem k166 (N n:Nat) (ih129:Tn N n):Ah9 N (n+1):=by
 intro aV aF aD aG r h
 unfold DG at h
 refine I4 cf166 func166 call166 ntmps166 ?_;intro E H0 K hE hK hO;cbv;refine B8 hE eAm2 h fun x1 h=>?_;cbv;refine A5 hE h (ih129 x1 aF aD aG) (.refl _) fun r2 h=>?_;cbv;obtain⟨s4,hx,h⟩:=bind_some h;refine F2 cf166 hE M3 (fun s3=>[(0,.v (sr eAm3 aV)),(1,.v (sr eAl9 aF)),(2,.v (sr eAm0 aD)),fi 3 aG,(9,.v (sr eAm1 s3.1)),fi 10 s3.2]) (fun s3 H1=>C1 Eq H0 [] H1) (fun x e l H1=>e= .exit 0∧l=[(9,.v (sr eAm1 x))]∧C1 Eq H0 [] H1) (by kernel_rfl) ?_ hx ?_ hO ?_
 ·intro s3 H o hO h;clear hx;cbv;refine D5 hE ?_;cbv;refine A8 hE h (fun _ h=>?_) fun _ h=>?_
  ·cbv;refine B8 hE eAm2 h fun x5 h=>?_;cbv;refine A5 hE h (ih129 x5 aF aD aG) (.refl _) fun r6 h=>?_;cbv;replace hO:=hO.tl0 (t:=.nil) rfl;obtain⟨s9,hx,h⟩:=bind_some h;refine M8 cf166 hE M3 (γ:=D1) (fun s7 g=>[(0,.v (sr eAm3 aV)),(1,.v (sr eAl9 aF)),(2,.v (sr eAm0 aD)),fi 3 aG,(9,.v (sr eAm1 s3.1)),fi 10 s3.2,(11,.v (sr eAm1 r6)),(12,.v (.sl (Ar.lst eAm1 s7.1) g)),fi 13 s7.2]) (fun s7 g H1=>K8 g∧C1 Eq H0 [.tl g] H1) (fun x e l H1=>∃u1:D1,K8 u1∧e= .exit 2∧l=[(0,.v (sr eAm3 aV)),(1,.v (sr eAl9 aF)),(2,.v (sr eAm0 aD)),fi 3 aG,fi 10 s3.2,(12,.v (.sl (Ar.lst eAm1 x) u1))]∧C1 Eq H0 [.tl u1] H1) (by kernel_rfl) ?_ .nil hx ?_ ?_ ?_
   ·rintro s7 t8 H o ⟨ht8,hO⟩ h;clear hx;cbv;refine D5 hE ?_;cbv;refine A8 hE h (fun _ h=>?_) fun _ h=>?_
    ·cbv;obtain⟨s12,hx,h⟩:=bind_some h;refine M8 cf166 hE M3 (γ:=D1) (fun s10 g=>[(0,.v (sr eAm3 aV)),(1,.v (sr eAl9 aF)),(2,.v (sr eAm0 aD)),fi 3 aG,(9,.v (sr eAm1 s3.1)),fi 10 s3.2,(11,.v (sr eAm1 r6)),(12,.v (.sl (Ar.lst eAm1 s10.1) g)),fi 13 s7.2,fi 14 s10.2]) (fun s10 g H1=>K8 g∧C1 Eq H0 [.tl g] H1) (fun x e l H1=>∃u1:D1,K8 u1∧e= .exit 4∧l=[(0,.v (sr eAm3 aV)),(1,.v (sr eAl9 aF)),(2,.v (sr eAm0 aD)),fi 3 aG,(9,.v (sr eAm1 s3.1)),fi 10 s3.2,(11,.v (sr eAm1 r6)),(12,.v (.sl (Ar.lst eAm1 x) u1)),fi 13 s7.2]∧C1 Eq H0 [.tl u1] H1) (by kernel_rfl) ?_ t8 hx ?_ ?_ ?_
     ·rintro s10 t11 H o ⟨ht11,hO⟩ h;clear hx;cbv;refine D5 hE ?_;cbv;refine A8 hE h (fun _ h=>?_) fun _ h=>?_
      ·cbv;refine B8 hE eAn1 h fun x13 h=>?_;cbv;refine B8 hE eAn1 h fun x14 h=>?_;cbv;refine A5 hE h (c210 N x13 x14) (.refl _) fun r15 h=>?_;cbv;refine A8 hE h (fun _ h=>?_) fun _ h=>?_
       ·cbv;refine B8 hE eAn1 h fun x16 h=>?_;cbv;refine B8 hE eAn1 h fun x17 h=>?_;cbv;refine C9 hE (g:=fun r18=>sr eAm0 r18) h (c208 N x16 x17) (.refl _) fun r18 h=>?_;cbv;refine Jw hE (f:=eAm1) hO 0 rfl ht11 h (c209 N s10.1 r18) (.refl _) (.refl _) fun l19 t21 H hO ht21 h=>?_;cbv;cases h;exact⟨_,t21,rfl,.e2 (.e4 (.e4 .z)),rfl,ht21,hO⟩
       cbv;cases h;exact⟨_,t11,rfl,.e2 (.e4 (.e4 .z)),rfl,ht11,hO⟩
      cbv;cases h;exact⟨_,_,rfl,⟨t11,ht11,rfl,rfl,hO⟩,.e rfl (.e4 (.e4 .z)),rfl⟩
     ·exact .e2 (.e4 (.e4 .z))
     ·exact⟨ht8,hO⟩
     clear hx;rintro e l H ⟨t22,ht22,rfl,rfl,hO⟩;cbv;cases h;exact⟨_,t22,rfl,.e rfl (.e4 (.e4 .z)),rfl,ht22,hO⟩
    cbv;cases h;exact⟨_,_,rfl,⟨t8,ht8,rfl,rfl,hO⟩,.e2 (.e4 .z),rfl⟩
   ·exact .e rfl (.e2 (.e4 (.v (.slt _ (.lst0)) (.e rfl (.z)))))
   ·exact⟨trivial,hO⟩
   clear hx;rintro e l H ⟨t23,ht23,rfl,rfl,hO⟩;cbv;cases h;exact⟨_,rfl,.e4 (.v (.ro _ _) (.e rfl (.z))),rfl,hO.tail⟩
  cbv;cases h;exact⟨_,_,rfl,⟨rfl,rfl,hO⟩,.e rfl .z,rfl⟩
 ·exact .e2 (.e4 .z)
 clear hx;rintro e l H ⟨rfl,rfl,hO⟩;cbv;cases h;exact hK hO (.refl _)
theorem k167 (N n:Nat) (ih129:Tn N n) (ih167:ZP N n):ZP N (n+1):=by
 intro aA aF aD aG r h
 unfold V2 at h
 refine I4 cf167 func167 call167 ntmps167 ?_;intro E H0 K hE hK hO;cbv;refine B8 hE eAm2 h fun x1 h=>?_;cbv;refine A5 hE h (ih129 x1 aF aD aG) (.refl _) fun r2 h=>?_;cbv;replace hO:=hO.tl0 (t:=.nil) rfl;obtain⟨s5,hx,h⟩:=bind_some h;refine M8 cf167 hE M3 (γ:=D1) (fun s3 g=>[(1,.v (sr eAl9 aF)),(2,.v (sr eAm0 aD)),(4,.v (.eref (D3 aA) 0)),(9,.v (sr eAm1 r2)),(10,.v (.sl (Ar.lst eAm1 s3.1) g)),fi 11 s3.2]) (fun s3 g H1=>K8 g∧C1 Eq H0 [.tl g] H1) (fun x e l H1=>∃u1:D1,K8 u1∧e= .exit 0∧l=[(10,.v (.sl (Ar.lst eAm1 x) u1))]∧C1 Eq H0 [.tl u1] H1) (by kernel_rfl) ?_ .nil hx ?_ ?_ ?_
 ·rintro s3 t4 H o ⟨ht4,hO⟩ h;clear hx;cbv;refine D5 hE ?_;cbv;refine A8 hE h (fun _ h=>?_) fun _ h=>?_
  ·cbv;refine B8 hE eAn1 h fun x6 h=>?_;cbv;refine Jw hE (f:=eAm1) hO 0 rfl ht4 h (c209 N s3.1 x6) (.refl _) (.refl _) fun l7 t9 H hO ht9 h=>?_;cbv;refine C9 hE (g:=fun r10=>sr eAm0 r10) h (c208 N aD x6) (.refl _) fun r10 h=>?_;cbv;refine D5 hE ?_;cbv;refine B8 hE eAm9 h fun x11 h=>?_;cbv;refine A5 hE h (ih167 aA aF r10 (Ar.ar .add .i64 x11.At 1)) (.refl _) fun r12 h=>?_;cbv;obtain⟨s15,hx,h⟩:=bind_some h;refine M8 cf167 hE M3 (γ:=D1) (fun s13 g=>[(1,.v (sr eAl9 aF)),(2,.v (sr eAm0 aD)),(4,.v (.eref (D3 aA) 0)),(9,.v (sr eAm1 r2)),(10,.v (.sl (Ar.lst eAm1 s13.1) g)),fi 11 s3.2,(12,.v (sr eAm0 x6)),(13,.v (sr eAm1 r12)),fi 14 s13.2]) (fun s13 g H1=>K8 g∧C1 Eq H0 [.tl g] H1) (fun x e l H1=>∃u1:D1,K8 u1∧e= .exit 2∧l=[(1,.v (sr eAl9 aF)),(2,.v (sr eAm0 aD)),(4,.v (.eref (D3 aA) 0)),(9,.v (sr eAm1 r2)),(10,.v (.sl (Ar.lst eAm1 x) u1)),fi 11 s3.2]∧C1 Eq H0 [.tl u1] H1) (by kernel_rfl) ?_ t9 hx ?_ ?_ ?_
   ·rintro s13 t14 H o ⟨ht14,hO⟩ h;clear hx;cbv;refine D5 hE ?_;cbv;refine A8 hE h (fun _ h=>?_) fun _ h=>?_
    ·cbv;refine B8 hE eAn1 h fun x16 h=>?_;cbv;refine A5 hE h (c208 N x6 x16) (.refl _) fun r17 h=>?_;cbv;refine Jw hE (f:=eAm1) hO 0 rfl ht14 h (c209 N s13.1 r17) (.refl _) (.refl _) fun l18 t20 H hO ht20 h=>?_;cbv;cases h;exact⟨_,t20,rfl,.e rfl (.e4 (.e4 .z)),rfl,ht20,hO⟩
    cbv;cases h;exact⟨_,_,rfl,⟨t14,ht14,rfl,rfl,hO⟩,.e2 (.e4 .z),rfl⟩
   ·exact .e rfl (.e4 (.e4 .z))
   ·exact⟨ht9,hO⟩
   clear hx;rintro e l H ⟨t21,ht21,rfl,rfl,hO⟩;cbv;cases h;exact⟨_,t21,rfl,.e2 (.e4 .z),rfl,ht21,hO⟩
  cbv;cases h;exact⟨_,_,rfl,⟨t4,ht4,rfl,rfl,hO⟩,.e rfl .z,rfl⟩
 ·exact .e4 (.v (.slt _ (.lst0)) (.e rfl (.z)))
 ·exact⟨trivial,hO⟩
 clear hx;rintro e l H ⟨t22,ht22,rfl,rfl,hO⟩;cbv;cases h;exact hK hO (.ro _ _)
theorem Hf (N:Nat):∀n,Tn N n∧ZQ N n∧Ai0 N n∧Ah9 N n∧ZP N n:=by
 intro n
 induction n with
 |zero=>exact⟨(by intro aA aF aD aG r h;unfold J9 at h;cases h),(by intro aV aF aD aG r h;unfold Y3 at h;cases h),(by intro aV aF aD aG r h;unfold DF at h;cases h),(by intro aV aF aD aG r h;unfold DG at h;cases h),(by intro aA aF aD aG r h;unfold V2 at h;cases h)⟩
 |succ n ih=>
  obtain⟨ih129,ih164,ih165,ih166,ih167⟩:=ih;exact⟨k129 N n ih129 ih164 ih165 ih166 ih167,k164 N n ih129 ih164,k165 N n ih129,k166 N n ih129,k167 N n ih129 ih167⟩
theorem c129 (N n aA aF aD aG r)(h:J9 N n aA aF aD aG=some r):B4 prog 129 [(C3 aA),sr eAl9 aF,sr eAm0 aD,vi aG] (sr eAm1 r):=(Hf N n).1 aA aF aD aG r h
def cf130 :Cf:=⟨[4,5],[(5,18)],[],[],[],[]⟩
theorem c130 (N aF aI r) (h:Z1 N aF aI=some r):B4 prog 130 [sr eAl9 aF,sr eAm0 aI] ((Ez r)):=by
 unfold Z1 at h
 refine I4 cf130 func130 call130 ntmps130 ?_;intro E H0 K hE hK hO;cbv;refine C5 hE hO fun b1 H hO=>?_;cbv;refine C5 hE hO fun b2 H hO=>?_;cbv;replace hO:=hO.cast (L':=[cb b2 [.sl (Ar.lst eAn0 ([])) .nil],cb b1 [.sl [] .nil]]) (by simp only[ob,cb,sr,←E6]<;>rfl);replace hO:=hO.tl0 (t:=.nil) rfl;obtain⟨s5,hx,h⟩:=bind_some h;refine M8 cf130 hE M3 (γ:=D1) (fun s3 g=>[(0,.v (sr eAl9 aF)),(1,.v (sr eAm0 aI)),(4,.v (.ref b1 0)),(5,.v (.ref b2 0)),fi 6 s3.1]) (fun s3 g H1=>K8 g∧C1 Eq H0 [.tl g,cb b2 [.sl (Ar.lst eAn0 s3.2.cO) g],cb b1 [.sl [] .nil]] H1) (fun x e l H1=>∃u1:D1,K8 u1∧e= .exit 0∧l=[(4,.v (.ref b1 0)),(5,.v (.ref b2 0))]∧C1 Eq H0 [.tl u1,cb b2 [.sl (Ar.lst eAn0 x.cO) u1],cb b1 [.sl [] .nil]] H1) (by kernel_rfl) ?_ .nil hx ?_ ?_ ?_
 ·rintro s3 t4 H o ⟨ht4,hO⟩ h;clear hx;cbv;refine D5 hE ?_;cbv;refine A8 hE h (fun _ h=>?_) fun _ h=>?_
  ·cbv;refine B2 hE hO 1 rfl ?_;cbv;refine B8 hE eAm9 h fun x6 h=>?_;cbv;refine B8 hE eAm9 h fun x7 h=>?_;cbv;refine B8 hE eAm5 h fun x8 h=>?_;cbv;refine C9 hE (g:=fun r9=>(HX r9)) h (c27 N x8) (.refl _) fun r9 h=>?_;cbv;refine AO (f:=eAn0) hE KF (by decide) hO 0 rfl ht4 (l:=s3.2.cO) (m:=[(⟨x6.Var,r9⟩:E0)]) (.refl _) (.lstc (.eq (eAn7 (⟨x6.Var,r9⟩:E0)) (.refl _)) (.lst0)) h fun l11 t10 H hO ht10 h=>?_;cbv;refine A9 hE hO 1 rfl rfl fun H hO=>?_;cbv;cases h;exact⟨_,t10,rfl,.e rfl (.e4 .z),rfl,ht10,hO⟩
  cbv;cases h;exact⟨_,_,rfl,⟨t4,ht4,rfl,rfl,hO⟩,.e2 .z,rfl⟩
 ·exact .e rfl (.e4 .z)
 ·exact⟨trivial,hO⟩
 clear hx;rintro e l H ⟨t12,ht12,rfl,rfl,hO⟩;cbv;refine B2 hE hO 1 rfl ?_;cbv;refine A9 hE hO 2 rfl rfl fun H hO=>?_;cbv;refine B2 hE hO 2 rfl ?_;cbv;cases h;exact hK hO (.agg (.cons (.ro _ _) (.refl _)))
def cf71 :Cf:=⟨[46,6000006],[(8,9),(3000011,0),(3000011,1),(3000011,3),(3000011,6),(3000011,8)],[],[2000011],[],[]⟩
set_option maxHeartbeats 2000000 in
theorem c71 (N aA aF r) (h:Fk N aA aF=some r):B4 prog 71 [(C3 aA),sr eAl9 aF] (sr eAm7 r):=by
 unfold Fk at h
 refine Hs (T:=TT) cf71 M3 func71 (by rfl) (by kernel_rfl) call71 ntmps71 (by rfl) (by rfl) ?_;intro E H0 K hE hK hF;have hO:C1 Eq H0 [] H0:=.start F4 rfl;cbv;refine A5 hE h (c129 N N aA aF ([]) 0) (.cons (.refl _) (.cons (.refl _) (.cons (.lit _ (E6)) (.refl _)))) fun r1 h=>?_;cbv;refine SD hE (f:=eAm7) hO fun q2 H hq2 hO=>?_;cbv;obtain⟨s5,hx,h⟩:=bind_some h;refine M8 cf71 hE M3 (γ:=OG) (fun s3 g=>[(1,.v (sr eAl9 aF)),(5,.v (sr eAm1 r1)),(6,.v (.own g.id g.lo g.n)),fi 7 s3.1]) (fun s3 g H1=>Eu g (Ar.len s3.2)∧C1 Eq H0 [ob g 1 eAm7 s3.2] H1) (fun x e l H1=>∃u1:OG,Eu u1 (Ar.len x)∧e= .exit 0∧l=[(6,.v (.own u1.id u1.lo u1.n))]∧C1 Eq H0 [ob u1 1 eAm7 x] H1) (by kernel_rfl) ?_ q2 hx ?_ ?_ ?_
 ·rintro s3 q4 H o ⟨hq4,hO⟩ h;clear hx;cbv;refine D5 hE ?_;cbv;refine A8 hE h (fun _ h=>?_) fun _ h=>?_
  ·cbv;refine B8 hE eAn1 h fun x6 h=>?_;cbv;refine A5 hE h (c130 N aF x6) (.refl _) fun r7 h=>?_;cbv;refine Ad8 hE hq4 ?_;cbv;obtain⟨s9,hx,h⟩:=bind_some h;refine F2 cf71 hE M3 (fun s8=>[(1,.v (sr eAl9 aF)),(5,.v (sr eAm1 r1)),(6,.v (.own q4.id q4.lo q4.n)),fi 7 s3.1,(8,.v (.eref (EV r7) 0)),fi 9 s8]) (fun s8 H1=>C1 Eq H0 [ob q4 1 eAm7 s3.2] H1) (fun x e l H1=>e= .exit 2∧l=[(1,.v (sr eAl9 aF)),(5,.v (sr eAm1 r1)),(6,.v (.own q4.id q4.lo q4.n)),fi 7 s3.1,(8,.v (.eref (EV r7) 0)),fi 9 x]∧C1 Eq H0 [ob q4 1 eAm7 s3.2] H1) (by kernel_rfl) ?_ hx ?_ hO ?_
   ·intro s8 H o hO h;clear hx;cbv;refine A8 hE h (fun _ h=>?_) fun _ h=>?_
    ·cbv;refine Xl hE hO hq4 0 rfl h fun h=>?_;cbv;refine TQ hE eAn8 hO hq4 0 rfl h fun x10 h=>?_;cbv;refine A5 hE h (c33 N r7 x10) (.refl _) fun r11 h=>?_;cbv;refine A8 hE h (fun _ h=>?_) fun _ h=>?_
     ·cbv;cases h;exact⟨_,rfl,.e2 (.e4 .z),rfl,hO⟩
     cbv;cases h;exact⟨_,_,rfl,⟨rfl,rfl,hO⟩,.e2 (.e4 .z),rfl⟩
    cbv;cases h;exact⟨_,_,rfl,⟨rfl,rfl,hO⟩,.e2 (.e4 .z),rfl⟩
   ·exact .e2 (.e4 .z)
   clear hx;rintro e l H ⟨rfl,rfl,hO⟩;cbv;refine Vw hE hO hq4 0 rfl h fun l13 q12 hq12 h=>?_;cbv;refine Zf (f:=eAm7) hE DD (by decide) hO (.inr rfl) (m:=l13) (hq12) h fun l15 q14 H hq14 hO h=>?_;cbv;obtain⟨s16,hx,h⟩:=bind_some h;refine S3 cf71 hE M3 (fun e l H1=>∃u1:OG,Eu u1 (Ar.len s16)∧e= .normal∧l=[(1,.v (sr eAl9 aF)),(5,.v (sr eAm1 r1)),(6,.v (.own u1.id u1.lo u1.n)),fi 7 s3.1]∧C1 Eq H0 [ob q14 1 eAm7 l15,ob u1 1 eAm7 s16] H1) (by kernel_rfl) ?_ ?_
   ·clear h;have h:=hx;clear hx;cbv;obtain⟨l98,el98,h⟩:=bind_some h;obtain⟨l218,el218,h⟩:=bind_some h;obtain⟨l298,el298,h⟩:=bind_some h
    repeat' first|refine And.intro ?_ ?_|(refine QM hE hO hq4 1 rfl (Er el98) fun l98 q97 hq97 hO hh=>?_;obtain rfl:=G2 hh;cbv)|(refine FX (f:=eAm7) hE DD (by decide) hO hq97 1 rfl (m:=[r7]) (GK (f:=eAm7) hE DD (.lstc (.eq (eAn8 r7) (.refl _)) (.lst0))) (Er el218) fun l218 q217 H hq217 hO hh=>?_;obtain rfl:=G2 hh;cbv)|(refine FX (f:=eAm7) hE DD (by decide) hO hq217 1 rfl (m:=l15) (Ov hE hO hq14 0 rfl) (Er el298) fun l298 q297 H hq297 hO hh=>?_;obtain rfl:=G2 hh;cbv)|(have h:=G2 h;subst h;exact⟨_,⟨q297,hq297,rfl,rfl,hO⟩,.e4 .z,rfl⟩)
   clear hx;rintro e l H ⟨q417,hq417,rfl,rfl,hO⟩;cbv;cases h;exact⟨_,q417,rfl,.e4 .z,rfl,hq417,hO.tail⟩
  cbv;cases h;exact⟨_,_,rfl,⟨q4,hq4,rfl,rfl,hO⟩,.e rfl .z,rfl⟩
 ·exact .e4 .z
 ·exact⟨hq2,hO⟩
 clear hx;rintro e l H ⟨q418,hq418,rfl,rfl,hO⟩;cbv;cases h;exact hF q418 _ _ 0 _ _ hO rfl (HM hE hq418) (.refl _)
end Go.Ab
namespace Go.Ab
open Go.RowKit Go.Proofs Go.Proofs.Tryz I7
variable [Ar][I7]
set_option maxRecDepth 100000
theorem c15 (N aA aF r)(h:Bn N aA aF=some r):B4 prog 15 [(C3 aA),sr eAl9 aF] (.tup [sr eAm7 r.1,vi r.2]):=by
 unfold Bn at h
 refine I4 cf0 func15 call15 ntmps15 ?_;intro E H0 K hE hK hO;cbv;refine A5 hE h (c70 N aA aF) (.refl _) fun r1 h=>?_;cbv;refine A8 hE h (fun _ h=>?_) fun _ h=>?_
 ·cbv;cases h;exact hK hO (.tup (.cons (.lit _ (E6)) (.refl _)))
 cbv;refine A5 hE h (c71 N aA aF) (.refl _) fun r2 h=>?_;cbv;cases h;exact hK hO (.refl _)
def cf16 :Cf:=⟨[],[(6,8)],[],[],[],[]⟩
theorem c16 (N aC aD r) (h:DR N aC aD=some r):B4 prog 16 [sr eAm7 aC,sr eAm7 aD] (.bool r):=by
 unfold DR at h
 refine I4 cf16 func16 call16 ntmps16 ?_;intro E H0 K hE hK hO;cbv;refine D5 hE ?_;cbv;refine D5 hE ?_;cbv;refine A8 hE h (fun _ h=>?_) fun _ h=>?_
 ·cbv;cases h;exact hK hO (.refl _)
 cbv;obtain⟨s2,hx,h⟩:=bind_some h;refine F2 cf16 hE M3 (fun s1=>[(0,.v (sr eAm7 aC)),(1,.v (sr eAm7 aD)),fi 5 s1]) (fun s1 H1=>C1 Eq H0 [] H1) (fun x e l H1=>match(generalizing:=false) x with| .inl y=>e= .exit 0∧l=[]∧C1 Eq H0 [] H1| .inr y=>e= .ret∧l=[(4,.b false)]∧C1 Eq H0 [] H1) (by kernel_rfl) ?_ hx ?_ hO ?_
 ·intro s1 H o hO h;clear hx;cbv;refine D5 hE ?_;cbv;refine A8 hE h (fun _ h=>?_) fun _ h=>?_
  ·cbv;refine B8 hE eAn8 h fun x3 h=>?_;cbv;refine B8 hE eAn8 h fun x4 h=>?_;cbv;refine A5 hE h (c33 N x3 x4) (.refl _) fun r5 h=>?_;cbv;refine A8 hE h (fun _ h=>?_) fun _ h=>?_
   ·cbv;cases h;exact⟨_,_,rfl,⟨rfl,rfl,hO⟩,.b rfl (.z),rfl⟩
   cbv;cases h;exact⟨_,rfl,.e rfl (.e2 .z),rfl,hO⟩
  cbv;cases h;exact⟨_,_,rfl,⟨rfl,rfl,hO⟩,.z,rfl⟩
 ·exact .e rfl (.e2 .z)
 clear hx
 rcases s2 with y6|y7
 ·rintro e l H ⟨rfl,rfl,hO⟩;cbv;cases h;exact hK hO (.refl _)
 rintro e l H ⟨rfl,rfl,hO⟩;cbv;cases h;exact hK hO (.refl _)
theorem c3 (N aA aF r)(h:T8 N aA aF=some r):B4 prog 3 [(C3 aA),sr eAl9 aF] (.bool r):=by
 unfold T8 at h
 refine I4 cf0 func3 call3 ntmps3 ?_;intro E H0 K hE hK hO;cbv;refine A5 hE h (c12 N aA aF) (.refl _) fun r1 h=>?_;cbv;refine A8 hE h (fun _ h=>?_) fun _ h=>?_
 ·cbv;refine A5 hE h (c13 N) (.refl _) fun r2 h=>?_;cbv;cases h;exact hK hO (.refl _)
 cbv;refine A5 hE h (c14 N aA aF) (.refl _) fun r3 h=>?_;cbv;refine A5 hE h (c15 N aA aF) (.refl _) fun r4 h=>?_;cbv;refine A5 hE h (c16 N r3.1 r4.1) (.refl _) fun r5 h=>?_;cbv;refine A8 hE h (fun _ h=>?_) fun _ h=>?_
 ·cbv;refine A5 hE h (c13 N) (.refl _) fun r6 h=>?_;cbv;cases h;exact hK hO (.refl _)
 cbv;cases h;exact hK hO (.refl _)
end Go.Ab
namespace Go.Ab
open Go.RowKit Go.ChangeShapes Go.WideShapes
variable [I6]
def g0 (W:World):Gh:=⟨fun _=>none,fun _=>⟨0,0,0⟩,fun _=>none,fun b o=>∃v,W.cell? ⟨b,o,none⟩=some v,0,W.heap.size⟩
theorem rl0 {W:World}(hg:∀n,VR (g0 W) W (.pointer (some ⟨n,0,none⟩)) (I6.gl n)):Rl (g0 W) (fun _=>none) W:=
 ⟨fun id b h=>(by cases h),fun id id' b h=>(by simp[Gh.at]at h),fun b o h=>h,fun id _=>⟨rfl,rfl,rfl⟩,Nat.le_refl _,hg⟩
def Dk (g:Gh)(w:World)(cs:List Value)(xs:List V):Prop:=
 cs.length=xs.length∧∀i,i<xs.length→(cs.getD i undef).oneCell'=true∧VR g w (cs.getD i undef) (xs.getD i .bad)
theorem Dk.nil (g:Gh)(w:World):Dk g w [] []:=⟨rfl,fun i hi=>by simp at hi⟩
theorem Dk.one {g:Gh}{w:World}{v:Value}{x:V}(h1:v.oneCell'=true)(h:VR g w v x):Dk g w [v] [x]:=by
 refine⟨rfl,fun i hi=>?_⟩
 have:i=0:=by simpa using hi
 subst this;exact⟨h1,h⟩
theorem Dk.append {g:Gh} {w:World} {cs ds:List Value} {xs ys:List V} (h:Dk g w cs xs) (k:Dk g w ds ys):Dk g w (cs++ds) (xs++ys):=by
 refine⟨by simp[h.1,k.1],fun i hi=>?_⟩;have hl:=h.1
 simp only[List.length_append]at hi
 by_cases hx:i<xs.length
 ·have e1:(cs++ds).getD i undef=cs.getD i undef:=by simp[List.getD,List.getElem?_append_left (show i<cs.length by omega)]
  have e2:(xs++ys).getD i .bad=xs.getD i .bad:=by simp[List.getD,List.getElem?_append_left hx]
  rw[e1,e2];exact h.2 i hx
 have e1:(cs++ds).getD i undef=ds.getD (i - xs.length) undef:=by simp[List.getD,List.getElem?_append_right (show cs.length≤i by omega),hl]
 have e2:(xs++ys).getD i .bad=ys.getD (i - xs.length) .bad:=by simp[List.getD,List.getElem?_append_right (show xs.length≤i by omega)]
 rw[e1,e2];exact k.2 _ (by omega)
theorem Dk.join {g:Gh}{w:World}{cs:List Value}{xs ys:List V}{a n m:Nat}(h:Dk g w ((cs.drop a).take n) xs)(k:Dk g w ((cs.drop (a+n)).take m) ys):Dk g w ((cs.drop a).take (n+m)) (xs++ys):=by
 have:=h.append k
 rwa[show(cs.drop (a+n))=(cs.drop a).drop n by rw[List.drop_drop],←List.take_add]at this
theorem Dk.agg {g:Gh} {w:World} {cs:Array Value} {xs:List V} (h:Dk g w cs.toList xs):VR g w (.agg cs) (.agg xs):=by
 refine .agg (by simpa using h.1) (fun i hi=>?_) fun i hi=>?_
 ·have:=(h.2 i hi).1
  simpa[List.getD,Array.getD_eq_getD_getElem?]using this
 have:=(h.2 i hi).2
 simpa[List.getD,Array.getD_eq_getD_getElem?]using this
section
variable {H α:Type}{enc:TypeId×Value→H}{P:Program}{W:World}{base:Nat}{spare:Nat→Bool}{held:Bool}{t e:TypeId}{n:Nat}
def Opens (enc:TypeId×Value→H)(P:Program)(W:World)(base:Nat)(spare:Nat→Bool)(held:Bool)(t:TypeId)(f:α→V)(R:α→DataW H→Prop)(n:Nat):Prop:=
 ∀cs x,DataW.trod enc P W base spare held n t cs=some x→∃a,Dk (g0 W) W cs (f a).cells∧R a x.1
theorem Ki {k:IntKind}(ht:P.underlying t=some (.int k)):Opens enc P W base spare held t (V.int k) (fun a d=>d= .lit (.int k a)) n:=by
 intro cs x h;obtain⟨a,rfl,rfl,_⟩:=DataW.trod_int ht h;exact⟨a,.one rfl (.int _ _),rfl⟩
theorem FT (ht:P.underlying t=some .bool):Opens enc P W base spare held t V.bool (fun a d=>d= .lit (.bool a)) n:=by
 intro cs x h;obtain⟨a,rfl,rfl⟩:=DataW.trod_bool ht h;exact⟨a,.one rfl (.bool _),rfl⟩
theorem Vp (ht:P.underlying t=some .string):Opens enc P W base spare held t V.str (fun a d=>d= .lit (.string a.data.toList)∧a.size≤maxLen) n:=by
 intro cs x h;obtain⟨a,rfl,rfl,hl⟩:=DataW.trod_string ht h;exact⟨a,.one rfl (.str _),rfl,hl⟩
def RL (R:α→DataW H→Prop)(l:List α)(ds:List (DataW H)):Prop:=l.length=ds.length∧∀(i:Nat) a d,l[i]? =some a→ds[i]? =some d→R a d
def RS (R:α→DataW H→Prop)(l:List α)(d:DataW H):Prop:=l.length≤maxLen∧((d= .nil∧l=[])∨∃es sp,d= .slice es sp∧RL R l es)
theorem EJ {f:α→V} {R:α→DataW H→Prop} (ht:P.underlying t=some (.slice e)) (hc:0<P.cellsOf e) (he:Opens enc P W base spare held e f R n):
 Opens enc P W base spare held t (fun l:List α=>.sl (l.map f) .ro) (RS R) (n+1):=by
 intro cs x h
 rcases DataW.trod_slice ht h with⟨rfl,rfl⟩|⟨a,len,cap,elems,rest,n',hn,rfl,rfl,hb,hl,hm,hlen,hel,hsp,hns⟩
 ·exact⟨[],.one rfl (.sl0 rfl),Nat.zero_le _,.inl ⟨rfl,rfl⟩⟩
 have hn':n'=n:=by omega
 subst hn'
 rcases Nat.eq_zero_or_pos len with h0|h0
 ·subst h0;have:elems=[]:=List.length_eq_zero_iff.1 hlen;subst this;exact⟨[],.one rfl (.sle (.inl rfl)),Nat.zero_le _,.inr ⟨_,_,rfl,rfl,fun i a d hi=>by simp at hi⟩⟩
 have one:∀i,i<len→∃cs' y b,W.cells? base (a.add (i*P.cellsOf e)) (P.cellsOf e)=some cs'∧elems[i]? =some y∧Dk (g0 W) W cs' (f b).cells∧R b y.1:=by
  intro i hi;have h1:=hel i hi
  have h2:elems[i]? =some (elems[i]'(by omega)):=by simp[hlen,hi]
  rw[h2]at h1
  obtain⟨cs',hcs,hy⟩:=Option.bind_eq_some_iff.1 h1;obtain⟨b,hr,hR⟩:=he cs' _ hy;exact⟨cs',_,b,hcs,h2,hr,hR⟩
 obtain⟨_,_,b0,_⟩:=one 0 h0
 haveI:Inhabited α:=⟨b0⟩
 obtain⟨A,hA⟩:=Deep.choose_lt (α:=α) (p:=fun i b=>∃cs' y,W.cells? base (a.add (i*P.cellsOf e)) (P.cellsOf e)=some cs'∧elems[i]? =some y∧Dk (g0 W) W cs' (f b).cells∧R b y.1)
  (fun i hi=>let⟨cs',y,b,h1,h2,h3,h4⟩:=one i hi;⟨b,cs',y,h1,h2,h3,h4⟩)
 have hspot:a.spot=none:=by
  obtain⟨cs',y,h1,_,_,_⟩:=hA 0 h0;obtain⟨_,hcl,hcell⟩:=World.cells?_some h1;have h2:=hcell 0 hc
  have e0:(a.add (0*P.cellsOf e)).add 0=a:=by simp[Addr.add]
  rw[e0]at h2
  have h3:cs'[0]? =some (cs'[0]'(by omega)):=by simp[hcl,hc]
  rw[h3]at h2
  unfold World.cell? at h2
  split at h2
  ·split at h2
   ·cases h2
   rename_i hs;simpa using hs
  cases h2
 obtain⟨b,o,s⟩:=a
 simp only at hspot
 subst hspot
 let l:=(List.range len).map A
 have hll:l.length=len:=by simp[l]
 have hg:∀i,i<len→(l.map f).getD i .bad=f (A i):=fun i hi=>by simp[l,List.getD,hi]
 have cell:∀i j,i<len→j<P.cellsOf e→∃v,W.cell? ⟨b,o+i*P.cellsOf e+j,none⟩=some v∧v.oneCell'=true∧VR (g0 W) W v ((f (A i)).cells.getD j .bad):=by
  intro i j hi hj;obtain⟨cs',y,h1,_,hr,_⟩:=hA i hi;obtain⟨_,hcl,hcell⟩:=World.cells?_some h1;have h2:=hcell j hj
  rw[V6,V6]at h2
  have h3:cs'[j]? =some (cs'.getD j undef):=by simp[List.getD,hcl,hj]
  rw[h3]at h2
  have:=hr.2 j (by rw[←hr.1,hcl];exact hj);exact⟨_,h2,this.1,this.2⟩
 refine⟨l,.one rfl ?_,by omega,.inr ⟨_,_,rfl,by simp[hll,hlen],fun i a' d hi hd=>?_⟩⟩
 ·have hz:∀i,i<len→((l.map f).getD i .bad).cells.length=P.cellsOf e:=fun i hi=>by
   obtain⟨cs',y,h1,_,hr,_⟩:=hA i hi;obtain⟨_,hcl,_⟩:=World.cells?_some h1;rw[hg i hi,←hr.1,hcl]
  refine .sl (sz:=P.cellsOf e) (fun i j=>(W.cell? ⟨b,o+i*P.cellsOf e+j,none⟩).getD undef) (by simp[hll]) hl hz (fun i j hi hj=>?_) (fun i j hi hj=>?_) (fun i j hi hj=>?_) (fun i j hi hj=>?_) trivial
  ·obtain⟨v,h1,_⟩:=cell i j hi hj;exact⟨v,h1⟩
  ·obtain⟨v,h1,_⟩:=cell i j hi hj;rw[h1];rfl
  ·obtain⟨v,h1,h2,_⟩:=cell i j hi hj;rw[h1];exact h2
  obtain⟨v,h1,h2,h3⟩:=cell i j hi hj;rw[h1,hg i hi];exact h3
 have hi':i<len:=by
  rcases Nat.lt_or_ge i l.length with h|h
  ·omega
  rw[List.getElem?_eq_none h]at hi;cases hi
 obtain⟨cs',y,h1,h2,h3,h4⟩:=hA i hi'
 have e1:a'=A i:=by simp[l,hi']at hi;exact hi.symm
 have e2:d=y.1:=by simp[h2]at hd;exact hd.symm
 rw[e1,e2];exact h4
theorem SV {fs:Array Field} {xs:List (DataW H×List MemPlace)} {cs:List Value} {n:Nat} (hl:xs.length=fs.size)
 (hf:∀(i:Nat) (f:Field),fs[i]? =some f→DataW.trod enc P W base spare held n f.type ((cs.drop f.offset).take (P.cellsOf f.type))=xs[i]?) (i:Nat) {f:Field} (h:fs[i]? =some f):
 ∃y,xs[i]? =some y∧DataW.trod enc P W base spare held n f.type ((cs.drop f.offset).take (P.cellsOf f.type))=some y:=by
 have hi:i<fs.size:=by
  rcases Nat.lt_or_ge i fs.size with h'|h'
  ·exact h'
  rw[Array.getElem?_eq_none h']at h;cases h
 have h1:xs[i]? =some (xs[i]'(by omega)):=by simp[hl,hi]
 exact⟨_,h1,by rw[hf i f h,h1]⟩
end
end Go.Ab
namespace Go.Ab
noncomputable instance arInst :Ar where
 cmp:=Lh
 cmp_eq:=fun _ _ _=>rfl
 ar:=arI
 ar_eq:=fun _ _ _ _=>rfl
 sh:=shI
 sh_eq:=fun _ _ _ _=>rfl
 neg:=fun k n=>k.wrap (0 - n)
 neg_eq:=fun _ _=>rfl
 wr:=fun k n=>k.wrap n
 wr_eq:=fun _ _=>rfl
 scmp:=Af7
 scmp_eq:=fun _ _ _=>rfl
 cat:=fun a b=>a++b
 cat_eq:=fun _ _=>rfl
 slen:=fun s=>s.size
 slen_eq:=fun _=>rfl
 sat:=fun s i=>match s[i.toNat]? with|some b=>(b.toNat:Int)|none=>0
 sat_eq:=fun _ _=>rfl
 beq:=fun a b=>a==b
 beq_eq:=fun _ _=>rfl
 nt:=fun a=> !a
 nt_eq:=fun _=>rfl
 an:=fun a b=>a&&b
 an_eq:=fun _ _=>rfl
 or:=fun a b=>a||b
 or_eq:=fun _ _=>rfl
 pk:=fun c a b=>if c then a else b
 pk_eq:=fun _ _ _=>rfl
 mx:=fun a b=>if a<b then b else a
 mx_eq:=fun _ _=>rfl
 mn:=fun a b=>if b<a then b else a
 mn_eq:=fun _ _=>rfl
 ofs:=fun a b=>a+b
 ofs_eq:=fun _ _=>rfl
 ofN:=fun n=>n
 ofN_eq:=fun _=>rfl
 len:=fun l=>l.length
 len_eq:=fun _=>rfl
 lst:=fun f l=>l.map f
 lst_eq:=fun _ _=>rfl
end Go.Ab
namespace Go.Ab
theorem C2 (a b:Int):Ar.cmp .lss a b=decide (a<b):=rfl
theorem Ce (a b:Int):Ar.cmp .leq a b=decide (a≤b):=rfl
theorem Q6 (a b:Int):Ar.cmp .gtr a b=decide (b<a):=rfl
theorem M1 (a b:Int):Ar.cmp .geq a b=decide (b≤a):=rfl
theorem C0 (a b:Int):Ar.cmp .eql a b=decide (a=b):=rfl
theorem F6 (a b:Int):Ar.cmp .neq a b= !decide (a=b):=rfl
theorem Q3 (a:Bool):Ar.nt a= !a:=rfl
theorem L7 (a b:Bool):Ar.an a b=(a&&b):=rfl
theorem I8 (a b:Bool):Ar.or a b=(a||b):=rfl
theorem B1 {α:Type}(l:List α):Ar.len l=(l.length:Int):=rfl
theorem Hc (a b:Int):Ar.mx a b=if a<b then b else a:=rfl
theorem PX (s:ByteArray):Ar.slen s=(s.size:Int):=rfl
theorem AF {n:Int} (h0: -9223372036854775808≤n) (h1:n<9223372036854775808):IntKind.wrap .i64 n=n:=by
 have e:IntKind.wrap .i64 n=(if n % 18446744073709551616≥9223372036854775808 then n % 18446744073709551616 - 18446744073709551616 else n % 18446744073709551616):=by
  unfold IntKind.wrap;simp[IntKind.bits,IntKind.signed]
 rw[e]
 split<;>omega
theorem C4 {a b:Int}(h0: -9223372036854775808≤a+b)(h1:a+b<9223372036854775808):Ar.ar .add .i64 a b=a+b:=AF h0 h1
theorem QT {S σ R α:Type} (l:List α) (hl:l.length<1000000000000) (step:S→Option (S ⊕ R)) (mk:σ→Int→S) (body:σ→α→Option (σ ⊕ R)) (fin:σ→R)
 (hstep:∀s (i:Nat) x,l[i]? =some x→step (mk s i)=(body s x).bind fun o=>match o with| .inl s'=>some (.inl (mk s' (i+1)))| .inr r=>some (.inr r))
 (hend:∀s,step (mk s l.length)=some (.inr (fin s))):
 ∀(k:Nat) (i:Nat) (s:σ) (N:Nat),i+k=l.length→k<N→loopN step N (mk s i)=(G8 body (l.drop i) s).bind fun o=>match o with| .inl s=>some (fin s)| .inr r=>some r:=by
 intro k
 induction k with
 |zero=>
  intro i s N hi hN;obtain⟨N,rfl⟩:∃M,N=M+1:=⟨N - 1,by omega⟩;have e:l.drop i=[]:=List.drop_eq_nil_of_le (by omega)
  have ei:((i:Nat):Int)=l.length:=by omega
  rw[e,ei];simp only[loopN,hend,G8,Option.bind_some]
 | succ k ih=>
  intro i s N hi hN;obtain⟨N,rfl⟩:∃M,N=M+1:=⟨N - 1,by omega⟩
  have hlt:i<l.length:=by omega
  have hx:l[i]? =some l[i]:=by simp[hlt]
  have e:l.drop i=l[i]::l.drop (i+1):=List.drop_eq_getElem_cons hlt;rw[e];simp only[loopN,hstep s i _ hx,G8]
  cases hb:body s l[i]with
  |none=>rfl
  | some o=>
   cases o with
   |inl s'=>
    simp only[Option.bind_some];have:=ih (i+1) s' N (by omega) (by omega);rw[show((i:Int)+1)=((i+1:Nat):Int) by omega];exact this
   |inr r=>rfl
theorem C7 {α:Type}{l:List α}{i:Nat}:B6 l (i:Int)=l[i]? :=by simp[B6]
theorem OV {β S σ R α:Type} (l:List α) (step:S→Option (List β×(S ⊕ R))) (mk:σ→Int→S) (body:σ→α→Option (List β×(σ ⊕ R))) (fin:σ→R)
 (hstep:∀s (i:Nat) x,l[i]? =some x→step (mk s i)=(body s x).bind fun o=>match o with|(w,.inl s')=>some (w,.inl (mk s' (i+1)))|(w,.inr r)=>some (w,.inr r))
 (hend:∀s,step (mk s l.length)=some ([],.inr (fin s))):
 ∀(k:Nat) (i:Nat) (s:σ) (N:Nat),i+k=l.length→k<N→V5 step N (mk s i)=(Be body (l.drop i) s).bind fun o=>match o with|(w,.inl s)=>some (w,fin s)|(w,.inr r)=>some (w,r):=by
 intro k
 induction k with
 |zero=>
  intro i s N hi hN;obtain⟨N,rfl⟩:∃M,N=M+1:=⟨N - 1,by omega⟩;have e:l.drop i=[]:=List.drop_eq_nil_of_le (by omega)
  have ei:((i:Nat):Int)=l.length:=by omega
  rw[e,ei];simp only[V5,hend,Be,Option.bind_some]
 | succ k ih=>
  intro i s N hi hN;obtain⟨N,rfl⟩:∃M,N=M+1:=⟨N - 1,by omega⟩
  have hlt:i<l.length:=by omega
  have hx:l[i]? =some l[i]:=by simp[hlt]
  have e:l.drop i=l[i]::l.drop (i+1):=List.drop_eq_getElem_cons hlt;rw[e];simp only[V5,hstep s i _ hx,Be]
  cases hb:body s l[i]with
  |none=>rfl
  | some o=>
   obtain⟨w,o⟩:=o
   cases o with
   | inl s'=>
    simp only[Option.bind_some];have:=ih (i+1) s' N (by omega) (by omega);rw[show((i:Int)+1)=((i+1:Nat):Int) by omega,this]
    cases hr:Be body (l.drop (i+1)) s' with
    |none=>rfl
    |some q=>
     obtain⟨w',o'⟩:=q;cases o'<;>rfl
   |inr r=>rfl
theorem F5 {S σ R α:Type} (l:List α) (hl:l.length<1000000000000) {step:S→Option (S ⊕ R)} (mk:σ→Int→S) (body:σ→α→Option (σ ⊕ R)) (fin:σ→R) (s:σ) {N:Nat} (hN:l.length<N)
 (hstep:∀s (i:Nat) x,l[i]? =some x→(i:Int)<l.length→step (mk s i)=(body s x).bind fun o=>match o with| .inl s'=>some (.inl (mk s' (i+1)))| .inr r=>some (.inr r))
 (hend:∀s,step (mk s l.length)=some (.inr (fin s))):loopN step N (mk s 0)=(G8 body l s).bind fun o=>match o with| .inl s=>some (fin s)| .inr r=>some r:=by
 have:=QT l hl step mk body fin (fun s i x h=>hstep s i x h (by
  rcases Nat.lt_or_ge i l.length with h'|h'
  ·omega
  rw[List.getElem?_eq_none h']at h;cases h)) hend l.length 0 s N (by omega) hN
 simpa using this
theorem SG {β S σ R α:Type} (l:List α) {step:S→Option (List β×(S ⊕ R))} (mk:σ→Int→S) (body:σ→α→Option (List β×(σ ⊕ R))) (fin:σ→R) (s:σ) {N:Nat} (hN:l.length<N)
 (hstep:∀s (i:Nat) x,l[i]? =some x→(i:Int)<l.length→step (mk s i)=(body s x).bind fun o=>match o with|(w,.inl s')=>some (w,.inl (mk s' (i+1)))|(w,.inr r)=>some (w,.inr r))
 (hend:∀s,step (mk s l.length)=some ([],.inr (fin s))):V5 step N (mk s 0)=(Be body l s).bind fun o=>match o with|(w,.inl s)=>some (w,fin s)|(w,.inr r)=>some (w,r):=by
 have:=OV l step mk body fin (fun s i x h=>hstep s i x h (by
  rcases Nat.lt_or_ge i l.length with h'|h'
  ·omega
  rw[List.getElem?_eq_none h']at h;cases h)) hend l.length 0 s N (by omega) hN
 simpa using this
theorem V9 {α σ R:Type} {step:σ→α→Option (σ ⊕ R)} (I:List α→σ→Prop) (hs:∀x r s,I (x::r) s→∃s',step s x=some (.inl s')∧I r s'):∀{l:List α} {s:σ},I l s→∃s',G8 step l s=some (.inl s')∧I [] s'
 |[],s,h=>⟨s,rfl,h⟩
 |x::l,s,h=>by
  obtain⟨s',h1,h2⟩:=hs x l s h;obtain⟨s2,h3,h4⟩:=V9 I hs h2;exact⟨s2,by simp only[G8,h1,h3],h4⟩
theorem Mb {α β σ R:Type} {step:σ→α→Option (List β×(σ ⊕ R))} (I:List α→List β→σ→Prop) (hs:∀x r w s,I (x::r) w s→∃w' s',step s x=some (w',.inl s')∧I r (w++w') s'):
 ∀{l:List α} {w:List β} {s:σ},I l w s→∃w' s',Be step l s=some (w',.inl s')∧I [] (w++w') s'
 |[],w,s,h=>⟨[],s,rfl,by simpa using h⟩
 |x::l,w,s,h=>by
  obtain⟨w1,s1,h1,h2⟩:=hs x l w s h;obtain⟨w2,s2,h3,h4⟩:=Mb I hs h2;exact⟨w1++w2,s2,by simp only[Be,h1,h3],by rw[←List.append_assoc];exact h4⟩
def P9 {α:Type}(f:α→Int):List α→Int
 |[]=>0
 |x::l=>if f x=0 then P9 f l else f x
theorem CE {α:Type} {f:α→Int}:∀{l:List α},P9 f l=0↔∀x∈l,f x=0
 |[]=>by simp[P9]
 |x::l=>by
  unfold P9
  split
  ·rename_i h;rw[CE];simp[h]
  rename_i h;simp[h]
theorem Lb {α:Type} {f:α→Int}:∀{l m:List α},P9 f (l++m)=if P9 f l=0 then P9 f m else P9 f l
 |[],m=>by simp[P9]
 |x::l,m=>by
  simp only[List.cons_append,P9]
  split
  ·rw[Lb]
  rename_i h;simp[h]
theorem NE {α:Type} {F:α→Option Int} {f:α→Int}:∀{l:List α},(∀x∈l,F x=some (f x))→
 G8 (fun(_:Unit) x=>(F x).bind fun r=>if Ar.cmp .neq r 0=true then some (Sum.inr r)else some (.inl ())) l ()=some (if P9 f l=0 then .inl ()else .inr (P9 f l))
 |[],_=>rfl
 | x::l,h=>by
  have h1:=NE (l:=l) fun y hy=>h y (by simp[hy]);unfold G8;simp only[h x (by simp),Option.bind_some,F6,P9]
  by_cases hz:f x=0
  ·simp only[hz,decide_true,Bool.not_true,Bool.false_eq_true,if_false,if_true]
   simpa only[F6]using h1
  simp[hz]
noncomputable def As {α:Type}(F:α→Option Int)(_:Unit)(a:α):Option (Unit ⊕ (Unit ⊕ Int)):=(F a).bind fun r=>if Ar.cmp .neq r 0=true then some (.inr (.inr r))else some (.inl ())
theorem X4 {α:Type} {F:α→Option Int} {f:α→Int}:∀{l:List α},(∀x∈l,F x=some (f x))→G8 (As F) l ()=some (if P9 f l=0 then .inl ()else .inr (.inr (P9 f l)))
 |[],_=>rfl
 |x::l,h=>by
  have h1:=X4 (l:=l) fun y hy=>h y (by simp[hy]);unfold G8 As;simp only[h x (by simp),Option.bind_some,F6,P9]
  by_cases hz:f x=0
  ·simp only[hz,decide_true,Bool.not_true,Bool.false_eq_true,if_false,if_true];exact h1
  simp[hz]
end Go.Ab
namespace Go.Ab
open Go.RowKit Go.ChangeShapes Go.WideShapes
variable [I6]
section
variable {H α:Type}{enc:TypeId×Value→H}{P:Program}{W:World}{base:Nat}{spare:Nat→Bool}{held:Bool}{t e:TypeId}{n:Nat}
theorem NA {cs:List Value} {sz:Nat} {f:α→V}:∀(l:List α) (o:Nat),(∀(i:Nat) a,l[i]? =some a→Dk (g0 W) W ((cs.drop (o+i*sz)).take sz) (f a).cells)→Dk (g0 W) W ((cs.drop o).take (l.length*sz)) (l.flatMap fun a=>(f a).cells)
 |[],o,_=>by simp;exact .nil _ _
 | a::l,o,h=>by
  have h0:=h 0 a rfl
  rw[Nat.zero_mul,Nat.add_zero]at h0
  have h1:=NA l (o+sz) fun i b hi=>by
   have:=h (i+1) b (by simpa using hi)
   rwa[show o+(i+1)*sz=o+sz+i*sz by rw[Nat.add_mul];omega]at this
  have:=h0.join h1;rw[List.length_cons,List.flatMap_cons,show(l.length+1)*sz=sz+l.length*sz by rw[Nat.add_mul];omega];exact this
theorem QI {f:α→V} {R:α→DataW H→Prop} {m:Nat} (ht:P.underlying t=some (.array m e)) (hct:P.cellsOf t=m*P.cellsOf e) (hm:0<m) (he:∀n,Opens enc P W base spare held e f R n) {cs:List Value} {x:DataW H×List MemPlace}
 (h:DataW.trod enc P W base spare held n t cs=some x):∃l:List α,Dk (g0 W) W cs (l.flatMap fun a=>(f a).cells)∧∃ds,x.1= .agg ds∧RL R l ds:=by
 cases n with
 |zero=>simp[DataW.trod]at h
 | succ n=>
  simp only[DataW.trod,ht]at h
  split at h
  ·rename_i hl;obtain⟨xs,hmm,rfl⟩:=Option.map_eq_some_iff.1 h
   have hxl:xs.length=m:=by simpa using mapM_some_length hmm
   have one:∀i,i<m→∃b,Dk (g0 W) W ((cs.drop (i*P.cellsOf e)).take (P.cellsOf e)) (f b).cells∧∀y,xs[i]? =some y→R b y.1:=by
    intro i hi;have h1:=mapM_some_get hmm i i (by simp[hi])
    have h2:xs[i]? =some (xs[i]'(by omega)):=by simp[hxl,hi]
    rw[h2]at h1
    obtain⟨b,hr,hR⟩:=he n _ _ h1;exact⟨b,hr,fun y hy=>by rw[h2]at hy;cases hy;exact hR⟩
   obtain⟨b0,_⟩:=one 0 hm
   haveI:Inhabited α:=⟨b0⟩
   obtain⟨A,hA⟩:=Deep.choose_lt one
   have hat:∀(i:Nat) a,((List.range m).map A)[i]? =some a→i<m∧a=A i:=fun i a hi=>by
    rcases Nat.lt_or_ge i m with hlt|hge
    ·simp[hlt]at hi;exact⟨hlt,hi.symm⟩
    rw[List.getElem?_eq_none (by simpa using hge)]at hi;cases hi
   refine⟨(List.range m).map A,?_,_,rfl,by simp[hxl],fun i a d hi hd=>?_⟩
   ·have:=NA (cs:=cs) (sz:=P.cellsOf e) (f:=f) (W:=W) ((List.range m).map A) 0 (fun i a hi=>by
     obtain⟨h1,rfl⟩:=hat i a hi
     simpa using(hA i h1).1)
    simpa[List.take_of_length_le,hl,hct]using this
   obtain⟨h1,rfl⟩:=hat i a hi
   simp only[List.getElem?_map,Option.map_eq_some_iff]at hd
   obtain⟨y,hy,rfl⟩:=hd;exact(hA i h1).2 y hy
  cases h
theorem Rd {g:Nat} {cs:Array Value} {xs:List V} {name:String} (hg:P.globalNamed name=some g) (hv:W.var? P name=some cs) (hr:Dk (g0 W) W cs.toList xs):VR (g0 W) W (.pointer (some ⟨g,0,none⟩)) (.eref xs 0):=by
 have cell:∀j,j<xs.length→W.cell? ⟨g,0+j,none⟩=some (cs.toList.getD j undef):=fun j hj=>by
  have h1:=World.var?_cell hg hv j
  have h2:j<cs.size:=by have:=hr.1;simp at this;omega
  rw[Nat.zero_add,h1];simp[List.getD,h2]
 exact .eref (g:=g0 W) (o:=0) (off:=0) (fun j=>cs.toList.getD j undef) (fun j hj=>(⟨_,cell j hj⟩:∃v,W.cell? ⟨g,0+j,none⟩=some v)) (fun j hj=>cell j hj) (fun j hj=>(hr.2 j hj).1) fun j hj=>(hr.2 j hj).2
end
end Go.Ab
namespace Go.Ab
open Go.RowKit Go.ChangeShapes Go.WideShapes
variable [I6]
section
variable {H:Type}{enc:TypeId×Value→H}{P:Program}{W:World}{base:Nat}{spare:Nat→Bool}{held:Bool}{t e:TypeId}{n:Nat}
end
end Go.Ab
namespace Go.Ab
mutual
def B0.bulk :B0→Nat
 |⟨_,args,_,_,_,v⟩=>B0.bulks args+v.Text.size+9
def B0.bulks :List B0→Nat
 |[]=>1
 |a::r=>B0.bulk a+B0.bulks r
end
mutual
def A1.bulk :A1→Nat
 |⟨_,args,_,_,_,_,c⟩=>A1.bulks args+B0.bulk c+6
def A1.bulks :List A1→Nat
 |[]=>1
 |a::r=>A1.bulk a+A1.bulks r
end
end Go.Ab
namespace Go.Ab
mutual
def B0.pre :B0→List B0
 |⟨op,args,var,field,kind,val⟩=>⟨op,args,var,field,kind,val⟩::B0.pres args
def B0.pres :List B0→List B0
 |[]=>[]
 |a::r=>B0.pre a++B0.pres r
end
mutual
def B0.dep :B0→Nat
 |⟨_,args,_,_,_,_⟩=>B0.deps args+1
def B0.deps :List B0→Nat
 |[]=>0
 |a::r=>max (B0.dep a) (B0.deps r)
end
mutual
def A1.pre :A1→List A1
 |⟨op,args,typ,var,scope,span,c⟩=>⟨op,args,typ,var,scope,span,c⟩::A1.pres args
def A1.pres :List A1→List A1
 |[]=>[]
 |a::r=>A1.pre a++A1.pres r
end
mutual
def A1.dep :A1→Nat
 |⟨_,args,_,_,_,_,_⟩=>A1.deps args+1
def A1.deps :List A1→Nat
 |[]=>0
 |a::r=>max (A1.dep a) (A1.deps r)
end
theorem B0.pre_eq (x:B0):x.pre=x::B0.pres x.cL:=by cases x;simp[B0.pre]
theorem A1.pre_eq (x:A1):x.pre=x::A1.pres x.cL:=by cases x;simp[A1.pre]
theorem B0.dep_eq (x:B0):x.dep=B0.deps x.cL+1:=by cases x;simp[B0.dep]
theorem A1.dep_eq (x:A1):x.dep=A1.deps x.cL+1:=by cases x;simp[A1.dep]
theorem B0.bulk_eq (x:B0):x.bulk=B0.bulks x.cL+x.Value.Text.size+9:=by cases x;simp[B0.bulk]
theorem A1.bulk_eq (x:A1):x.bulk=A1.bulks x.cL+x.cN.bulk+6:=by cases x;simp[A1.bulk]
theorem LB :∀(l:List B0),(∀a∈l,B0.bulk a≤B0.bulks l)∧l.length≤B0.bulks l
 |[]=>⟨fun a h=>by simp at h,by simp[B0.bulks]⟩
 |b::l=>by
  have h:=LB l;have hb:=B0.bulk_eq b;simp only[B0.bulks,List.length_cons];refine⟨fun a ha=>?_,by omega⟩
  rcases List.mem_cons.1 ha with rfl|ha
  ·omega
  have:=h.1 a ha;omega
theorem LA :∀(l:List A1),(∀a∈l,A1.bulk a≤A1.bulks l)∧l.length≤A1.bulks l
 |[]=>⟨fun a h=>by simp at h,by simp[A1.bulks]⟩
 |b::l=>by
  have h:=LA l;have hb:=A1.bulk_eq b;simp only[A1.bulks,List.length_cons];refine⟨fun a ha=>?_,by omega⟩
  rcases List.mem_cons.1 ha with rfl|ha
  ·omega
  have:=h.1 a ha;omega
mutual
theorem Sz :∀x:B0,x.pre.length≤x.bulk
 |⟨op,args,var,field,kind,val⟩=>by
  have:=EI args;simp only[B0.pre,B0.bulk,List.length_cons];omega
theorem EI :∀l:List B0,(B0.pres l).length≤B0.bulks l
 |[]=>by simp[B0.pres]
 |a::l=>by
  have h1:=Sz a;have h2:=EI l;simp only[B0.pres,B0.bulks,List.length_append];omega
end
mutual
theorem DY :∀x:A1,x.pre.length≤x.bulk
 |⟨op,args,typ,var,scope,span,c⟩=>by
  have:=EH args;simp only[A1.pre,A1.bulk,List.length_cons];omega
theorem EH :∀l:List A1,(A1.pres l).length≤A1.bulks l
 |[]=>by simp[A1.pres]
 |a::l=>by
  have h1:=DY a;have h2:=EH l;simp only[A1.pres,A1.bulks,List.length_append];omega
end
mutual
theorem IZ :∀x:B0,x.dep≤x.bulk
 |⟨op,args,var,field,kind,val⟩=>by
  have:=ET args;simp only[B0.dep,B0.bulk];omega
theorem ET :∀l:List B0,B0.deps l≤B0.bulks l
 |[]=>by simp[B0.deps]
 |a::l=>by
  have h1:=IZ a;have h2:=ET l;simp only[B0.deps,B0.bulks];omega
end
mutual
theorem Td :∀x:A1,x.dep≤x.bulk
 |⟨op,args,typ,var,scope,span,c⟩=>by
  have:=ES args;simp only[A1.dep,A1.bulk];omega
theorem ES :∀l:List A1,A1.deps l≤A1.bulks l
 |[]=>by simp[A1.deps]
 |a::l=>by
  have h1:=Td a;have h2:=ES l;simp only[A1.deps,A1.bulks];omega
end
def Cut (lim:Int)(cnt:Nat)(r:Int):Prop:=1≤r∧r≤cnt∧(r=cnt∨lim<r)
section
variable {α:Type}
theorem GW {lim:Int} {f:α→Option Int} {cnt:α→Nat} {B:Nat} (hB:B≤1000000000000):∀(l:List α) (s:Int),0≤s→s+(l.map cnt).sum≤B→(∀a∈l,∃r,f a=some r∧Cut lim (cnt a) r)→
 ∃o,G8 (fun(s:Int) x=>if s≤lim then(f x).bind fun r=>some (.inl (Ar.ar .add .i64 s r))else some (.inr s)) l s=some o∧
  ∃v,v=(match o with| .inl s=>s| .inr s=>s)∧s≤v∧v≤s+(l.map cnt).sum∧(v=s+(l.map cnt).sum∨lim<v)
 |[],s,h0,_,_=>⟨.inl s,rfl,s,rfl,Int.le_refl _,by simp,.inl (by simp)⟩
 | a::l,s,h0,hb,hf=>by
  simp only[List.map_cons,List.sum_cons]at hb ⊢
  unfold G8
  by_cases hs:s≤lim
  ·obtain⟨r,h1,h2,h3,h4⟩:=hf a (by simp);simp only[if_pos hs,h1,Option.bind_some];have e:Ar.ar .add .i64 s r=s+r:=C4 (by omega) (by omega);rw[e];obtain⟨o,k1,v,k2,k3,k4,k5⟩:=GW hB l (s+r) (by omega) (by omega) fun b hb=>hf b (by simp[hb]);refine⟨o,k1,v,k2,by omega,by omega,?_⟩
   rcases k5 with k5|k5
   ·rcases h4 with h4|h4
    ·left;omega
    right;omega
   exact .inr k5
  simp only[if_neg hs];exact⟨_,rfl,s,rfl,Int.le_refl _,by omega,.inr (by omega)⟩
end
theorem Ir :∀l:List A1,(l.map fun a=>a.pre.length).sum=(A1.pres l).length
 |[]=>rfl
 |a::l=>by simp[A1.pres,Ir l]
theorem It :∀l:List B0,(l.map fun a=>a.pre.length).sum=(B0.pres l).length
 |[]=>rfl
 |a::l=>by simp[B0.pres,It l]
theorem PM {N:Nat} (hN:40000000≤N) (lim:Int):∀(n:Nat) (x:A1),x.bulk≤n→x.bulk≤16777216→∃r,U0 N n x lim=some r∧Cut lim x.pre.length r:=by
 intro n
 induction n with
 |zero=>intro x h;have:=A1.bulk_eq x;omega
 | succ n ih=>
  intro x hx hb;have hxb:=A1.bulk_eq x;have hB:=LA x.cL;have hpb:=EH x.cL;unfold U0;rw[F5 x.cL (by omega) (mk:=fun(s:Int) i=>(s,i)) (body:=fun(s:Int) a=>if s≤lim then(U0 N n a lim).bind fun r=>some (.inl (Ar.ar .add .i64 s r))else some (.inr s)) (fin:=fun s=>s) (s:=1) (by omega) ?_ ?_]
  ·obtain⟨o,k1,v,k2,k3,k4,k5⟩:=GW (lim:=lim) (f:=fun a=>U0 N n a lim) (cnt:=fun a=>a.pre.length) (B:=40000000) (by omega) x.cL 1 (by omega) (by rw[Ir];omega) fun a ha=>ih a (by have:=hB.1 a ha;omega) (by have:=hB.1 a ha;omega)
   rw[Ir]at k4 k5
   have hpe:x.pre.length=(A1.pres x.cL).length+1:=by rw[A1.pre_eq];rfl
   simp only[k1,Option.bind_some];refine⟨v,?_,by omega,by omega,?_⟩
   ·cases o<;>simp_all
   rcases k5 with k5|k5
   ·left;omega
   right;exact k5
  ·intro s i a ha hi;have e:Ar.ar .add .i64 (i:Int) 1=i+1:=C4 (by omega) (by omega);simp only[C2,Ce,L7,B1,hi,decide_true,Bool.true_and,C7,ha,Option.bind_some,e,decide_eq_true_eq]
   split
   ·cases U0 N n a lim<;>rfl
   rfl
  intro s;simp[C2,L7,B1]
end Go.Ab
namespace Go.Ab
theorem Jx {x a:A1}(h:a∈x.cL):a.bulk<x.bulk:=by
 have h1:=(LA x.cL).1 a h;have h2:=A1.bulk_eq x;omega
theorem X5 {x a:B0}(h:a∈x.cL):a.bulk<x.bulk:=by
 have h1:=(LB x.cL).1 a h;have h2:=B0.bulk_eq x;omega
theorem Jz (x:A1):x.cL.length≤x.bulk:=by
 have h1:=(LA x.cL).2;have h2:=A1.bulk_eq x;omega
theorem Ec (x:B0):x.cL.length≤x.bulk:=by
 have h1:=(LB x.cL).2;have h2:=B0.bulk_eq x;omega
theorem JN (x:A1):0<x.bulk:=by have:=A1.bulk_eq x;omega
theorem CD (x:B0):0<x.bulk:=by have:=B0.bulk_eq x;omega
theorem Rp {N:Nat} (hN:40000000≤N):∀(n:Nat) (x:A1),x.bulk≤n→x.bulk≤16777216→U2 N n x=some (x.dep:Int):=by
 intro n
 induction n with
 |zero=>intro x h;have:=JN x;omega
 | succ n ih=>
  intro x hx hb;have hl:=Jz x;unfold U2;rw[F5 x.cL (by omega) (mk:=fun(s:Int) i=>(s,i)) (body:=fun(s:Int) a=>(U2 N n a).bind fun r=>some (.inl (Ar.mx s r))) (fin:=fun s=>s) (s:=0) (by omega) ?_ ?_]
  ·obtain⟨s',k1,k2⟩:=V9 (R:=Int) (step:=fun(s:Int) a=>(U2 N n a).bind fun r=>some (.inl (Ar.mx s r))) (fun r s=>(∀a∈r,a∈x.cL)∧0≤s∧max s (A1.deps r:Int)=(A1.deps x.cL:Int)) (fun a r s ⟨h1,h2,h3⟩=>by
    have hm:=Jx (h1 a (by simp));refine⟨_,by rw[ih a (by omega) (by omega)];rfl,fun b hb=>h1 b (by simp[hb]),?_,?_⟩
    ·rw[Hc];split<;>omega
    rw[←h3,Hc];simp only[A1.deps];split<;>omega) (l:=x.cL) (s:=0) ⟨fun a h=>h,Int.le_refl _,by omega⟩
   simp only[k1,Option.bind_some]
   have e:s'=(A1.deps x.cL:Int):=by have:=k2.2.2;simp only[A1.deps]at this;omega
   have hd:=ES x.cL;have hd2:=A1.bulk_eq x;rw[e,C4 (by omega) (by omega),A1.dep_eq];rfl
  ·intro s i a ha hi;have e:Ar.ar .add .i64 (i:Int) 1=i+1:=C4 (by omega) (by omega);simp only[C2,B1,hi,decide_true,if_true,C7,ha,Option.bind_some,e];cases U2 N n a<;>rfl
  intro s;simp[C2,B1]
theorem M2 {α:Type}{l m:List α}(h:l.length+m.length≤1073741824):H8 l m=some (l++m):=by simp[H8,h]
theorem Mj {N:Nat} (hN:40000000≤N):∀(n:Nat) (x:A1),x.bulk≤n→x.bulk≤16777216→Q9 N n x=some x.pre:=by
 intro n
 induction n with
 |zero=>intro x h;have:=JN x;omega
 | succ n ih=>
  intro x hx hb;have hl:=Jz x;unfold Q9;rw[F5 x.cL (by omega) (mk:=fun(s:List A1) i=>(s,i)) (body:=fun(s:List A1) a=>(Q9 N n a).bind fun r=>(H8 s r).bind fun l=>some (.inl l)) (fin:=fun s=>s) (s:=[x]) (by omega) ?_ ?_]
  ·have hp:=DY x;have hpe:=A1.pre_eq x
   obtain⟨s',k1,k2⟩:=V9 (R:=List A1) (step:=fun(s:List A1) a=>(Q9 N n a).bind fun r=>(H8 s r).bind fun l=>some (.inl l)) (fun r s=>(∀a∈r,a∈x.cL)∧s++A1.pres r=x.pre) (fun a r s ⟨h1,h2⟩=>by
    have hm:=Jx (h1 a (by simp));have hlen:=congrArg List.length h2
    simp only[A1.pres,List.length_append]at hlen
    refine⟨_,by rw[ih a (by omega) (by omega)];simp only[Option.bind_some];rw[M2 (by omega)];rfl,fun b hb=>h1 b (by simp[hb]),?_⟩
    rw[←h2];simp[A1.pres]) (l:=x.cL) (s:=[x]) ⟨fun a h=>h,by rw[hpe];rfl⟩
   simp only[k1,Option.bind_some];have:=k2.2
   simp only[A1.pres,List.append_nil]at this
   rw[this]
  ·intro s i a ha hi;have e:Ar.ar .add .i64 (i:Int) 1=i+1:=C4 (by omega) (by omega);simp only[C2,B1,hi,decide_true,if_true,C7,ha,Option.bind_some,e]
   cases Q9 N n a with
   |none=>rfl
   |some r=>simp only[Option.bind_some];cases H8 s r<;>rfl
  intro s;simp[C2,B1]
theorem YD {N:Nat} (hN:40000000≤N):∀(n:Nat) (x:A1),x.bulk≤n→x.bulk≤16777216→T7 N n x=some ((x.pre.length:Int),(x.dep:Int)):=by
 intro n
 induction n with
 |zero=>intro x h;have:=JN x;omega
 | succ n ih=>
  intro x hx hb;have hl:=Jz x;unfold T7;rw[F5 x.cL (by omega) (mk:=fun(s:Int×Int) i=>(s.1,s.2,i)) (body:=fun(s:Int×Int) a=>(T7 N n a).bind fun r=>some (.inl (Ar.ar .add .i64 s.1 r.1,Ar.mx s.2 r.2))) (fin:=fun s=>s) (s:=(1,0)) (by omega) ?_ ?_]
  ·have hp:=EH x.cL;have hd:=ES x.cL;have hbe:=A1.bulk_eq x
   obtain⟨s',k1,k2⟩:=V9 (R:=Int×Int) (step:=fun(s:Int×Int) a=>(T7 N n a).bind fun r=>some (.inl (Ar.ar .add .i64 s.1 r.1,Ar.mx s.2 r.2))) (fun r s=>(∀a∈r,a∈x.cL)∧0≤s.2∧0≤s.1∧s.1+(A1.pres r).length=(A1.pres x.cL).length+1∧max s.2 (A1.deps r:Int)=(A1.deps x.cL:Int)) (fun a r s ⟨h1,h2,h3,h4,h5⟩=>by
    have hm:=Jx (h1 a (by simp))
    simp only[A1.pres,List.length_append,A1.deps]at h4 h5
    refine⟨_,by rw[ih a (by omega) (by omega)];rfl,fun b hb=>h1 b (by simp[hb]),?_,?_,?_,?_⟩
    ·simp only[Hc];split<;>omega
    ·rw[C4 (by omega) (by omega)];omega
    ·rw[C4 (by omega) (by omega)];omega
    rw[←h5];simp only[Hc];split<;>omega) (l:=x.cL) (s:=(1,0)) ⟨fun a h=>h,by simp,by simp,by simp only;omega,by simp only;omega⟩
   simp only[k1,Option.bind_some];obtain⟨_,_,_,e1,e2⟩:=k2
   simp only[A1.pres,List.length_nil,A1.deps]at e1 e2
   have e3:s'.1=(x.pre.length:Int):=by rw[A1.pre_eq];simp only[List.length_cons];omega
   have e4:s'.2=(A1.deps x.cL:Int):=by omega
   rw[e3,e4,C4 (by omega) (by omega),A1.dep_eq];rfl
  ·intro s i a ha hi;have e:Ar.ar .add .i64 (i:Int) 1=i+1:=C4 (by omega) (by omega);simp only[C2,B1,hi,decide_true,if_true,C7,ha,Option.bind_some,e];cases T7 N n a<;>rfl
  intro s;simp[C2,B1]
theorem Yw {N:Nat} (hN:40000000≤N):∀(n:Nat) (x:A1),x.bulk≤n→x.bulk≤16777216→T6 N n x=some x.pre:=by
 intro n
 induction n with
 |zero=>intro x h;have:=JN x;omega
 | succ n ih=>
  intro x hx hb;have hl:=Jz x;unfold T6;rw[SG x.cL (mk:=fun(_:Unit) i=>i) (body:=fun(_:Unit) a=>(T6 N n a).bind fun l=>some (l,.inl ())) (fin:=fun _=>()) (s:=()) (by omega) ?_ ?_]
  ·obtain⟨w,s',k1,k2⟩:=Mb (R:=Unit) (step:=fun(_:Unit) a=>(T6 N n a).bind fun l=>some (l,.inl ())) (fun r w s=>(∀a∈r,a∈x.cL)∧w++A1.pres r=A1.pres x.cL) (fun a r w s ⟨h1,h2⟩=>by
    have hm:=Jx (h1 a (by simp));refine⟨a.pre,(),by rw[ih a (by omega) (by omega)];rfl,fun b hb=>h1 b (by simp[hb]),?_⟩
    rw[←h2];simp[A1.pres]) (l:=x.cL) (w:=[]) (s:=()) ⟨fun a h=>h,by simp⟩
   have e:w=A1.pres x.cL:=by have:=k2.2;simpa[A1.pres]using this
   rw[k1,e,A1.pre_eq];simp[N2]
  ·intro s i a ha hi;have e:Ar.ar .add .i64 (i:Int) 1=i+1:=C4 (by omega) (by omega);simp only[C2,B1,hi,decide_true,if_true,C7,ha,Option.bind_some,e];cases T6 N n a<;>simp[N2]
  intro s;simp[C2,B1]
end Go.Ab
namespace Go.Ab
theorem Rr {N:Nat} (hN:40000000≤N) (lim:Int):∀(n:Nat) (x:B0),x.bulk≤n→x.bulk≤16777216→∃r,U4 N n x lim=some r∧Cut lim x.pre.length r:=by
 intro n
 induction n with
 |zero=>intro x h;have:=CD x;omega
 | succ n ih=>
  intro x hx hb;have hxb:=B0.bulk_eq x;have hB:=LB x.cL;have hpb:=EI x.cL;unfold U4;rw[F5 x.cL (by omega) (mk:=fun(s:Int) i=>(s,i)) (body:=fun(s:Int) a=>if s≤lim then(U4 N n a lim).bind fun r=>some (.inl (Ar.ar .add .i64 s r))else some (.inr s)) (fin:=fun s=>s) (s:=1) (by omega) ?_ ?_]
  ·obtain⟨o,k1,v,k2,k3,k4,k5⟩:=GW (lim:=lim) (f:=fun a=>U4 N n a lim) (cnt:=fun a=>a.pre.length) (B:=40000000) (by omega) x.cL 1 (by omega) (by rw[It];omega) fun a ha=>ih a (by have:=hB.1 a ha;omega) (by have:=hB.1 a ha;omega)
   rw[It]at k4 k5
   have hpe:x.pre.length=(B0.pres x.cL).length+1:=by rw[B0.pre_eq];rfl
   simp only[k1,Option.bind_some];refine⟨v,?_,by omega,by omega,?_⟩
   ·cases o<;>simp_all
   rcases k5 with k5|k5
   ·left;omega
   right;exact k5
  ·intro s i a ha hi;have e:Ar.ar .add .i64 (i:Int) 1=i+1:=C4 (by omega) (by omega);simp only[C2,Ce,L7,B1,hi,decide_true,Bool.true_and,C7,ha,Option.bind_some,e,decide_eq_true_eq]
   split
   ·cases U4 N n a lim<;>rfl
   rfl
  intro s;simp[C2,L7,B1]
theorem MK {N:Nat} (hN:40000000≤N):∀(n:Nat) (x:B0),x.bulk≤n→x.bulk≤16777216→U3 N n x=some (x.dep:Int):=by
 intro n
 induction n with
 |zero=>intro x h;have:=CD x;omega
 | succ n ih=>
  intro x hx hb;have hl:=Ec x;unfold U3;rw[F5 x.cL (by omega) (mk:=fun(s:Int) i=>(s,i)) (body:=fun(s:Int) a=>(U3 N n a).bind fun r=>some (.inl (Ar.mx s r))) (fin:=fun s=>s) (s:=0) (by omega) ?_ ?_]
  ·obtain⟨s',k1,k2⟩:=V9 (R:=Int) (step:=fun(s:Int) a=>(U3 N n a).bind fun r=>some (.inl (Ar.mx s r))) (fun r s=>(∀a∈r,a∈x.cL)∧0≤s∧max s (B0.deps r:Int)=(B0.deps x.cL:Int)) (fun a r s ⟨h1,h2,h3⟩=>by
    have hm:=X5 (h1 a (by simp));refine⟨_,by rw[ih a (by omega) (by omega)];rfl,fun b hb=>h1 b (by simp[hb]),?_,?_⟩
    ·rw[Hc];split<;>omega
    rw[←h3,Hc];simp only[B0.deps];split<;>omega) (l:=x.cL) (s:=0) ⟨fun a h=>h,Int.le_refl _,by omega⟩
   simp only[k1,Option.bind_some]
   have e:s'=(B0.deps x.cL:Int):=by have:=k2.2.2;simp only[B0.deps]at this;omega
   have hd:=ET x.cL;have hd2:=B0.bulk_eq x;rw[e,C4 (by omega) (by omega),B0.dep_eq];rfl
  ·intro s i a ha hi;have e:Ar.ar .add .i64 (i:Int) 1=i+1:=C4 (by omega) (by omega);simp only[C2,B1,hi,decide_true,if_true,C7,ha,Option.bind_some,e];cases U3 N n a<;>rfl
  intro s;simp[C2,B1]
theorem UK {N:Nat} (hN:40000000≤N):∀(n:Nat) (x:B0),x.bulk≤n→x.bulk≤16777216→Ba N n x=some ((x.pre.length:Int),(x.dep:Int)):=by
 intro n
 induction n with
 |zero=>intro x h;have:=CD x;omega
 | succ n ih=>
  intro x hx hb;have hl:=Ec x;unfold Ba;rw[F5 x.cL (by omega) (mk:=fun(s:Int×Int) i=>(s.1,s.2,i)) (body:=fun(s:Int×Int) a=>(Ba N n a).bind fun r=>some (.inl (Ar.ar .add .i64 s.1 r.1,Ar.mx s.2 r.2))) (fin:=fun s=>s) (s:=(1,0)) (by omega) ?_ ?_]
  ·have hp:=EI x.cL;have hd:=ET x.cL;have hbe:=B0.bulk_eq x
   obtain⟨s',k1,k2⟩:=V9 (R:=Int×Int) (step:=fun(s:Int×Int) a=>(Ba N n a).bind fun r=>some (.inl (Ar.ar .add .i64 s.1 r.1,Ar.mx s.2 r.2))) (fun r s=>(∀a∈r,a∈x.cL)∧0≤s.2∧0≤s.1∧s.1+(B0.pres r).length=(B0.pres x.cL).length+1∧max s.2 (B0.deps r:Int)=(B0.deps x.cL:Int)) (fun a r s ⟨h1,h2,h3,h4,h5⟩=>by
    have hm:=X5 (h1 a (by simp))
    simp only[B0.pres,List.length_append,B0.deps]at h4 h5
    refine⟨_,by rw[ih a (by omega) (by omega)];rfl,fun b hb=>h1 b (by simp[hb]),?_,?_,?_,?_⟩
    ·simp only[Hc];split<;>omega
    ·rw[C4 (by omega) (by omega)];omega
    ·rw[C4 (by omega) (by omega)];omega
    rw[←h5];simp only[Hc];split<;>omega) (l:=x.cL) (s:=(1,0)) ⟨fun a h=>h,by simp,by simp,by simp only;omega,by simp only;omega⟩
   simp only[k1,Option.bind_some];obtain⟨_,_,_,e1,e2⟩:=k2
   simp only[B0.pres,List.length_nil,B0.deps]at e1 e2
   have e3:s'.1=(x.pre.length:Int):=by rw[B0.pre_eq];simp only[List.length_cons];omega
   have e4:s'.2=(B0.deps x.cL:Int):=by omega
   rw[e3,e4,C4 (by omega) (by omega),B0.dep_eq];rfl
  ·intro s i a ha hi;have e:Ar.ar .add .i64 (i:Int) 1=i+1:=C4 (by omega) (by omega);simp only[C2,B1,hi,decide_true,if_true,C7,ha,Option.bind_some,e];cases Ba N n a<;>rfl
  intro s;simp[C2,B1]
theorem MR {f:B0→Int}:∀l:List B0,P9 (fun a=>P9 f a.pre) l=P9 f (B0.pres l)
 |[]=>rfl
 |a::l=>by rw[B0.pres,Lb,P9,MR l]
theorem PQ {a y:B0} (hy:y∈a.pre):∀l:List B0,a∈l→y∈B0.pres l
 |[],h=>by simp at h
 |b::l,h=>by
  rcases List.mem_cons.1 h with rfl|h
  ·simp[B0.pres,hy]
  simp[B0.pres,PQ hy l h]
theorem Wu {N:Nat} (hN:40000000≤N) {F:B0→Option Int} {f:B0→Int}:∀(n:Nat) (x:B0),x.bulk≤n→x.bulk≤16777216→(∀y∈x.pre,F y=some (f y))→AP N n x F=some (P9 f x.pre):=by
 intro n
 induction n with
 |zero=>intro x h;have:=CD x;omega
 | succ n ih=>
  intro x hx hb hF;have hl:=Ec x;have hpe:=B0.pre_eq x;unfold AP;rw[hF x (by rw[hpe];simp)];simp only[Option.bind_some,F6];rw[hpe,P9]
  by_cases hz:f x=0
  ·simp only[hz,decide_true,Bool.not_true,Bool.false_eq_true,if_false,if_true];rw[F5 x.cL (by omega) (mk:=fun(_:Unit) i=>i) (body:=As fun a=>AP N n a F) (fin:=fun _=>.inl ()) (s:=()) (by omega) ?_ ?_]
   ·rw[X4 (f:=fun a=>P9 f a.pre) fun a ha=>ih a (by have:=X5 ha;omega) (by have:=X5 ha;omega) fun y hy=>hF y (by rw[hpe];exact List.mem_cons_of_mem _ (PQ hy _ ha)),MR]
    by_cases hz3:P9 f (B0.pres x.cL)=0
    ·simp[hz3]
    simp[hz3]
   ·intro s i a ha hi;have e:Ar.ar .add .i64 (i:Int) 1=i+1:=C4 (by omega) (by omega);simp only[C2,B1,hi,decide_true,if_true,C7,ha,Option.bind_some,e,As,F6]
    cases AP N n a F with
    |none=>rfl
    |some r=>by_cases h:r=0<;>simp[h]
   intro s;simp[C2,B1]
  simp[hz]
theorem Vu {N:Nat} (hN:40000000≤N) {f:B0→Int} (hF:∀y,Cr N y=some (f y)):∀(n:Nat) (x:B0),x.bulk≤n→x.bulk≤16777216→Z2 N n x=some (P9 f x.pre):=by
 intro n
 induction n with
 |zero=>intro x h;have:=CD x;omega
 | succ n ih=>
  intro x hx hb;have hl:=Ec x;have hpe:=B0.pre_eq x;unfold Z2;rw[hF x];simp only[Option.bind_some,F6];rw[hpe,P9]
  by_cases hz:f x=0
  ·simp only[hz,decide_true,Bool.not_true,Bool.false_eq_true,if_false,if_true];rw[F5 x.cL (by omega) (mk:=fun(_:Unit) i=>i) (body:=As fun a=>Z2 N n a) (fin:=fun _=>.inl ()) (s:=()) (by omega) ?_ ?_]
   ·rw[X4 (f:=fun a=>P9 f a.pre) fun a ha=>ih a (by have:=X5 ha;omega) (by have:=X5 ha;omega),MR]
    by_cases hz3:P9 f (B0.pres x.cL)=0
    ·simp[hz3]
    simp[hz3]
   ·intro s i a ha hi;have e:Ar.ar .add .i64 (i:Int) 1=i+1:=C4 (by omega) (by omega);simp only[C2,B1,hi,decide_true,if_true,C7,ha,Option.bind_some,e,As,F6]
    cases Z2 N n a with
    |none=>rfl
    |some r=>by_cases h:r=0<;>simp[h]
   intro s;simp[C2,B1]
  simp[hz]
end Go.Ab
