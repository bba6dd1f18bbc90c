/- GTCo6 GTCo7 AbG1 AbI1 AbG2 AbG3 AbM1 GTBk GTIn GTM1 -/
import Derived.Test.YtanbgjgaafeplaaGreatDoorT14
import Derived.Deep.Slices
import Derived.Carry
import Derived.Lib.LaidTab
import Derived.Test.YtanbgjgaafeplaaGreatDoorRows
import Derived.WalkKit
import Derived.ProofKit
import Derived.OpenShut
import Derived.Deep.DeepHandedRow
set_option linter.all false
namespace Go.Ab
open Go.RowKit Go.Proofs Go.Proofs.Tryz I8
variable[Ar][I8]
set_option maxRecDepth 100000
def cf154:Cf:=⟨[8,3000053,8000053,9000053],[(8,14),(11,8)],[],[],[],[]⟩
theorem c154 (N:Nat):∀n aB aR aT aU r,Z7 N n aB aR aT aU=some r→B4 prog 154 [(I0 aB),(DR aR),vi aT,(V7 aU)] (.tup [(C6 r.1),vi r.2]):=by
 intro n
 induction n with
 |zero=>intro aB aR aT aU r h;cases h
 |succ n ih=>
 intro aB aR aT aU r h
 unfold Z7 at h
 refine I4 cf154 func154 call154 ntmps154 ?_;intro E H0 K hE hK hO;cbv;refine C5 hE hO fun b1 H hO=>?_;cbv;refine D5 hE ?_;cbv;refine A8 hE h (fun _ h=>?_) fun _ h=>?_
 ·cbv;refine A5 hE h (c187 N aB aR aT aU) (.refl _) fun r2 h=>?_;cbv;refine B0 hE hO 0 rfl rfl fun H hO=>?_;cbv;refine B2 hE hO 0 rfl ?_;cbv;cases h;exact hK hO (.refl _)
 cbv;replace hO:=hO.tl0 (t:=.nil) rfl;replace hO:=hO.tl0 (t:=.nil) rfl;obtain⟨s6,hx,h⟩:=bind_some h;refine M8 cf154 hE M3 (γ:=D1×D1) (fun s3 g=>[fi 2 aT,(4,.v (.eref (Af aB) 0)),(5,.v (.eref (Ac1 aR) 0)),(7,.v (.eref (JO aU) 0)),(8,.v (.ref b1 0)),(10,.v (.sl (Ar.lst eAn9 s3.1) g.2)),(11,.v (.sl (Ar.lst (V.int .i64) s3.2.1) g.1)),fi 12 s3.2.2]) (fun s3 g H1=>K8 g.1∧K8 g.2∧C1 Eq H0 [.tl g.1,.tl g.2,cb b1 [vi 0,vi 0,.str (⟨#[]⟩)]] H1) (fun x e l H1=>match(generalizing:=false) x with| .inl y=>∃u1:D1,K8 u1∧∃u2:D1,K8 u2∧e= .exit 0∧l=[(4,.v (.eref (Af aB) 0)),(8,.v (.ref b1 0)),(10,.v (.sl (Ar.lst eAn9 y.1) u2)),(11,.v (.sl (Ar.lst (V.int .i64) y.2) u1))]∧C1 Eq H0 [.tl u1,.tl u2,cb b1 [vi 0,vi 0,.str (⟨#[]⟩)]] H1| .inr y=>∃u1:D1,K8 u1∧∃u2:D1,K8 u2∧e= .ret∧l=[(8,.v (.ref b1 0)),fi 9 y]∧C1 Eq H0 [.tl u1,.tl u2,cb b1 [vi 0,vi 0,.str (⟨#[]⟩)]] H1) (by kernel_rfl) ?_ (⟨.nil,.nil⟩) hx ?_ ?_ ?_
 ·rintro s3 ⟨t4,t5⟩ H o ⟨ht4,ht5,hO⟩ h;clear hx;cbv;refine D5 hE ?_;cbv;refine A8 hE h (fun _ h=>?_) fun _ h=>?_
  ·cbv;refine B8 hE eAo4 h fun x7 h=>?_;cbv;refine C9 hE (g:=fun r8=>.tup [(C6 r8.1),vi r8.2]) h (ih x7 aR aT aU) (.refl _) fun r8 h=>?_;cbv;refine A8 hE h (fun _ h=>?_) fun _ h=>?_
   ·cbv;refine B0 hE hO 2 rfl rfl fun H hO=>?_;cbv;cases h;exact⟨_,_,rfl,⟨t4,ht4,t5,ht5,rfl,rfl,hO⟩,.e2 .z,rfl⟩
   cbv;refine Lt hE hO 1 rfl ht5 fun H hO=>?_;cbv;refine IG hE trivial ?_;cbv;refine OT (f:=eAn9) hE HC (by decide) (l:=s3.1) (m:=[r8.1]) (.refl _) (.lstc (.eq (eAn5 r8.1) (.refl _)) (.lst0)) h fun l9 h=>?_;cbv;refine Lv hE hO 1 rfl fun t10 H hO ht10=>?_;cbv;refine AO (f:=(V.int .i64)) hE (fun _=>rfl) (by decide) hO 0 rfl ht4 (l:=s3.2.1) (m:=[r8.1.Kind]) (.refl _) (.lstc (.refl _) (.lst0)) h fun l12 t11 H hO ht11 h=>?_;cbv;cases h;exact⟨_,⟨t11,t10⟩,rfl,.e4 (.e4 .z),rfl,ht11,ht10,hO⟩
  cbv;cases h;exact⟨_,_,rfl,⟨t4,ht4,t5,ht5,rfl,rfl,hO⟩,.e4 .z,rfl⟩
 ·exact .e rfl (.e4 (.v (.slt _ (.lst0)) (.v (.slt _ (.lst0)) (.e rfl (.z)))))
 ·exact⟨trivial,trivial,hO⟩
 clear hx
 rcases s6 with y13|y18
 ·rintro e l H ⟨t14,ht14,t15,ht15,rfl,rfl,hO⟩;cbv;refine A5 hE h (c188 N aB.Op y13.2) (.cons (.refl _) (.cons (.ro _ _) (.refl _))) fun r16 h=>?_;cbv;refine A8 hE h (fun _ h=>?_) fun _ h=>?_
  ·cbv;refine B0 hE hO 2 rfl rfl fun H hO=>?_;cbv;refine B2 hE hO 2 rfl ?_;cbv;cases h;exact hK hO (.refl _)
  cbv;refine A5 hE h (c189 N aB.Op y13.1) (.cons (.refl _) (.cons (.ro _ _) (.refl _))) fun r17 h=>?_;cbv;refine B0 hE hO 2 rfl rfl fun H hO=>?_;cbv;refine B2 hE hO 2 rfl ?_;cbv;cases h;exact hK hO (.refl _)
 rintro e l H ⟨t19,ht19,t20,ht20,rfl,rfl,hO⟩;cbv;refine B2 hE hO 2 rfl ?_;cbv;cases h;exact hK hO (.refl _)
def cf119:Cf:=⟨[8],[],[],[],[],[]⟩
theorem c119(N aB aR aT aU r)(h:DX N aB aR aT aU=some r):B4 prog 119 [(I0 aB),(DR aR),vi aT,(V7 aU)] (.tup [(C6 r.1),vi r.2]):=by
 unfold DX at h
 refine I4 cf119 func119 call119 ntmps119 ?_;intro E H0 K hE hK hO;cbv;refine C5 hE hO fun b1 H hO=>?_;cbv;refine A5 hE h (c136 N aB) (.refl _) fun r2 h=>?_;cbv;refine A8 hE h (fun _ h=>?_) fun _ h=>?_
 ·cbv;refine B0 hE hO 0 rfl rfl fun H hO=>?_;cbv;refine B2 hE hO 0 rfl ?_;cbv;cases h;exact hK hO (.refl _)
 cbv;refine A5 hE h (c154 N N aB aR aT aU) (.refl _) fun r3 h=>?_;cbv;refine B0 hE hO 0 rfl rfl fun H hO=>?_;cbv;refine B2 hE hO 0 rfl ?_;cbv;cases h;exact hK hO (.refl _)
def cf53:Cf:=⟨[],[(2,5)],[],[],[],[]⟩
theorem c53(N aB aR aT aU r)(h:AK N aB aR aT aU=some r):B4 prog 53 [(I0 aB),(DR aR),vi aT,(V7 aU)] (.bool r):=by
 unfold AK at h
 refine I4 cf53 func53 call53 ntmps53 ?_;intro E H0 K hE hK hO;cbv;refine A5 hE h (c119 N aB aR aT aU) (.refl _) fun r1 h=>?_;cbv;refine A8 hE h (fun _ h=>?_) fun _ h=>?_
 ·cbv;refine C9 hE (g:=fun r2=>(C6 r2)) h (c120 N true) (.refl _) fun r2 h=>?_;cbv;cases h;exact hK hO (.refl _)
 cbv;cases h;exact hK hO (.refl _)
def cf207:Cf:=⟨[6,7,3000049,8000049,9000049],[(6,26)],[],[],[(51,1000007)],[]⟩
theorem c207 (N aF aI aZ r) (h:Cr N aF aI aZ=some r):B4 prog 207 [sr eAn0 aF,sr eAn1 aI,vi aZ] ((DR r)):=by
 unfold Cr at h
 refine I4 cf207 func207 call207 ntmps207 ?_;intro E H0 K hE hK hO;cbv;refine C5 hE hO fun b1 H hO=>?_;cbv;refine Ab1 hE (f:=eAn0) (by decide) hO 1 h fun l3 w2 H hw2 h hO=>?_;have hO:C1 Eq H0 (.blk w2.q.id (.arr 1 (w2.q.pre++Ar.lst (Aj eAn0) w2.row++w2.q.rest))::cb b1 [.sl [] .nil]::(Fj w2++[])) H:=hO;cbv;refine C5 hE hO fun b4 H hO=>?_;cbv;refine B0 hE hO 0 rfl rfl fun H hO=>?_;cbv;obtain⟨s7,hx,h⟩:=bind_some h;refine M8 cf207 hE M3 (γ:=Rw A7) (fun s5 g=>[(0,.v (sr eAn0 aF)),(1,.v (sr eAn1 aI)),fi 2 aZ,(6,.v (.ref b1 0)),(7,.v (.ref b4 0)),fi 8 s5.1]) (fun s5 g H1=>Bm g s5.2∧C1 Eq H0 (cb b4 [.own g.q.id g.q.lo g.q.n]:: .blk g.q.id (.arr 1 (g.q.pre++Ar.lst (Aj eAn0) g.row++g.q.rest))::cb b1 [.sl [] .nil]::(Fj g++[])) H1) (fun x e l H1=>∃u1:Rw A7,Bm u1 x∧e= .exit 0∧l=[(6,.v (.ref b1 0)),(7,.v (.ref b4 0))]∧C1 Eq H0 (cb b4 [.own u1.q.id u1.q.lo u1.q.n]:: .blk u1.q.id (.arr 1 (u1.q.pre++Ar.lst (Aj eAn0) u1.row++u1.q.rest))::cb b1 [.sl [] .nil]::(Fj u1++[])) H1) (by kernel_rfl) ?_ w2 hx ?_ ?_ ?_
 ·rintro s5 w6 H o ⟨hw6,hO⟩ h;clear hx;cbv;refine D5 hE ?_;cbv;refine A8 hE h (fun _ h=>?_) fun _ h=>?_
  ·cbv;refine B8 hE eAo0 h fun x8 h=>?_;cbv;refine A8 hE h (fun _ h=>?_) fun _ h=>?_
   ·cbv;obtain⟨x9,ex9,h⟩:=bind_some h;obtain⟨x10,hxx10,h⟩:=bind_some h
    obtain⟨hjx10,t11,hrx10,hax10⟩:=hw6.at hxx10
    obtain⟨Rx10,hO,hbx10⟩:=hO.rtake (w:=w6) (T1:=[]) (T2:=[]) 3 rfl hrx10;refine Lt hE hO 0 rfl hax10 fun H hO=>?_;cbv;refine B2 hE hO 1 rfl ?_;cbv;refine Yb hE eAo0 ex9 ?_;cbv;refine B2 hE hO 1 rfl ?_;cbv;refine Yb hE eAo0 ex9 ?_;cbv;refine Pj hE (f:=Aj eAn0) hO hw6.ok 2 rfl hjx10 ?_;cbv;refine Us hE (f:=Aj eAn0) (fun _=>rfl) hO hw6.ok 2 rfl hjx10.1 hrx10 ?_;cbv;refine Yb hE eAo0 ex9 ?_;cbv;refine B8 hE eAn6 h fun x15 h=>?_;cbv;refine IG hE trivial ?_;cbv;refine OT (f:=eAn0) hE Kd (by decide) (l:=x10) (m:=[x15]) (.refl _) (.lstc (.eq (eAn6 x15) (.refl _)) (.lst0)) h fun l16 h=>?_;cbv;refine Lv hE hO 0 rfl fun t12 H hO htt12=>?_;cbv;refine Pj hE (f:=Aj eAn0) hO hw6.ok 2 rfl hjx10 ?_;cbv;refine Ro hE (f:=Aj eAn0) (tz:=1) (x':=(l16,t12)) (fun _=>⟨.sl (Ar.lst eAn0 l16) t12,.refl _,rfl,rfl,rfl⟩) (by decide) hO hw6.ok 2 rfl hjx10 fun H hO=>?_;cbv;obtain⟨l14,hu,h⟩:=bind_some h;obtain⟨w13,hqw13,hw13,hO⟩:∃w0:Rw A7,w0.q=w6.q∧Bm w0 l14∧C1 Eq H0 (cb b4 [.own w0.q.id w0.q.lo w0.q.n]:: .blk w0.q.id (.arr 1 (w0.q.pre++Ar.lst (Aj eAn0) w0.row++w0.q.rest))::cb b1 [.sl [] .nil]::(Fj w0++[])) H:=⟨(⟨w6.q,w6.row.set (x9.Var).toNat (l16,t12)⟩:Rw A7),rfl,by rw[PO hu];exact hw6.put _ htt12,(by have e:=hbx10 (l16,t12) H [cb b4 [.own w6.q.id w6.q.lo w6.q.n],.blk w6.q.id (.arr 1 (w6.q.pre++Ar.lst (Aj eAn0) (w6.row.set (x9.Var).toNat (l16,t12))++w6.q.rest)),cb b1 [.sl [] .nil]] hO;simp only[List.cons_append,List.nil_append,List.append_nil]at e ⊢;exact e)⟩
    try rw[←hqw13]
    cases h;exact⟨_,w13,rfl,.e2 (.e4 .z),rfl,hw13,hO⟩
   cbv;cases h;exact⟨_,w6,rfl,.e2 (.e4 .z),rfl,hw6,hO⟩
  cbv;cases h;exact⟨_,_,rfl,⟨w6,hw6,rfl,rfl,hO⟩,.e2 .z,rfl⟩
 ·exact .e2 (.e4 .z)
 ·exact⟨hw2,hO⟩
 clear hx;rintro e l H ⟨w17,hw17,rfl,rfl,hO⟩;cbv;refine QQ hE (e:=eAp0) eAp3 hO hw17 0 1 rfl rfl rfl (by decide) fun H hO=>?_;have hO:C1 Eq H0 [cb b4 [sr eAp0 s7],cb b1 [.sl [] .nil]] H:=hO.rdrop (w:=w17) (T1:=[]) (T2:=[]) 2 rfl;cbv;refine B2 hE hO 0 rfl ?_;cbv;refine B0 hE hO 1 rfl rfl fun H hO=>?_;cbv;refine B2 hE hO 1 rfl ?_;cbv;cases h;exact hK hO (.refl _)
def cf163:Cf:=⟨[],[(5,21)],[],[],[],[]⟩
theorem c163 (N aA aF aD aG r) (h:CP N aA aF aD aG=some r):B4 prog 163 [(C3 aA),sr eAn0 aF,sr eAn1 aD,vi aG] (sr eAn2 r):=by
 unfold CP at h
 refine I4 cf163 func163 call163 ntmps163 ?_;intro E H0 K hE hK hO;cbv;replace hO:=hO.tl0 (t:=.nil) rfl;obtain⟨s3,hx,h⟩:=bind_some h;refine M8 cf163 hE M3 (γ:=D1) (fun s1 g=>[(1,.v (sr eAn0 aF)),(2,.v (sr eAn1 aD)),(4,.v (.eref (D3 aA) 0)),(9,.v (.sl (Ar.lst eAn2 s1.1) g)),fi 10 s1.2]) (fun s1 g H1=>K8 g∧C1 Eq H0 [.tl g] H1) (fun x e l H1=>∃u1:D1,K8 u1∧e= .exit 0∧l=[(9,.v (.sl (Ar.lst eAn2 x) u1))]∧C1 Eq H0 [.tl u1] H1) (by kernel_rfl) ?_ .nil hx ?_ ?_ ?_
 ·rintro s1 t2 H o ⟨ht2,hO⟩ h;clear hx;cbv;refine D5 hE ?_;cbv;refine A8 hE h (fun _ h=>?_) fun _ h=>?_
  ·cbv;refine B8 hE eAn6 h fun x4 h=>?_;cbv;refine A8 hE h (fun _ h=>?_) fun _ h=>?_
   ·cbv;refine C9 hE (g:=fun r5=>(DR r5)) h (c207 N aF aD s1.2) (.refl _) fun r5 h=>?_;cbv;refine B8 hE eAn6 h fun x6 h=>?_;cbv;refine A5 hE h (c53 N aA.cN r5 aA.Var x6) (.refl _) fun r7 h=>?_;cbv;refine A8 hE h (fun _ h=>?_) fun _ h=>?_
    ·cbv;refine AO (f:=eAn2) hE Y1 (by decide) hO 0 rfl ht2 (l:=s1.1) (m:=[[(⟨aA.Var,s1.2⟩:A2)]]) (.refl _) (.lstc (.eq (eAo2 ([(⟨aA.Var,s1.2⟩:A2)])) (.lit _ (F9 ((eAo0 (⟨aA.Var,s1.2⟩:A2)).symm) (E6)))) (.lst0)) h fun l9 t8 H hO ht8 h=>?_;cbv;cases h;exact⟨_,t8,rfl,.e rfl (.e4 .z),rfl,ht8,hO⟩
    cbv;cases h;exact⟨_,t2,rfl,.e rfl (.e4 .z),rfl,ht2,hO⟩
   cbv;cases h;exact⟨_,t2,rfl,.e rfl (.e4 .z),rfl,ht2,hO⟩
  cbv;cases h;exact⟨_,_,rfl,⟨t2,ht2,rfl,rfl,hO⟩,.e rfl .z,rfl⟩
 ·exact .e rfl (.e2 (.v (.slt _ (.lst0)) (.e rfl (.z))))
 ·exact⟨trivial,hO⟩
 clear hx;rintro e l H ⟨t10,ht10,rfl,rfl,hO⟩;cbv;cases h;exact hK hO (.ro _ _)
def cf208:Cf:=⟨[],[(3,16),(3000004,0),(3000004,1),(3000004,3),(3000004,6),(3000004,8),(3000004,9),(3000005,0),(3000005,1),(3000005,3),(3000005,6),(3000005,8),(3000005,9)],[],[2000004,2000005],[],[]⟩
set_option maxHeartbeats 2000000 in
theorem c208 (N aC aD r) (h:G4 N aC aD=some r):B4 prog 208 [sr eAn1 aC,sr eAn1 aD] (sr eAn1 r):=by
 unfold G4 at h
 refine I4 cf208 func208 call208 ntmps208 ?_;intro E H0 K hE hK hO;cbv;replace hO:=hO.tl0 (t:=.nil) rfl;obtain⟨s3,hx,h⟩:=bind_some h;refine M8 cf208 hE M3 (γ:=D1) (fun s1 g=>[(0,.v (sr eAn1 s1.1)),(1,.v (sr eAn1 s1.2.1)),(5,.v (.sl (Ar.lst eAn1 s1.2.2) g))]) (fun s1 g H1=>K8 g∧C1 Eq H0 [.tl g] H1) (fun x e l H1=>∃u1:D1,K8 u1∧e= .exit 0∧l=[(5,.v (.sl (Ar.lst eAn1 x) u1))]∧C1 Eq H0 [.tl u1] H1) (by kernel_rfl) ?_ .nil hx ?_ ?_ ?_
 ·rintro s1 t2 H o ⟨ht2,hO⟩ h;clear hx;cbv;refine D5 hE ?_;cbv;refine D5 hE ?_;cbv;refine A8 hE h (fun _ h=>?_) fun _ h=>?_
  ·cbv;refine D5 hE ?_;cbv;refine D5 hE ?_;cbv;refine A8 hE h (fun _ h=>?_) fun _ h=>?_
   ·cbv;obtain⟨s4,hx,h⟩:=bind_some h;refine S3 cf208 hE M3 (fun e l H1=>∃u1:D1,K8 u1∧e= .normal∧l=[(0,.v (sr eAn1 s4.1)),(1,.v (sr eAn1 s1.2.1)),(5,.v (.sl (Ar.lst eAn1 s4.2) u1))]∧C1 Eq H0 [.tl u1] H1) (by kernel_rfl) ?_ ?_
    ·clear h;have h:=hx;clear hx;cbv;obtain⟨x85,ex85,h⟩:=bind_some h;obtain⟨l206,el206,h⟩:=bind_some h;obtain⟨l285,el285,h⟩:=bind_some h
     repeat' first|refine And.intro ?_ ?_|(refine B8 hE eAo0 (Et ex85) fun x85 hh=>?_;obtain rfl:=G3 hh;cbv)|(refine AO (f:=eAn1) hE H5 (by decide) hO 0 rfl ht2 (l:=s1.2.2) (m:=[x85]) (.refl _) (.lstc (.eq (eAo0 x85) (.refl _)) (.lst0)) (Et el206) fun l206 t205 H hO ht205 hh=>?_;obtain rfl:=G3 hh;cbv)|(refine FW hE (f:=eAn1) H5 (Et el285) fun l285 t286 hh=>?_;obtain rfl:=G3 hh;cbv)|(have h:=G3 h;subst h;exact⟨_,⟨t205,ht205,rfl,rfl,hO⟩,.v (.ro _ _) (.e2 .z),rfl⟩)
    clear hx;rintro e l H ⟨t445,ht445,rfl,rfl,hO⟩;cbv;cases h;exact⟨_,t445,rfl,.e rfl (.e2 .z),rfl,ht445,hO⟩
   cbv;refine A8 hE h (fun _ h=>?_) fun _ h=>?_
   ·cbv;refine B8 hE eAo0 h fun x446 h=>?_;cbv;refine B8 hE eAo0 h fun x447 h=>?_;cbv;refine A8 hE h (fun _ h=>?_) fun _ h=>?_
    ·cbv;obtain⟨s448,hx,h⟩:=bind_some h;refine S3 cf208 hE M3 (fun e l H1=>∃u1:D1,K8 u1∧e= .normal∧l=[(0,.v (sr eAn1 s448.1)),(1,.v (sr eAn1 s1.2.1)),(5,.v (.sl (Ar.lst eAn1 s448.2) u1))]∧C1 Eq H0 [.tl u1] H1) (by kernel_rfl) ?_ ?_
     ·clear h;have h:=hx;clear hx;cbv;obtain⟨x529,ex529,h⟩:=bind_some h;obtain⟨l650,el650,h⟩:=bind_some h;obtain⟨l729,el729,h⟩:=bind_some h
      repeat' first|refine And.intro ?_ ?_|(refine B8 hE eAo0 (Et ex529) fun x529 hh=>?_;obtain rfl:=G3 hh;cbv)|(refine AO (f:=eAn1) hE H5 (by decide) hO 0 rfl ht2 (l:=s1.2.2) (m:=[x529]) (.refl _) (.lstc (.eq (eAo0 x529) (.refl _)) (.lst0)) (Et el650) fun l650 t649 H hO ht649 hh=>?_;obtain rfl:=G3 hh;cbv)|(refine FW hE (f:=eAn1) H5 (Et el729) fun l729 t730 hh=>?_;obtain rfl:=G3 hh;cbv)|(have h:=G3 h;subst h;exact⟨_,⟨t649,ht649,rfl,rfl,hO⟩,.v (.ro _ _) (.e2 .z),rfl⟩)
     clear hx;rintro e l H ⟨t889,ht889,rfl,rfl,hO⟩;cbv;cases h;exact⟨_,t889,rfl,.e rfl (.e2 .z),rfl,ht889,hO⟩
    cbv;obtain⟨s890,hx,h⟩:=bind_some h;refine S3 cf208 hE M3 (fun e l H1=>∃u1:D1,K8 u1∧e= .normal∧l=[(0,.v (sr eAn1 s1.1)),(1,.v (sr eAn1 s890.1)),(5,.v (.sl (Ar.lst eAn1 s890.2) u1))]∧C1 Eq H0 [.tl u1] H1) (by kernel_rfl) ?_ ?_
    ·clear h;have h:=hx;clear hx;cbv;obtain⟨x971,ex971,h⟩:=bind_some h;obtain⟨l1092,el1092,h⟩:=bind_some h;obtain⟨l1171,el1171,h⟩:=bind_some h
     repeat' first|refine And.intro ?_ ?_|(refine B8 hE eAo0 (Et ex971) fun x971 hh=>?_;obtain rfl:=G3 hh;cbv)|(refine AO (f:=eAn1) hE H5 (by decide) hO 0 rfl ht2 (l:=s1.2.2) (m:=[x971]) (.refl _) (.lstc (.eq (eAo0 x971) (.refl _)) (.lst0)) (Et el1092) fun l1092 t1091 H hO ht1091 hh=>?_;obtain rfl:=G3 hh;cbv)|(refine FW hE (f:=eAn1) H5 (Et el1171) fun l1171 t1172 hh=>?_;obtain rfl:=G3 hh;cbv)|(have h:=G3 h;subst h;exact⟨_,⟨t1091,ht1091,rfl,rfl,hO⟩,.e rfl (.v (.ro _ _) (.e rfl (.z))),rfl⟩)
    clear hx;rintro e l H ⟨t1331,ht1331,rfl,rfl,hO⟩;cbv;cases h;exact⟨_,t1331,rfl,.e rfl (.e2 .z),rfl,ht1331,hO⟩
   cbv;obtain⟨s1332,hx,h⟩:=bind_some h;refine S3 cf208 hE M3 (fun e l H1=>∃u1:D1,K8 u1∧e= .normal∧l=[(0,.v (sr eAn1 s1.1)),(1,.v (sr eAn1 s1332.1)),(5,.v (.sl (Ar.lst eAn1 s1332.2) u1))]∧C1 Eq H0 [.tl u1] H1) (by kernel_rfl) ?_ ?_
   ·clear h;have h:=hx;clear hx;cbv;obtain⟨x1413,ex1413,h⟩:=bind_some h;obtain⟨l1534,el1534,h⟩:=bind_some h;obtain⟨l1613,el1613,h⟩:=bind_some h
    repeat' first|refine And.intro ?_ ?_|(refine B8 hE eAo0 (Et ex1413) fun x1413 hh=>?_;obtain rfl:=G3 hh;cbv)|(refine AO (f:=eAn1) hE H5 (by decide) hO 0 rfl ht2 (l:=s1.2.2) (m:=[x1413]) (.refl _) (.lstc (.eq (eAo0 x1413) (.refl _)) (.lst0)) (Et el1534) fun l1534 t1533 H hO ht1533 hh=>?_;obtain rfl:=G3 hh;cbv)|(refine FW hE (f:=eAn1) H5 (Et el1613) fun l1613 t1614 hh=>?_;obtain rfl:=G3 hh;cbv)|(have h:=G3 h;subst h;exact⟨_,⟨t1533,ht1533,rfl,rfl,hO⟩,.e rfl (.v (.ro _ _) (.e rfl (.z))),rfl⟩)
   clear hx;rintro e l H ⟨t1773,ht1773,rfl,rfl,hO⟩;cbv;cases h;exact⟨_,t1773,rfl,.e rfl (.e2 .z),rfl,ht1773,hO⟩
  cbv;cases h;exact⟨_,_,rfl,⟨t2,ht2,rfl,rfl,hO⟩,.e rfl .z,rfl⟩
 ·exact .e2 (.v (.slt _ (.lst0)) (.z))
 ·exact⟨trivial,hO⟩
 clear hx;rintro e l H ⟨t1774,ht1774,rfl,rfl,hO⟩;cbv;cases h;exact hK hO (.ro _ _)
def cf248:Cf:=⟨[],[(6,8)],[],[],[],[]⟩
theorem c248 (N aC aD r) (h:CQ N aC aD=some r):B4 prog 248 [sr eAn1 aC,sr eAn1 aD] (.bool r):=by
 unfold CQ at h
 refine I4 cf248 func248 call248 ntmps248 ?_;intro E H0 K hE hK hO;cbv;refine D5 hE ?_;cbv;refine D5 hE ?_;cbv;refine A8 hE h (fun _ h=>?_) fun _ h=>?_
 ·cbv;cases h;exact hK hO (.refl _)
 cbv;obtain⟨s2,hx,h⟩:=bind_some h;refine F2 cf248 hE M3 (fun s1=>[(0,.v (sr eAn1 aC)),(1,.v (sr eAn1 aD)),fi 5 s1]) (fun s1 H1=>C1 Eq H0 [] H1) (fun x e l H1=>match(generalizing:=false) x with| .inl y=>e= .exit 0∧l=[]∧C1 Eq H0 [] H1| .inr y=>e= .ret∧l=[(4,.b false)]∧C1 Eq H0 [] H1) (by kernel_rfl) ?_ hx ?_ hO ?_
 ·intro s1 H o hO h;clear hx;cbv;refine D5 hE ?_;cbv;refine A8 hE h (fun _ h=>?_) fun _ h=>?_
  ·cbv;refine B8 hE eAo0 h fun x3 h=>?_;cbv;refine B8 hE eAo0 h fun x4 h=>?_;cbv;refine A8 hE h (fun _ h=>?_) fun _ h=>?_
   ·cbv;cases h;exact⟨_,_,rfl,⟨rfl,rfl,hO⟩,.b rfl (.z),rfl⟩
   cbv;cases h;exact⟨_,rfl,.e rfl (.e2 .z),rfl,hO⟩
  cbv;cases h;exact⟨_,_,rfl,⟨rfl,rfl,hO⟩,.z,rfl⟩
 ·exact .e rfl (.e2 .z)
 clear hx
 rcases s2 with y5|y6
 ·rintro e l H ⟨rfl,rfl,hO⟩;cbv;cases h;exact hK hO (.refl _)
 rintro e l H ⟨rfl,rfl,hO⟩;cbv;cases h;exact hK hO (.refl _)
theorem c209 (N aF aI r) (h:S2 N aF aI=some r):Ac3 prog 209 [sr eAn1 aI] (Ar.lst eAn2 aF) (Ar.lst eAn2 r):=by
 unfold S2 at h
 intro H0 tl0 htl0 hap;refine Wb (T:=TT) cf0 M3 func209 (by rfl) (by kernel_rfl) call209 ntmps209 (by rfl) (by rfl) ?_;intro E K hE hK;have hO:C1 Eq (E1 H0 tl0) [.tl tl0] H0:=C1.startT hap;cbv;obtain⟨s2,hx,h⟩:=bind_some h;refine F2 cf0 hE M3 (fun s1=>[(0,.v (.sl (Ar.lst eAn2 aF) tl0)),(1,.v (sr eAn1 aI)),fi 5 s1]) (fun s1 H1=>C1 Eq (E1 H0 tl0) [.tl tl0] H1) (fun x e l H1=>match(generalizing:=false) x with| .inl y=>e= .exit 0∧l=[(0,.v (.sl (Ar.lst eAn2 aF) tl0)),(1,.v (sr eAn1 aI))]∧C1 Eq (E1 H0 tl0) [.tl tl0] H1| .inr y=>e= .ret∧l=[(4,.v (.sl (Ar.lst eAn2 aF) tl0))]∧C1 Eq (E1 H0 tl0) [.tl tl0] H1) (by kernel_rfl) ?_ hx ?_ hO ?_
 ·intro s1 H o hO h;clear hx;cbv;refine D5 hE ?_;cbv;refine A8 hE h (fun _ h=>?_) fun _ h=>?_
  ·cbv;refine B8 hE eAo2 h fun x3 h=>?_;cbv;refine A5 hE h (c248 N x3 aI) (.refl _) fun r4 h=>?_;cbv;refine A8 hE h (fun _ h=>?_) fun _ h=>?_
   ·cbv;cases h;exact⟨_,_,rfl,⟨rfl,rfl,hO⟩,.e rfl .z,rfl⟩
   cbv;cases h;exact⟨_,rfl,.e rfl (.e2 .z),rfl,hO⟩
  cbv;cases h;exact⟨_,_,rfl,⟨rfl,rfl,hO⟩,.e2 .z,rfl⟩
 ·exact .e rfl (.e2 .z)
 clear hx
 rcases s2 with y5|y8
 ·rintro e l H ⟨rfl,rfl,hO⟩;cbv;refine AO (f:=eAn2) hE Y1 (by decide) hO 0 rfl htl0 (l:=aF) (m:=[aI]) (.refl _) (.lstc (.eq (eAo2 aI) (.refl _)) (.lst0)) h fun l7 t6 H hO ht6 h=>?_;cbv;cases h;exact hK _ _ _ 0 _ (.refl _) (by rfl) ht6 hO
 rintro e l H ⟨rfl,rfl,hO⟩;cbv;cases h;exact hK _ _ _ 0 _ (.refl _) (by rfl) htl0 hO
theorem c249 (N aI aZ r) (h:DG N aI aZ=some r):B4 prog 249 [sr eAn1 aI,vi aZ] (.bool r):=by
 unfold DG at h
 refine I4 cf0 func249 call249 ntmps249 ?_;intro E H0 K hE hK hO;cbv;obtain⟨s2,hx,h⟩:=bind_some h;refine F2 cf0 hE M3 (fun s1=>[(0,.v (sr eAn1 aI)),fi 1 aZ,fi 5 s1]) (fun s1 H1=>C1 Eq H0 [] H1) (fun x e l H1=>match(generalizing:=false) x with| .inl y=>e= .exit 0∧l=[]∧C1 Eq H0 [] H1| .inr y=>e= .ret∧l=[(4,.b true)]∧C1 Eq H0 [] H1) (by kernel_rfl) ?_ hx ?_ hO ?_
 ·intro s1 H o hO h;clear hx;cbv;refine D5 hE ?_;cbv;refine A8 hE h (fun _ h=>?_) fun _ h=>?_
  ·cbv;refine B8 hE eAo0 h fun x3 h=>?_;cbv;refine A8 hE h (fun _ h=>?_) fun _ h=>?_
   ·cbv;cases h;exact⟨_,_,rfl,⟨rfl,rfl,hO⟩,.b rfl (.z),rfl⟩
   cbv;cases h;exact⟨_,rfl,.e rfl (.e2 .z),rfl,hO⟩
  cbv;cases h;exact⟨_,_,rfl,⟨rfl,rfl,hO⟩,.z,rfl⟩
 ·exact .e rfl (.e2 .z)
 clear hx
 rcases s2 with y4|y5
 ·rintro e l H ⟨rfl,rfl,hO⟩;cbv;cases h;exact hK hO (.refl _)
 rintro e l H ⟨rfl,rfl,hO⟩;cbv;cases h;exact hK hO (.refl _)
theorem c210 (N aC aD r) (h:BK N aC aD=some r):B4 prog 210 [sr eAn1 aC,sr eAn1 aD] (.bool r):=by
 unfold BK at h
 refine I4 cf0 func210 call210 ntmps210 ?_;intro E H0 K hE hK hO;cbv;obtain⟨s2,hx,h⟩:=bind_some h;refine F2 cf0 hE M3 (fun s1=>[(0,.v (sr eAn1 aC)),(1,.v (sr eAn1 aD)),fi 5 s1]) (fun s1 H1=>C1 Eq H0 [] H1) (fun x e l H1=>match(generalizing:=false) x with| .inl y=>e= .exit 0∧l=[]∧C1 Eq H0 [] H1| .inr y=>e= .ret∧l=[(4,.b false)]∧C1 Eq H0 [] H1) (by kernel_rfl) ?_ hx ?_ hO ?_
 ·intro s1 H o hO h;clear hx;cbv;refine D5 hE ?_;cbv;refine A8 hE h (fun _ h=>?_) fun _ h=>?_
  ·cbv;refine B8 hE eAo0 h fun x3 h=>?_;cbv;refine A5 hE h (c249 N aD x3.At) (.refl _) fun r4 h=>?_;cbv;refine A8 hE h (fun _ h=>?_) fun _ h=>?_
   ·cbv;cases h;exact⟨_,_,rfl,⟨rfl,rfl,hO⟩,.b rfl (.z),rfl⟩
   cbv;cases h;exact⟨_,rfl,.e rfl (.e2 .z),rfl,hO⟩
  cbv;cases h;exact⟨_,_,rfl,⟨rfl,rfl,hO⟩,.z,rfl⟩
 ·exact .e rfl (.e2 .z)
 clear hx
 rcases s2 with y5|y6
 ·rintro e l H ⟨rfl,rfl,hO⟩;cbv;cases h;exact hK hO (.refl _)
 rintro e l H ⟨rfl,rfl,hO⟩;cbv;cases h;exact hK hO (.refl _)
def cf211:Cf:=⟨[],[(4,29)],[],[],[],[]⟩
theorem c211 (N aA aF aD aI r) (h:EG N aA aF aD aI=some r):B4 prog 211 [(C3 aA),sr eAn0 aF,sr eAn1 aD,sr eAn1 aI] (.bool r):=by
 unfold EG at h
 refine I4 cf211 func211 call211 ntmps211 ?_;intro E H0 K hE hK hO;cbv;refine B8 hE eAo0 h fun x1 h=>?_;cbv;obtain⟨s3,hx,h⟩:=bind_some h;refine F2 cf211 hE M3 (fun s2=>[(1,.v (sr eAn0 aF)),(2,.v (sr eAn1 aD)),(3,.v (sr eAn1 aI)),(4,.v (.eref (D3 aA) 0)),fi 9 s2]) (fun s2 H1=>C1 Eq H0 [] H1) (fun x e l H1=>match(generalizing:=false) x with| .inl y=>e= .exit 0∧l=[]∧C1 Eq H0 [] H1| .inr y=>e= .ret∧l=[(8,.b false)]∧C1 Eq H0 [] H1) (by kernel_rfl) ?_ hx ?_ hO ?_
 ·intro s2 H o hO h;clear hx;cbv;refine D5 hE ?_;cbv;refine B8 hE eAo0 h fun x4 h=>?_;cbv;refine A8 hE h (fun _ h=>?_) fun _ h=>?_
  ·cbv;refine C9 hE (g:=fun r5=>.bool r5) h (c249 N aI s2) (.refl _) fun r5 h=>?_;cbv;refine A8 hE h (fun _ h=>?_) fun _ h=>?_
   ·cbv;refine B8 hE eAn6 h fun x6 h=>?_;cbv;refine A8 hE h (fun _ h=>?_) fun _ h=>?_
    ·cbv;refine C9 hE (g:=fun r7=>sr eAn1 r7) h (c208 N aD aI) (.refl _) fun r7 h=>?_;cbv;refine C9 hE (g:=fun r8=>(DR r8)) h (c207 N aF r7 s2) (.refl _) fun r8 h=>?_;cbv;refine B8 hE eAn6 h fun x9 h=>?_;cbv;refine A5 hE h (c53 N aA.cN r8 aA.Var x9) (.refl _) fun r10 h=>?_;cbv;refine A8 hE h (fun _ h=>?_) fun _ h=>?_
     ·cbv;cases h;exact⟨_,_,rfl,⟨rfl,rfl,hO⟩,.b rfl (.z),rfl⟩
     cbv;cases h;exact⟨_,rfl,.e rfl (.e4 .z),rfl,hO⟩
    cbv;cases h;exact⟨_,rfl,.e rfl (.e4 .z),rfl,hO⟩
   cbv;cases h;exact⟨_,rfl,.e rfl (.e4 .z),rfl,hO⟩
  cbv;cases h;exact⟨_,_,rfl,⟨rfl,rfl,hO⟩,.z,rfl⟩
 ·exact .e rfl (.e4 .z)
 clear hx
 rcases s3 with y11|y12
 ·rintro e l H ⟨rfl,rfl,hO⟩;cbv;cases h;exact hK hO (.refl _)
 rintro e l H ⟨rfl,rfl,hO⟩;cbv;cases h;exact hK hO (.refl _)
def cf168:Cf:=⟨[],[(4,22),(5,10)],[],[],[],[]⟩
theorem c168(N aA aF aD aI r)(h:CO N aA aF aD aI=some r):B4 prog 168 [(C3 aA),sr eAn0 aF,sr eAn1 aD,sr eAn1 aI] (.bool r):=by
 unfold CO at h
 refine I4 cf168 func168 call168 ntmps168 ?_;intro E H0 K hE hK hO;cbv;refine A8 hE h (fun _ h=>?_) fun _ h=>?_
 ·cbv;refine A5 hE h (c211 N aA aF aD aI) (.refl _) fun r1 h=>?_;cbv;cases h;exact hK hO (.refl _)
 cbv;refine A8 hE h (fun _ h=>?_) fun _ h=>?_
 ·cbv;refine D5 hE ?_;cbv;refine B8 hE eAo0 h fun x2 h=>?_;cbv;refine B8 hE eAn6 h fun x3 h=>?_;cbv;refine B8 hE eAo0 h fun x4 h=>?_;cbv;refine B8 hE eAn6 h fun x5 h=>?_;cbv;cases h;exact hK hO (.refl _)
 cbv;refine C9 hE (g:=fun r6=>sr eAn1 r6) h (c208 N aD aI) (.refl _) fun r6 h=>?_;cbv;refine D5 hE ?_;cbv;refine C9 hE (g:=fun r7=>(DR r7)) h (c207 N aF r6 (Ar.len aF)) (.refl _) fun r7 h=>?_;cbv;refine A5 hE h (c53 N aA.cN r7 (-1) (⟨0,0,0,0,[]⟩:A7)) (.cons (.refl _) (.cons (.refl _) (.cons (.refl _) (.cons (.agg (.cons (.refl _) (.cons (.refl _) (.cons (.refl _) (.cons (.refl _) (.cons (.lit _ (E6)) (.refl _))))))) (.refl _))))) fun r8 h=>?_;cbv;cases h;exact hK hO (.refl _)
def cf129:Cf:=⟨[],[(17,7)],[],[],[],[]⟩
def Tu(N n:Nat):Prop:=∀(aA:A1) (aF:List A7) (aD:List A2) (aG:Int) (r:(List (List A2))),K0 N n aA aF aD aG=some r→B4 prog 129 [(C3 aA),sr eAn0 aF,sr eAn1 aD,vi aG] (sr eAn2 r)
def cf164:Cf:=⟨[],[(9,14)],[],[],[],[]⟩
def ZW(N n:Nat):Prop:=∀(aV:List A1) (aF:List A7) (aD:List A2) (aG:Int) (r:(List (List A2))),Y3 N n aV aF aD aG=some r→B4 prog 164 [sr eAn4 aV,sr eAn0 aF,sr eAn1 aD,vi aG] (sr eAn2 r)
def Ai7(N n:Nat):Prop:=∀(aV:List A1) (aF:List A7) (aD:List A2) (aG:Int) (r:(List (List A2))),DH N n aV aF aD aG=some r→B4 prog 165 [sr eAn4 aV,sr eAn0 aF,sr eAn1 aD,vi aG] (sr eAn2 r)
def cf166:Cf:=⟨[],[(13,8),(14,10)],[],[],[],[]⟩
def Ai6(N n:Nat):Prop:=∀(aV:List A1) (aF:List A7) (aD:List A2) (aG:Int) (r:(List (List A2))),DI N n aV aF aD aG=some r→B4 prog 166 [sr eAn4 aV,sr eAn0 aF,sr eAn1 aD,vi aG] (sr eAn2 r)
def cf167:Cf:=⟨[],[(8,13)],[],[],[],[]⟩
def ZV(N n:Nat):Prop:=∀(aA:A1) (aF:List A7) (aD:List A2) (aG:Int) (r:(List (List A2))),V2 N n aA aF aD aG=some r→B4 prog 167 [(C3 aA),sr eAn0 aF,sr eAn1 aD,vi aG] (sr eAn2 r)
theorem k129 (N n:Nat) (ih129:Tu N n) (ih164:ZW N n) (ih165:Ai7 N n) (ih166:Ai6 N n) (ih167:ZV N n):Tu N (n+1):=by
 intro aA aF aD aG r h
 unfold K0 at h
 refine I4 cf129 func129 call129 ntmps129 ?_;intro E H0 K hE hK hO;cbv;refine A8 hE h (fun _ h=>?_) fun _ h=>?_
 ·cbv;refine A5 hE h (c163 N aA aF aD aG) (.refl _) fun r1 h=>?_;cbv;cases h;exact hK hO (.refl _)
 cbv;refine A8 hE h (fun _ h=>?_) fun _ h=>?_
 ·cbv;refine A5 hE h (ih164 aA.cL aF aD aG) (.refl _) fun r2 h=>?_;cbv;cases h;exact hK hO (.refl _)
 cbv;refine A8 hE h (fun _ h=>?_) fun _ h=>?_
 ·cbv;refine A5 hE h (ih165 aA.cL aF aD aG) (.refl _) fun r3 h=>?_;cbv;cases h;exact hK hO (.refl _)
 cbv;refine A8 hE h (fun _ h=>?_) fun _ h=>?_
 ·cbv;refine A5 hE h (ih166 aA.cL aF aD aG) (.refl _) fun r4 h=>?_;cbv;cases h;exact hK hO (.refl _)
 cbv;refine A8 hE h (fun _ h=>?_) fun _ h=>?_
 ·cbv;refine A5 hE h (ih167 aA aF aD aG) (.refl _) fun r5 h=>?_;cbv;cases h;exact hK hO (.refl _)
 cbv;refine B8 hE eAn3 h fun x6 h=>?_;cbv;refine A5 hE h (ih129 x6 aF aD aG) (.refl _) fun r7 h=>?_;cbv;replace hO:=hO.tl0 (t:=.nil) rfl;obtain⟨s10,hx,h⟩:=bind_some h;refine M8 cf129 hE M3 (γ:=D1) (fun s8 g=>[(1,.v (sr eAn0 aF)),(2,.v (sr eAn1 aD)),(4,.v (.eref (D3 aA) 0)),(9,.v (sr eAn2 r7)),(10,.v (.sl (Ar.lst eAn2 s8.1) g)),fi 11 s8.2]) (fun s8 g H1=>K8 g∧C1 Eq H0 [.tl g] H1) (fun x e l H1=>∃u1:D1,K8 u1∧e= .exit 1∧l=[(10,.v (.sl (Ar.lst eAn2 x) u1))]∧C1 Eq H0 [.tl u1] H1) (by kernel_rfl) ?_ .nil hx ?_ ?_ ?_
 ·rintro s8 t9 H o ⟨ht9,hO⟩ h;clear hx;cbv;refine D5 hE ?_;cbv;refine A8 hE h (fun _ h=>?_) fun _ h=>?_
  ·cbv;refine B8 hE eAo2 h fun x11 h=>?_;cbv;refine A5 hE h (c168 N aA aF aD x11) (.refl _) fun r12 h=>?_;cbv;refine A8 hE h (fun _ h=>?_) fun _ h=>?_
   ·cbv;refine B8 hE eAo2 h fun x13 h=>?_;cbv;refine AO (f:=eAn2) hE Y1 (by decide) hO 0 rfl ht9 (l:=s8.1) (m:=[x13]) (.refl _) (.lstc (.eq (eAo2 x13) (.refl _)) (.lst0)) h fun l15 t14 H hO ht14 h=>?_;cbv;cases h;exact⟨_,t14,rfl,.e2 (.e4 .z),rfl,ht14,hO⟩
   cbv;cases h;exact⟨_,t9,rfl,.e2 (.e4 .z),rfl,ht9,hO⟩
  cbv;cases h;exact⟨_,_,rfl,⟨t9,ht9,rfl,rfl,hO⟩,.e rfl .z,rfl⟩
 ·exact .e4 (.v (.slt _ (.lst0)) (.e rfl (.z)))
 ·exact⟨trivial,hO⟩
 clear hx;rintro e l H ⟨t16,ht16,rfl,rfl,hO⟩;cbv;cases h;exact hK hO (.ro _ _)
theorem k164 (N n:Nat) (ih129:Tu N n) (ih164:ZW N n):ZW N (n+1):=by
 intro aV aF aD aG r h
 unfold Y3 at h
 refine I4 cf164 func164 call164 ntmps164 ?_;intro E H0 K hE hK hO;cbv;refine B8 hE eAn3 h fun x1 h=>?_;cbv;refine A5 hE h (ih129 x1 aF aD aG) (.refl _) fun r2 h=>?_;cbv;refine D5 hE ?_;cbv;refine A8 hE h (fun _ h=>?_) fun _ h=>?_
 ·cbv;cases h;exact hK hO (.refl _)
 cbv;replace hO:=hO.tl0 (t:=.nil) rfl;obtain⟨s5,hx,h⟩:=bind_some h;refine M8 cf164 hE M3 (γ:=D1) (fun s3 g=>[(0,.v (sr eAn4 aV)),(1,.v (sr eAn0 aF)),(2,.v (sr eAn1 aD)),(9,.v (sr eAn2 r2)),(10,.v (.sl (Ar.lst eAn2 s3.1) g)),fi 11 s3.2]) (fun s3 g H1=>K8 g∧C1 Eq H0 [.tl g] H1) (fun x e l H1=>∃u1:D1,K8 u1∧e= .exit 0∧l=[(10,.v (.sl (Ar.lst eAn2 x) u1))]∧C1 Eq H0 [.tl u1] H1) (by kernel_rfl) ?_ .nil hx ?_ ?_ ?_
 ·rintro s3 t4 H o ⟨ht4,hO⟩ h;clear hx;cbv;refine D5 hE ?_;cbv;refine A8 hE h (fun _ h=>?_) fun _ h=>?_
  ·cbv;refine B8 hE eAo2 h fun x6 h=>?_;cbv;refine FW hE (f:=eAn4) GI h fun l7 t8 h=>?_;cbv;refine C9 hE (g:=fun r9=>sr eAn1 r9) h (c208 N aD x6) (.refl _) fun r9 h=>?_;cbv;refine D5 hE ?_;cbv;refine B8 hE eAo0 h fun x10 h=>?_;cbv;refine A5 hE h (ih164 l7 aF r9 (Ar.ar .add .i64 x10.At 1)) (.cons (.ro _ _) (.refl _)) fun r11 h=>?_;cbv;obtain⟨s14,hx,h⟩:=bind_some h;refine M8 cf164 hE M3 (γ:=D1) (fun s12 g=>[(0,.v (sr eAn4 aV)),(1,.v (sr eAn0 aF)),(2,.v (sr eAn1 aD)),(9,.v (sr eAn2 r2)),(10,.v (.sl (Ar.lst eAn2 s12.1) g)),fi 11 s3.2,(12,.v (sr eAn1 x6)),(13,.v (sr eAn2 r11)),fi 14 s12.2]) (fun s12 g H1=>K8 g∧C1 Eq H0 [.tl g] H1) (fun x e l H1=>∃u1:D1,K8 u1∧e= .exit 2∧l=[(0,.v (sr eAn4 aV)),(1,.v (sr eAn0 aF)),(2,.v (sr eAn1 aD)),(9,.v (sr eAn2 r2)),(10,.v (.sl (Ar.lst eAn2 x) u1)),fi 11 s3.2]∧C1 Eq H0 [.tl u1] H1) (by kernel_rfl) ?_ t4 hx ?_ ?_ ?_
   ·rintro s12 t13 H o ⟨ht13,hO⟩ h;clear hx;cbv;refine D5 hE ?_;cbv;refine A8 hE h (fun _ h=>?_) fun _ h=>?_
    ·cbv;refine B8 hE eAo2 h fun x15 h=>?_;cbv;refine A5 hE h (c208 N x6 x15) (.refl _) fun r16 h=>?_;cbv;refine Jw hE (f:=eAn2) hO 0 rfl ht13 h (c209 N s12.1 r16) (.refl _) (.refl _) fun l17 t19 H hO ht19 h=>?_;cbv;cases h;exact⟨_,t19,rfl,.e rfl (.e4 (.e4 .z)),rfl,ht19,hO⟩
    cbv;cases h;exact⟨_,_,rfl,⟨t13,ht13,rfl,rfl,hO⟩,.e2 (.e4 .z),rfl⟩
   ·exact .e rfl (.e4 (.e4 .z))
   ·exact⟨ht4,hO⟩
   clear hx;rintro e l H ⟨t20,ht20,rfl,rfl,hO⟩;cbv;cases h;exact⟨_,t20,rfl,.e2 (.e4 .z),rfl,ht20,hO⟩
  cbv;cases h;exact⟨_,_,rfl,⟨t4,ht4,rfl,rfl,hO⟩,.e rfl .z,rfl⟩
 ·exact .e4 (.v (.slt _ (.lst0)) (.e rfl (.z)))
 ·exact⟨trivial,hO⟩
 clear hx;rintro e l H ⟨t21,ht21,rfl,rfl,hO⟩;cbv;cases h;exact hK hO (.ro _ _)
theorem k165 (N n:Nat) (ih129:Tu N n):Ai7 N (n+1):=by
 intro aV aF aD aG r h
 unfold DH at h
 refine I4 cf0 func165 call165 ntmps165 ?_;intro E H0 K hE hK hO;cbv;replace hO:=hO.tl0 (t:=.nil) rfl;obtain⟨s3,hx,h⟩:=bind_some h;refine M8 cf0 hE M3 (γ:=D1) (fun s1 g=>[(0,.v (sr eAn4 aV)),(1,.v (sr eAn0 aF)),(2,.v (sr eAn1 aD)),fi 3 aG,(9,.v (.sl (Ar.lst eAn2 s1.1) g)),fi 10 s1.2]) (fun s1 g H1=>K8 g∧C1 Eq H0 [.tl g] H1) (fun x e l H1=>∃u1:D1,K8 u1∧e= .exit 0∧l=[(9,.v (.sl (Ar.lst eAn2 x) u1))]∧C1 Eq H0 [.tl u1] H1) (by kernel_rfl) ?_ .nil hx ?_ ?_ ?_
 ·rintro s1 t2 H o ⟨ht2,hO⟩ h;clear hx;cbv;refine D5 hE ?_;cbv;refine A8 hE h (fun _ h=>?_) fun _ h=>?_
  ·cbv;refine B8 hE eAn3 h fun x4 h=>?_;cbv;refine A5 hE h (ih129 x4 aF aD aG) (.refl _) fun r5 h=>?_;cbv;obtain⟨s8,hx,h⟩:=bind_some h;refine M8 cf0 hE M3 (γ:=D1) (fun s6 g=>[(0,.v (sr eAn4 aV)),(1,.v (sr eAn0 aF)),(2,.v (sr eAn1 aD)),fi 3 aG,(9,.v (.sl (Ar.lst eAn2 s6.1) g)),fi 10 s1.2,(11,.v (sr eAn2 r5)),fi 12 s6.2]) (fun s6 g H1=>K8 g∧C1 Eq H0 [.tl g] H1) (fun x e l H1=>∃u1:D1,K8 u1∧e= .exit 2∧l=[(0,.v (sr eAn4 aV)),(1,.v (sr eAn0 aF)),(2,.v (sr eAn1 aD)),fi 3 aG,(9,.v (.sl (Ar.lst eAn2 x) u1)),fi 10 s1.2]∧C1 Eq H0 [.tl u1] H1) (by kernel_rfl) ?_ t2 hx ?_ ?_ ?_
   ·rintro s6 t7 H o ⟨ht7,hO⟩ h;clear hx;cbv;refine D5 hE ?_;cbv;refine A8 hE h (fun _ h=>?_) fun _ h=>?_
    ·cbv;refine B8 hE eAo2 h fun x9 h=>?_;cbv;refine Jw hE (f:=eAn2) hO 0 rfl ht7 h (c209 N s6.1 x9) (.refl _) (.refl _) fun l10 t12 H hO ht12 h=>?_;cbv;cases h;exact⟨_,t12,rfl,.e4 (.e4 .z),rfl,ht12,hO⟩
    cbv;cases h;exact⟨_,_,rfl,⟨t7,ht7,rfl,rfl,hO⟩,.e2 (.e4 .z),rfl⟩
   ·exact .e4 (.e4 .z)
   ·exact⟨ht2,hO⟩
   clear hx;rintro e l H ⟨t13,ht13,rfl,rfl,hO⟩;cbv;cases h;exact⟨_,t13,rfl,.e2 (.e4 .z),rfl,ht13,hO⟩
  cbv;cases h;exact⟨_,_,rfl,⟨t2,ht2,rfl,rfl,hO⟩,.e rfl .z,rfl⟩
 ·exact .e4 (.v (.slt _ (.lst0)) (.e rfl (.z)))
 ·exact⟨trivial,hO⟩
 clear hx;rintro e l H ⟨t14,ht14,rfl,rfl,hO⟩;cbv;cases h;exact hK hO (.ro _ _)
theorem k166 (N n:Nat) (ih129:Tu N n):Ai6 N (n+1):=by
 intro aV aF aD aG r h
 unfold DI at h
 refine I4 cf166 func166 call166 ntmps166 ?_;intro E H0 K hE hK hO;cbv;refine B8 hE eAn3 h fun x1 h=>?_;cbv;refine A5 hE h (ih129 x1 aF aD aG) (.refl _) fun r2 h=>?_;cbv;obtain⟨s4,hx,h⟩:=bind_some h;refine F2 cf166 hE M3 (fun s3=>[(0,.v (sr eAn4 aV)),(1,.v (sr eAn0 aF)),(2,.v (sr eAn1 aD)),fi 3 aG,(9,.v (sr eAn2 s3.1)),fi 10 s3.2]) (fun s3 H1=>C1 Eq H0 [] H1) (fun x e l H1=>e= .exit 0∧l=[(9,.v (sr eAn2 x))]∧C1 Eq H0 [] H1) (by kernel_rfl) ?_ hx ?_ hO ?_
 ·intro s3 H o hO h;clear hx;cbv;refine D5 hE ?_;cbv;refine A8 hE h (fun _ h=>?_) fun _ h=>?_
  ·cbv;refine B8 hE eAn3 h fun x5 h=>?_;cbv;refine A5 hE h (ih129 x5 aF aD aG) (.refl _) fun r6 h=>?_;cbv;replace hO:=hO.tl0 (t:=.nil) rfl;obtain⟨s9,hx,h⟩:=bind_some h;refine M8 cf166 hE M3 (γ:=D1) (fun s7 g=>[(0,.v (sr eAn4 aV)),(1,.v (sr eAn0 aF)),(2,.v (sr eAn1 aD)),fi 3 aG,(9,.v (sr eAn2 s3.1)),fi 10 s3.2,(11,.v (sr eAn2 r6)),(12,.v (.sl (Ar.lst eAn2 s7.1) g)),fi 13 s7.2]) (fun s7 g H1=>K8 g∧C1 Eq H0 [.tl g] H1) (fun x e l H1=>∃u1:D1,K8 u1∧e= .exit 2∧l=[(0,.v (sr eAn4 aV)),(1,.v (sr eAn0 aF)),(2,.v (sr eAn1 aD)),fi 3 aG,fi 10 s3.2,(12,.v (.sl (Ar.lst eAn2 x) u1))]∧C1 Eq H0 [.tl u1] H1) (by kernel_rfl) ?_ .nil hx ?_ ?_ ?_
   ·rintro s7 t8 H o ⟨ht8,hO⟩ h;clear hx;cbv;refine D5 hE ?_;cbv;refine A8 hE h (fun _ h=>?_) fun _ h=>?_
    ·cbv;obtain⟨s12,hx,h⟩:=bind_some h;refine M8 cf166 hE M3 (γ:=D1) (fun s10 g=>[(0,.v (sr eAn4 aV)),(1,.v (sr eAn0 aF)),(2,.v (sr eAn1 aD)),fi 3 aG,(9,.v (sr eAn2 s3.1)),fi 10 s3.2,(11,.v (sr eAn2 r6)),(12,.v (.sl (Ar.lst eAn2 s10.1) g)),fi 13 s7.2,fi 14 s10.2]) (fun s10 g H1=>K8 g∧C1 Eq H0 [.tl g] H1) (fun x e l H1=>∃u1:D1,K8 u1∧e= .exit 4∧l=[(0,.v (sr eAn4 aV)),(1,.v (sr eAn0 aF)),(2,.v (sr eAn1 aD)),fi 3 aG,(9,.v (sr eAn2 s3.1)),fi 10 s3.2,(11,.v (sr eAn2 r6)),(12,.v (.sl (Ar.lst eAn2 x) u1)),fi 13 s7.2]∧C1 Eq H0 [.tl u1] H1) (by kernel_rfl) ?_ t8 hx ?_ ?_ ?_
     ·rintro s10 t11 H o ⟨ht11,hO⟩ h;clear hx;cbv;refine D5 hE ?_;cbv;refine A8 hE h (fun _ h=>?_) fun _ h=>?_
      ·cbv;refine B8 hE eAo2 h fun x13 h=>?_;cbv;refine B8 hE eAo2 h fun x14 h=>?_;cbv;refine A5 hE h (c210 N x13 x14) (.refl _) fun r15 h=>?_;cbv;refine A8 hE h (fun _ h=>?_) fun _ h=>?_
       ·cbv;refine B8 hE eAo2 h fun x16 h=>?_;cbv;refine B8 hE eAo2 h fun x17 h=>?_;cbv;refine C9 hE (g:=fun r18=>sr eAn1 r18) h (c208 N x16 x17) (.refl _) fun r18 h=>?_;cbv;refine Jw hE (f:=eAn2) hO 0 rfl ht11 h (c209 N s10.1 r18) (.refl _) (.refl _) fun l19 t21 H hO ht21 h=>?_;cbv;cases h;exact⟨_,t21,rfl,.e2 (.e4 (.e4 .z)),rfl,ht21,hO⟩
       cbv;cases h;exact⟨_,t11,rfl,.e2 (.e4 (.e4 .z)),rfl,ht11,hO⟩
      cbv;cases h;exact⟨_,_,rfl,⟨t11,ht11,rfl,rfl,hO⟩,.e rfl (.e4 (.e4 .z)),rfl⟩
     ·exact .e2 (.e4 (.e4 .z))
     ·exact⟨ht8,hO⟩
     clear hx;rintro e l H ⟨t22,ht22,rfl,rfl,hO⟩;cbv;cases h;exact⟨_,t22,rfl,.e rfl (.e4 (.e4 .z)),rfl,ht22,hO⟩
    cbv;cases h;exact⟨_,_,rfl,⟨t8,ht8,rfl,rfl,hO⟩,.e2 (.e4 .z),rfl⟩
   ·exact .e rfl (.e2 (.e4 (.v (.slt _ (.lst0)) (.e rfl (.z)))))
   ·exact⟨trivial,hO⟩
   clear hx;rintro e l H ⟨t23,ht23,rfl,rfl,hO⟩;cbv;cases h;exact⟨_,rfl,.e4 (.v (.ro _ _) (.e rfl (.z))),rfl,hO.tail⟩
  cbv;cases h;exact⟨_,_,rfl,⟨rfl,rfl,hO⟩,.e rfl .z,rfl⟩
 ·exact .e2 (.e4 .z)
 clear hx;rintro e l H ⟨rfl,rfl,hO⟩;cbv;cases h;exact hK hO (.refl _)
theorem k167 (N n:Nat) (ih129:Tu N n) (ih167:ZV N n):ZV N (n+1):=by
 intro aA aF aD aG r h
 unfold V2 at h
 refine I4 cf167 func167 call167 ntmps167 ?_;intro E H0 K hE hK hO;cbv;refine B8 hE eAn3 h fun x1 h=>?_;cbv;refine A5 hE h (ih129 x1 aF aD aG) (.refl _) fun r2 h=>?_;cbv;replace hO:=hO.tl0 (t:=.nil) rfl;obtain⟨s5,hx,h⟩:=bind_some h;refine M8 cf167 hE M3 (γ:=D1) (fun s3 g=>[(1,.v (sr eAn0 aF)),(2,.v (sr eAn1 aD)),(4,.v (.eref (D3 aA) 0)),(9,.v (sr eAn2 r2)),(10,.v (.sl (Ar.lst eAn2 s3.1) g)),fi 11 s3.2]) (fun s3 g H1=>K8 g∧C1 Eq H0 [.tl g] H1) (fun x e l H1=>∃u1:D1,K8 u1∧e= .exit 0∧l=[(10,.v (.sl (Ar.lst eAn2 x) u1))]∧C1 Eq H0 [.tl u1] H1) (by kernel_rfl) ?_ .nil hx ?_ ?_ ?_
 ·rintro s3 t4 H o ⟨ht4,hO⟩ h;clear hx;cbv;refine D5 hE ?_;cbv;refine A8 hE h (fun _ h=>?_) fun _ h=>?_
  ·cbv;refine B8 hE eAo2 h fun x6 h=>?_;cbv;refine Jw hE (f:=eAn2) hO 0 rfl ht4 h (c209 N s3.1 x6) (.refl _) (.refl _) fun l7 t9 H hO ht9 h=>?_;cbv;refine C9 hE (g:=fun r10=>sr eAn1 r10) h (c208 N aD x6) (.refl _) fun r10 h=>?_;cbv;refine D5 hE ?_;cbv;refine B8 hE eAo0 h fun x11 h=>?_;cbv;refine A5 hE h (ih167 aA aF r10 (Ar.ar .add .i64 x11.At 1)) (.refl _) fun r12 h=>?_;cbv;obtain⟨s15,hx,h⟩:=bind_some h;refine M8 cf167 hE M3 (γ:=D1) (fun s13 g=>[(1,.v (sr eAn0 aF)),(2,.v (sr eAn1 aD)),(4,.v (.eref (D3 aA) 0)),(9,.v (sr eAn2 r2)),(10,.v (.sl (Ar.lst eAn2 s13.1) g)),fi 11 s3.2,(12,.v (sr eAn1 x6)),(13,.v (sr eAn2 r12)),fi 14 s13.2]) (fun s13 g H1=>K8 g∧C1 Eq H0 [.tl g] H1) (fun x e l H1=>∃u1:D1,K8 u1∧e= .exit 2∧l=[(1,.v (sr eAn0 aF)),(2,.v (sr eAn1 aD)),(4,.v (.eref (D3 aA) 0)),(9,.v (sr eAn2 r2)),(10,.v (.sl (Ar.lst eAn2 x) u1)),fi 11 s3.2]∧C1 Eq H0 [.tl u1] H1) (by kernel_rfl) ?_ t9 hx ?_ ?_ ?_
   ·rintro s13 t14 H o ⟨ht14,hO⟩ h;clear hx;cbv;refine D5 hE ?_;cbv;refine A8 hE h (fun _ h=>?_) fun _ h=>?_
    ·cbv;refine B8 hE eAo2 h fun x16 h=>?_;cbv;refine A5 hE h (c208 N x6 x16) (.refl _) fun r17 h=>?_;cbv;refine Jw hE (f:=eAn2) hO 0 rfl ht14 h (c209 N s13.1 r17) (.refl _) (.refl _) fun l18 t20 H hO ht20 h=>?_;cbv;cases h;exact⟨_,t20,rfl,.e rfl (.e4 (.e4 .z)),rfl,ht20,hO⟩
    cbv;cases h;exact⟨_,_,rfl,⟨t14,ht14,rfl,rfl,hO⟩,.e2 (.e4 .z),rfl⟩
   ·exact .e rfl (.e4 (.e4 .z))
   ·exact⟨ht9,hO⟩
   clear hx;rintro e l H ⟨t21,ht21,rfl,rfl,hO⟩;cbv;cases h;exact⟨_,t21,rfl,.e2 (.e4 .z),rfl,ht21,hO⟩
  cbv;cases h;exact⟨_,_,rfl,⟨t4,ht4,rfl,rfl,hO⟩,.e rfl .z,rfl⟩
 ·exact .e4 (.v (.slt _ (.lst0)) (.e rfl (.z)))
 ·exact⟨trivial,hO⟩
 clear hx;rintro e l H ⟨t22,ht22,rfl,rfl,hO⟩;cbv;cases h;exact hK hO (.ro _ _)
theorem Hf (N:Nat):∀n,Tu N n∧ZW N n∧Ai7 N n∧Ai6 N n∧ZV N n:=by
 intro n
 induction n with
 |zero=>exact⟨(by intro aA aF aD aG r h;unfold K0 at h;cases h),(by intro aV aF aD aG r h;unfold Y3 at h;cases h),(by intro aV aF aD aG r h;unfold DH at h;cases h),(by intro aV aF aD aG r h;unfold DI at h;cases h),(by intro aA aF aD aG r h;unfold V2 at h;cases h)⟩
 |succ n ih=>
  obtain⟨ih129,ih164,ih165,ih166,ih167⟩:=ih;exact⟨k129 N n ih129 ih164 ih165 ih166 ih167,k164 N n ih129 ih164,k165 N n ih129,k166 N n ih129,k167 N n ih129 ih167⟩
theorem c129(N n aA aF aD aG r)(h:K0 N n aA aF aD aG=some r):B4 prog 129 [(C3 aA),sr eAn0 aF,sr eAn1 aD,vi aG] (sr eAn2 r):=(Hf N n).1 aA aF aD aG r h
def cf130:Cf:=⟨[4,5],[(5,18)],[],[],[],[]⟩
theorem c130 (N aF aI r) (h:Z1 N aF aI=some r):B4 prog 130 [sr eAn0 aF,sr eAn1 aI] ((EA r)):=by
 unfold Z1 at h
 refine I4 cf130 func130 call130 ntmps130 ?_;intro E H0 K hE hK hO;cbv;refine C5 hE hO fun b1 H hO=>?_;cbv;refine C5 hE hO fun b2 H hO=>?_;cbv;replace hO:=hO.cast (L':=[cb b2 [.sl (Ar.lst eAo1 ([])) .nil],cb b1 [.sl [] .nil]]) (by simp only[ob,cb,sr,←E6]<;>rfl);replace hO:=hO.tl0 (t:=.nil) rfl;obtain⟨s5,hx,h⟩:=bind_some h;refine M8 cf130 hE M3 (γ:=D1) (fun s3 g=>[(0,.v (sr eAn0 aF)),(1,.v (sr eAn1 aI)),(4,.v (.ref b1 0)),(5,.v (.ref b2 0)),fi 6 s3.1]) (fun s3 g H1=>K8 g∧C1 Eq H0 [.tl g,cb b2 [.sl (Ar.lst eAo1 s3.2.cO) g],cb b1 [.sl [] .nil]] H1) (fun x e l H1=>∃u1:D1,K8 u1∧e= .exit 0∧l=[(4,.v (.ref b1 0)),(5,.v (.ref b2 0))]∧C1 Eq H0 [.tl u1,cb b2 [.sl (Ar.lst eAo1 x.cO) u1],cb b1 [.sl [] .nil]] H1) (by kernel_rfl) ?_ .nil hx ?_ ?_ ?_
 ·rintro s3 t4 H o ⟨ht4,hO⟩ h;clear hx;cbv;refine D5 hE ?_;cbv;refine A8 hE h (fun _ h=>?_) fun _ h=>?_
  ·cbv;refine B2 hE hO 1 rfl ?_;cbv;refine B8 hE eAo0 h fun x6 h=>?_;cbv;refine B8 hE eAo0 h fun x7 h=>?_;cbv;refine B8 hE eAn6 h fun x8 h=>?_;cbv;refine C9 hE (g:=fun r9=>(HX r9)) h (c27 N x8) (.refl _) fun r9 h=>?_;cbv;refine AO (f:=eAo1) hE KI (by decide) hO 0 rfl ht4 (l:=s3.2.cO) (m:=[(⟨x6.Var,r9⟩:E0)]) (.refl _) (.lstc (.eq (eAo8 (⟨x6.Var,r9⟩:E0)) (.refl _)) (.lst0)) h fun l11 t10 H hO ht10 h=>?_;cbv;refine B0 hE hO 1 rfl rfl fun H hO=>?_;cbv;cases h;exact⟨_,t10,rfl,.e rfl (.e4 .z),rfl,ht10,hO⟩
  cbv;cases h;exact⟨_,_,rfl,⟨t4,ht4,rfl,rfl,hO⟩,.e2 .z,rfl⟩
 ·exact .e rfl (.e4 .z)
 ·exact⟨trivial,hO⟩
 clear hx;rintro e l H ⟨t12,ht12,rfl,rfl,hO⟩;cbv;refine B2 hE hO 1 rfl ?_;cbv;refine B0 hE hO 2 rfl rfl fun H hO=>?_;cbv;refine B2 hE hO 2 rfl ?_;cbv;cases h;exact hK hO (.agg (.cons (.ro _ _) (.refl _)))
def cf71:Cf:=⟨[46,6000006],[(8,9),(3000011,0),(3000011,1),(3000011,3),(3000011,6),(3000011,8)],[],[2000011],[],[]⟩
set_option maxHeartbeats 2000000 in
theorem c71 (N aA aF r) (h:Fk N aA aF=some r):B4 prog 71 [(C3 aA),sr eAn0 aF] (sr eAn8 r):=by
 unfold Fk at h
 refine Hs (T:=TT) cf71 M3 func71 (by rfl) (by kernel_rfl) call71 ntmps71 (by rfl) (by rfl) ?_;intro E H0 K hE hK hF;have hO:C1 Eq H0 [] H0:=.start F4 rfl;cbv;refine A5 hE h (c129 N N aA aF ([]) 0) (.cons (.refl _) (.cons (.refl _) (.cons (.lit _ (E6)) (.refl _)))) fun r1 h=>?_;cbv;refine SI hE (f:=eAn8) hO fun q2 H hq2 hO=>?_;cbv;obtain⟨s5,hx,h⟩:=bind_some h;refine M8 cf71 hE M3 (γ:=OG) (fun s3 g=>[(1,.v (sr eAn0 aF)),(5,.v (sr eAn2 r1)),(6,.v (.own g.id g.lo g.n)),fi 7 s3.1]) (fun s3 g H1=>Dd g (Ar.len s3.2)∧C1 Eq H0 [ob g 1 eAn8 s3.2] H1) (fun x e l H1=>∃u1:OG,Dd u1 (Ar.len x)∧e= .exit 0∧l=[(6,.v (.own u1.id u1.lo u1.n))]∧C1 Eq H0 [ob u1 1 eAn8 x] H1) (by kernel_rfl) ?_ q2 hx ?_ ?_ ?_
 ·rintro s3 q4 H o ⟨hq4,hO⟩ h;clear hx;cbv;refine D5 hE ?_;cbv;refine A8 hE h (fun _ h=>?_) fun _ h=>?_
  ·cbv;refine B8 hE eAo2 h fun x6 h=>?_;cbv;refine A5 hE h (c130 N aF x6) (.refl _) fun r7 h=>?_;cbv;refine Ae5 hE hq4 ?_;cbv;obtain⟨s9,hx,h⟩:=bind_some h;refine F2 cf71 hE M3 (fun s8=>[(1,.v (sr eAn0 aF)),(5,.v (sr eAn2 r1)),(6,.v (.own q4.id q4.lo q4.n)),fi 7 s3.1,(8,.v (.eref (EV r7) 0)),fi 9 s8]) (fun s8 H1=>C1 Eq H0 [ob q4 1 eAn8 s3.2] H1) (fun x e l H1=>e= .exit 2∧l=[(1,.v (sr eAn0 aF)),(5,.v (sr eAn2 r1)),(6,.v (.own q4.id q4.lo q4.n)),fi 7 s3.1,(8,.v (.eref (EV r7) 0)),fi 9 x]∧C1 Eq H0 [ob q4 1 eAn8 s3.2] H1) (by kernel_rfl) ?_ hx ?_ hO ?_
   ·intro s8 H o hO h;clear hx;cbv;refine A8 hE h (fun _ h=>?_) fun _ h=>?_
    ·cbv;refine Xr hE hO hq4 0 rfl h fun h=>?_;cbv;refine TX hE eAo9 hO hq4 0 rfl h fun x10 h=>?_;cbv;refine A5 hE h (c33 N r7 x10) (.refl _) fun r11 h=>?_;cbv;refine A8 hE h (fun _ h=>?_) fun _ h=>?_
     ·cbv;cases h;exact⟨_,rfl,.e2 (.e4 .z),rfl,hO⟩
     cbv;cases h;exact⟨_,_,rfl,⟨rfl,rfl,hO⟩,.e2 (.e4 .z),rfl⟩
    cbv;cases h;exact⟨_,_,rfl,⟨rfl,rfl,hO⟩,.e2 (.e4 .z),rfl⟩
   ·exact .e2 (.e4 .z)
   clear hx;rintro e l H ⟨rfl,rfl,hO⟩;cbv;refine VC hE hO hq4 0 rfl h fun l13 q12 hq12 h=>?_;cbv;refine Zl (f:=eAn8) hE DF (by decide) hO (.inr rfl) (m:=l13) (hq12) h fun l15 q14 H hq14 hO h=>?_;cbv;obtain⟨s16,hx,h⟩:=bind_some h;refine S3 cf71 hE M3 (fun e l H1=>∃u1:OG,Dd u1 (Ar.len s16)∧e= .normal∧l=[(1,.v (sr eAn0 aF)),(5,.v (sr eAn2 r1)),(6,.v (.own u1.id u1.lo u1.n)),fi 7 s3.1]∧C1 Eq H0 [ob q14 1 eAn8 l15,ob u1 1 eAn8 s16] H1) (by kernel_rfl) ?_ ?_
   ·clear h;have h:=hx;clear hx;cbv;obtain⟨l98,el98,h⟩:=bind_some h;obtain⟨l218,el218,h⟩:=bind_some h;obtain⟨l298,el298,h⟩:=bind_some h
    repeat' first|refine And.intro ?_ ?_|(refine QR hE hO hq4 1 rfl (Et el98) fun l98 q97 hq97 hO hh=>?_;obtain rfl:=G3 hh;cbv)|(refine FX (f:=eAn8) hE DF (by decide) hO hq97 1 rfl (m:=[r7]) (GK (f:=eAn8) hE DF (.lstc (.eq (eAo9 r7) (.refl _)) (.lst0))) (Et el218) fun l218 q217 H hq217 hO hh=>?_;obtain rfl:=G3 hh;cbv)|(refine FX (f:=eAn8) hE DF (by decide) hO hq217 1 rfl (m:=l15) (Oy hE hO hq14 0 rfl) (Et el298) fun l298 q297 H hq297 hO hh=>?_;obtain rfl:=G3 hh;cbv)|(have h:=G3 h;subst h;exact⟨_,⟨q297,hq297,rfl,rfl,hO⟩,.e4 .z,rfl⟩)
   clear hx;rintro e l H ⟨q417,hq417,rfl,rfl,hO⟩;cbv;cases h;exact⟨_,q417,rfl,.e4 .z,rfl,hq417,hO.tail⟩
  cbv;cases h;exact⟨_,_,rfl,⟨q4,hq4,rfl,rfl,hO⟩,.e rfl .z,rfl⟩
 ·exact .e4 .z
 ·exact⟨hq2,hO⟩
 clear hx;rintro e l H ⟨q418,hq418,rfl,rfl,hO⟩;cbv;cases h;exact hF q418 _ _ 0 _ _ hO rfl (HM hE hq418) (.refl _)
end Go.Ab
namespace Go.Ab
open Go.RowKit Go.Proofs Go.Proofs.Tryz I8
variable[Ar][I8]
set_option maxRecDepth 100000
theorem c15(N aA aF r)(h:Bo N aA aF=some r):B4 prog 15 [(C3 aA),sr eAn0 aF] (.tup [sr eAn8 r.1,vi r.2]):=by
 unfold Bo at h
 refine I4 cf0 func15 call15 ntmps15 ?_;intro E H0 K hE hK hO;cbv;refine A5 hE h (c70 N aA aF) (.refl _) fun r1 h=>?_;cbv;refine A8 hE h (fun _ h=>?_) fun _ h=>?_
 ·cbv;cases h;exact hK hO (.tup (.cons (.lit _ (E6)) (.refl _)))
 cbv;refine A5 hE h (c71 N aA aF) (.refl _) fun r2 h=>?_;cbv;cases h;exact hK hO (.refl _)
def cf16:Cf:=⟨[],[(6,8)],[],[],[],[]⟩
theorem c16 (N aC aD r) (h:DT N aC aD=some r):B4 prog 16 [sr eAn8 aC,sr eAn8 aD] (.bool r):=by
 unfold DT at h
 refine I4 cf16 func16 call16 ntmps16 ?_;intro E H0 K hE hK hO;cbv;refine D5 hE ?_;cbv;refine D5 hE ?_;cbv;refine A8 hE h (fun _ h=>?_) fun _ h=>?_
 ·cbv;cases h;exact hK hO (.refl _)
 cbv;obtain⟨s2,hx,h⟩:=bind_some h;refine F2 cf16 hE M3 (fun s1=>[(0,.v (sr eAn8 aC)),(1,.v (sr eAn8 aD)),fi 5 s1]) (fun s1 H1=>C1 Eq H0 [] H1) (fun x e l H1=>match(generalizing:=false) x with| .inl y=>e= .exit 0∧l=[]∧C1 Eq H0 [] H1| .inr y=>e= .ret∧l=[(4,.b false)]∧C1 Eq H0 [] H1) (by kernel_rfl) ?_ hx ?_ hO ?_
 ·intro s1 H o hO h;clear hx;cbv;refine D5 hE ?_;cbv;refine A8 hE h (fun _ h=>?_) fun _ h=>?_
  ·cbv;refine B8 hE eAo9 h fun x3 h=>?_;cbv;refine B8 hE eAo9 h fun x4 h=>?_;cbv;refine A5 hE h (c33 N x3 x4) (.refl _) fun r5 h=>?_;cbv;refine A8 hE h (fun _ h=>?_) fun _ h=>?_
   ·cbv;cases h;exact⟨_,_,rfl,⟨rfl,rfl,hO⟩,.b rfl (.z),rfl⟩
   cbv;cases h;exact⟨_,rfl,.e rfl (.e2 .z),rfl,hO⟩
  cbv;cases h;exact⟨_,_,rfl,⟨rfl,rfl,hO⟩,.z,rfl⟩
 ·exact .e rfl (.e2 .z)
 clear hx
 rcases s2 with y6|y7
 ·rintro e l H ⟨rfl,rfl,hO⟩;cbv;cases h;exact hK hO (.refl _)
 rintro e l H ⟨rfl,rfl,hO⟩;cbv;cases h;exact hK hO (.refl _)
theorem c3(N aA aF r)(h:T8 N aA aF=some r):B4 prog 3 [(C3 aA),sr eAn0 aF] (.bool r):=by
 unfold T8 at h
 refine I4 cf0 func3 call3 ntmps3 ?_;intro E H0 K hE hK hO;cbv;refine A5 hE h (c12 N aA aF) (.refl _) fun r1 h=>?_;cbv;refine A8 hE h (fun _ h=>?_) fun _ h=>?_
 ·cbv;refine A5 hE h (c13 N) (.refl _) fun r2 h=>?_;cbv;cases h;exact hK hO (.refl _)
 cbv;refine A5 hE h (c14 N aA aF) (.refl _) fun r3 h=>?_;cbv;refine A5 hE h (c15 N aA aF) (.refl _) fun r4 h=>?_;cbv;refine A5 hE h (c16 N r3.1 r4.1) (.refl _) fun r5 h=>?_;cbv;refine A8 hE h (fun _ h=>?_) fun _ h=>?_
 ·cbv;refine A5 hE h (c13 N) (.refl _) fun r6 h=>?_;cbv;cases h;exact hK hO (.refl _)
 cbv;cases h;exact hK hO (.refl _)
end Go.Ab
namespace Go.Ab
open Go.RowKit Go.ChangeShapes Go.WideShapes
variable[I7]
def g0(W:World):Gh:=⟨fun _=>none,fun _=>⟨0,0,0⟩,fun _=>none,fun b o=>∃v,W.cell? ⟨b,o,none⟩=some v,0,W.heap.size⟩
theorem rl0{W:World}(hg:∀n,VR (g0 W) W (.pointer (some ⟨n,0,none⟩)) (I7.gl n)):Rl (g0 W) (fun _=>none) W:=
 ⟨fun id b h=>(by cases h),fun id id' b h=>(by simp[Gh.at]at h),fun b o h=>h,fun id _=>⟨rfl,rfl,rfl⟩,Nat.le_refl _,hg⟩
def Dl(g:Gh)(w:World)(cs:List Value)(xs:List V):Prop:=
 cs.length=xs.length∧∀i,i<xs.length→(cs.getD i undef).oneCell'=true∧VR g w (cs.getD i undef) (xs.getD i .bad)
theorem Dl.nil(g:Gh)(w:World):Dl g w [] []:=⟨rfl,fun i hi=>by simp at hi⟩
theorem Dl.one{g:Gh}{w:World}{v:Value}{x:V}(h1:v.oneCell'=true)(h:VR g w v x):Dl g w [v] [x]:=by
 refine⟨rfl,fun i hi=>?_⟩
 have:i=0:=by simpa using hi
 subst this;exact⟨h1,h⟩
theorem Dl.append {g:Gh} {w:World} {cs ds:List Value} {xs ys:List V} (h:Dl g w cs xs) (k:Dl g w ds ys):Dl g w (cs++ds) (xs++ys):=by
 refine⟨by simp[h.1,k.1],fun i hi=>?_⟩;have hl:=h.1
 simp only[List.length_append]at hi
 by_cases hx:i<xs.length
 ·have e1:(cs++ds).getD i undef=cs.getD i undef:=by simp[List.getD,List.getElem?_append_left (show i<cs.length by omega)]
  have e2:(xs++ys).getD i .bad=xs.getD i .bad:=by simp[List.getD,List.getElem?_append_left hx]
  rw[e1,e2];exact h.2 i hx
 have e1:(cs++ds).getD i undef=ds.getD (i - xs.length) undef:=by simp[List.getD,List.getElem?_append_right (show cs.length≤i by omega),hl]
 have e2:(xs++ys).getD i .bad=ys.getD (i - xs.length) .bad:=by simp[List.getD,List.getElem?_append_right (show xs.length≤i by omega)]
 rw[e1,e2];exact k.2 _ (by omega)
theorem Dl.join{g:Gh}{w:World}{cs:List Value}{xs ys:List V}{a n m:Nat}(h:Dl g w ((cs.drop a).take n) xs)(k:Dl g w ((cs.drop (a+n)).take m) ys):Dl g w ((cs.drop a).take (n+m)) (xs++ys):=by
 have:=h.append k
 rwa[show(cs.drop (a+n))=(cs.drop a).drop n by rw[List.drop_drop],←List.take_add]at this
theorem Dl.agg {g:Gh} {w:World} {cs:Array Value} {xs:List V} (h:Dl g w cs.toList xs):VR g w (.agg cs) (.agg xs):=by
 refine .agg (by simpa using h.1) (fun i hi=>?_) fun i hi=>?_
 ·have:=(h.2 i hi).1
  simpa[List.getD,Array.getD_eq_getD_getElem?]using this
 have:=(h.2 i hi).2
 simpa[List.getD,Array.getD_eq_getD_getElem?]using this
section
variable{H α:Type}{enc:TypeId×Value→H}{P:Program}{W:World}{base:Nat}{spare:Nat→Bool}{held:Bool}{t e:TypeId}{n:Nat}
def Opens(enc:TypeId×Value→H)(P:Program)(W:World)(base:Nat)(spare:Nat→Bool)(held:Bool)(t:TypeId)(f:α→V)(R:α→DataW H→Prop)(n:Nat):Prop:=
 ∀cs x,DataW.trod enc P W base spare held n t cs=some x→∃a,Dl (g0 W) W cs (f a).cells∧R a x.1
theorem Kk{k:IntKind}(ht:P.underlying t=some (.int k)):Opens enc P W base spare held t (V.int k) (fun a d=>d= .lit (.int k a)) n:=by
 intro cs x h;obtain⟨a,rfl,rfl,_⟩:=DataW.trod_int ht h;exact⟨a,.one rfl (.int _ _),rfl⟩
theorem FT(ht:P.underlying t=some .bool):Opens enc P W base spare held t V.bool (fun a d=>d= .lit (.bool a)) n:=by
 intro cs x h;obtain⟨a,rfl,rfl⟩:=DataW.trod_bool ht h;exact⟨a,.one rfl (.bool _),rfl⟩
theorem Vw(ht:P.underlying t=some .string):Opens enc P W base spare held t V.str (fun a d=>d= .lit (.string a.data.toList)∧a.size≤maxLen) n:=by
 intro cs x h;obtain⟨a,rfl,rfl,hl⟩:=DataW.trod_string ht h;exact⟨a,.one rfl (.str _),rfl,hl⟩
def RL(R:α→DataW H→Prop)(l:List α)(ds:List (DataW H)):Prop:=l.length=ds.length∧∀(i:Nat) a d,l[i]? =some a→ds[i]? =some d→R a d
def RS(R:α→DataW H→Prop)(l:List α)(d:DataW H):Prop:=l.length≤maxLen∧((d= .nil∧l=[])∨∃es sp,d= .slice es sp∧RL R l es)
theorem EK {f:α→V} {R:α→DataW H→Prop} (ht:P.underlying t=some (.slice e)) (hc:0<P.cellsOf e) (he:Opens enc P W base spare held e f R n):
 Opens enc P W base spare held t (fun l:List α=>.sl (l.map f) .ro) (RS R) (n+1):=by
 intro cs x h
 rcases DataW.trod_slice ht h with⟨rfl,rfl⟩|⟨a,len,cap,elems,rest,n',hn,rfl,rfl,hb,hl,hm,hlen,hel,hsp,hns⟩
 ·exact⟨[],.one rfl (.sl0 rfl),Nat.zero_le _,.inl ⟨rfl,rfl⟩⟩
 have hn':n'=n:=by omega
 subst hn'
 rcases Nat.eq_zero_or_pos len with h0|h0
 ·subst h0;have:elems=[]:=List.length_eq_zero_iff.1 hlen;subst this;exact⟨[],.one rfl (.sle (.inl rfl)),Nat.zero_le _,.inr ⟨_,_,rfl,rfl,fun i a d hi=>by simp at hi⟩⟩
 have one:∀i,i<len→∃cs' y b,W.cells? base (a.add (i*P.cellsOf e)) (P.cellsOf e)=some cs'∧elems[i]? =some y∧Dl (g0 W) W cs' (f b).cells∧R b y.1:=by
  intro i hi;have h1:=hel i hi
  have h2:elems[i]? =some (elems[i]'(by omega)):=by simp[hlen,hi]
  rw[h2]at h1
  obtain⟨cs',hcs,hy⟩:=Option.bind_eq_some_iff.1 h1;obtain⟨b,hr,hR⟩:=he cs' _ hy;exact⟨cs',_,b,hcs,h2,hr,hR⟩
 obtain⟨_,_,b0,_⟩:=one 0 h0
 haveI:Inhabited α:=⟨b0⟩
 obtain⟨A,hA⟩:=Deep.choose_lt (α:=α) (p:=fun i b=>∃cs' y,W.cells? base (a.add (i*P.cellsOf e)) (P.cellsOf e)=some cs'∧elems[i]? =some y∧Dl (g0 W) W cs' (f b).cells∧R b y.1)
  (fun i hi=>let⟨cs',y,b,h1,h2,h3,h4⟩:=one i hi;⟨b,cs',y,h1,h2,h3,h4⟩)
 have hspot:a.spot=none:=by
  obtain⟨cs',y,h1,_,_,_⟩:=hA 0 h0;obtain⟨_,hcl,hcell⟩:=World.cells?_some h1;have h2:=hcell 0 hc
  have e0:(a.add (0*P.cellsOf e)).add 0=a:=by simp[Addr.add]
  rw[e0]at h2
  have h3:cs'[0]? =some (cs'[0]'(by omega)):=by simp[hcl,hc]
  rw[h3]at h2
  unfold World.cell? at h2
  split at h2
  ·split at h2
   ·cases h2
   rename_i hs;simpa using hs
  cases h2
 obtain⟨b,o,s⟩:=a
 simp only at hspot
 subst hspot
 let l:=(List.range len).map A
 have hll:l.length=len:=by simp[l]
 have hg:∀i,i<len→(l.map f).getD i .bad=f (A i):=fun i hi=>by simp[l,List.getD,hi]
 have cell:∀i j,i<len→j<P.cellsOf e→∃v,W.cell? ⟨b,o+i*P.cellsOf e+j,none⟩=some v∧v.oneCell'=true∧VR (g0 W) W v ((f (A i)).cells.getD j .bad):=by
  intro i j hi hj;obtain⟨cs',y,h1,_,hr,_⟩:=hA i hi;obtain⟨_,hcl,hcell⟩:=World.cells?_some h1;have h2:=hcell j hj
  rw[V6,V6]at h2
  have h3:cs'[j]? =some (cs'.getD j undef):=by simp[List.getD,hcl,hj]
  rw[h3]at h2
  have:=hr.2 j (by rw[←hr.1,hcl];exact hj);exact⟨_,h2,this.1,this.2⟩
 refine⟨l,.one rfl ?_,by omega,.inr ⟨_,_,rfl,by simp[hll,hlen],fun i a' d hi hd=>?_⟩⟩
 ·have hz:∀i,i<len→((l.map f).getD i .bad).cells.length=P.cellsOf e:=fun i hi=>by
   obtain⟨cs',y,h1,_,hr,_⟩:=hA i hi;obtain⟨_,hcl,_⟩:=World.cells?_some h1;rw[hg i hi,←hr.1,hcl]
  refine .sl (sz:=P.cellsOf e) (fun i j=>(W.cell? ⟨b,o+i*P.cellsOf e+j,none⟩).getD undef) (by simp[hll]) hl hz (fun i j hi hj=>?_) (fun i j hi hj=>?_) (fun i j hi hj=>?_) (fun i j hi hj=>?_) trivial
  ·obtain⟨v,h1,_⟩:=cell i j hi hj;exact⟨v,h1⟩
  ·obtain⟨v,h1,_⟩:=cell i j hi hj;rw[h1];rfl
  ·obtain⟨v,h1,h2,_⟩:=cell i j hi hj;rw[h1];exact h2
  obtain⟨v,h1,h2,h3⟩:=cell i j hi hj;rw[h1,hg i hi];exact h3
 have hi':i<len:=by
  rcases Nat.lt_or_ge i l.length with h|h
  ·omega
  rw[List.getElem?_eq_none h]at hi;cases hi
 obtain⟨cs',y,h1,h2,h3,h4⟩:=hA i hi'
 have e1:a'=A i:=by simp[l,hi']at hi;exact hi.symm
 have e2:d=y.1:=by simp[h2]at hd;exact hd.symm
 rw[e1,e2];exact h4
theorem Ta {fs:Array Field} {xs:List (DataW H×List MemPlace)} {cs:List Value} {n:Nat} (hl:xs.length=fs.size)
 (hf:∀(i:Nat) (f:Field),fs[i]? =some f→DataW.trod enc P W base spare held n f.type ((cs.drop f.offset).take (P.cellsOf f.type))=xs[i]?) (i:Nat) {f:Field} (h:fs[i]? =some f):
 ∃y,xs[i]? =some y∧DataW.trod enc P W base spare held n f.type ((cs.drop f.offset).take (P.cellsOf f.type))=some y:=by
 have hi:i<fs.size:=by
  rcases Nat.lt_or_ge i fs.size with h'|h'
  ·exact h'
  rw[Array.getElem?_eq_none h']at h;cases h
 have h1:xs[i]? =some (xs[i]'(by omega)):=by simp[hl,hi]
 exact⟨_,h1,by rw[hf i f h,h1]⟩
end
end Go.Ab
namespace Go.Ab
noncomputable instance arInst:Ar where
 cmp:=Lk
 cmp_eq:=fun _ _ _=>rfl
 ar:=arI
 ar_eq:=fun _ _ _ _=>rfl
 sh:=shI
 sh_eq:=fun _ _ _ _=>rfl
 neg:=fun k n=>k.wrap (0 - n)
 neg_eq:=fun _ _=>rfl
 wr:=fun k n=>k.wrap n
 wr_eq:=fun _ _=>rfl
 scmp:=Ag4
 scmp_eq:=fun _ _ _=>rfl
 cat:=fun a b=>a++b
 cat_eq:=fun _ _=>rfl
 slen:=fun s=>s.size
 slen_eq:=fun _=>rfl
 sat:=fun s i=>match s[i.toNat]? with|some b=>(b.toNat:Int)|none=>0
 sat_eq:=fun _ _=>rfl
 beq:=fun a b=>a==b
 beq_eq:=fun _ _=>rfl
 nt:=fun a=> !a
 nt_eq:=fun _=>rfl
 an:=fun a b=>a&&b
 an_eq:=fun _ _=>rfl
 or:=fun a b=>a||b
 or_eq:=fun _ _=>rfl
 pk:=fun c a b=>if c then a else b
 pk_eq:=fun _ _ _=>rfl
 mx:=fun a b=>if a<b then b else a
 mx_eq:=fun _ _=>rfl
 mn:=fun a b=>if b<a then b else a
 mn_eq:=fun _ _=>rfl
 ofs:=fun a b=>a+b
 ofs_eq:=fun _ _=>rfl
 ofN:=fun n=>n
 ofN_eq:=fun _=>rfl
 len:=fun l=>l.length
 len_eq:=fun _=>rfl
 lst:=fun f l=>l.map f
 lst_eq:=fun _ _=>rfl
end Go.Ab
namespace Go.Ab
open Go.RowKit Go.ChangeShapes Go.WideShapes
variable[I7]
section
variable{H α:Type}{enc:TypeId×Value→H}{P:Program}{W:World}{base:Nat}{spare:Nat→Bool}{held:Bool}{t e:TypeId}{n:Nat}
theorem ND {cs:List Value} {sz:Nat} {f:α→V}:∀(l:List α) (o:Nat),(∀(i:Nat) a,l[i]? =some a→Dl (g0 W) W ((cs.drop (o+i*sz)).take sz) (f a).cells)→Dl (g0 W) W ((cs.drop o).take (l.length*sz)) (l.flatMap fun a=>(f a).cells)
 |[],o,_=>by simp;exact .nil _ _
 | a::l,o,h=>by
  have h0:=h 0 a rfl
  rw[Nat.zero_mul,Nat.add_zero]at h0
  have h1:=ND l (o+sz) fun i b hi=>by
   have:=h (i+1) b (by simpa using hi)
   rwa[show o+(i+1)*sz=o+sz+i*sz by rw[Nat.add_mul];omega]at this
  have:=h0.join h1;rw[List.length_cons,List.flatMap_cons,show(l.length+1)*sz=sz+l.length*sz by rw[Nat.add_mul];omega];exact this
theorem QN {f:α→V} {R:α→DataW H→Prop} {m:Nat} (ht:P.underlying t=some (.array m e)) (hct:P.cellsOf t=m*P.cellsOf e) (hm:0<m) (he:∀n,Opens enc P W base spare held e f R n) {cs:List Value} {x:DataW H×List MemPlace}
 (h:DataW.trod enc P W base spare held n t cs=some x):∃l:List α,Dl (g0 W) W cs (l.flatMap fun a=>(f a).cells)∧∃ds,x.1= .agg ds∧RL R l ds:=by
 cases n with
 |zero=>simp[DataW.trod]at h
 | succ n=>
  simp only[DataW.trod,ht]at h
  split at h
  ·rename_i hl;obtain⟨xs,hmm,rfl⟩:=Option.map_eq_some_iff.1 h
   have hxl:xs.length=m:=by simpa using mapM_some_length hmm
   have one:∀i,i<m→∃b,Dl (g0 W) W ((cs.drop (i*P.cellsOf e)).take (P.cellsOf e)) (f b).cells∧∀y,xs[i]? =some y→R b y.1:=by
    intro i hi;have h1:=mapM_some_get hmm i i (by simp[hi])
    have h2:xs[i]? =some (xs[i]'(by omega)):=by simp[hxl,hi]
    rw[h2]at h1
    obtain⟨b,hr,hR⟩:=he n _ _ h1;exact⟨b,hr,fun y hy=>by rw[h2]at hy;cases hy;exact hR⟩
   obtain⟨b0,_⟩:=one 0 hm
   haveI:Inhabited α:=⟨b0⟩
   obtain⟨A,hA⟩:=Deep.choose_lt one
   have hat:∀(i:Nat) a,((List.range m).map A)[i]? =some a→i<m∧a=A i:=fun i a hi=>by
    rcases Nat.lt_or_ge i m with hlt|hge
    ·simp[hlt]at hi;exact⟨hlt,hi.symm⟩
    rw[List.getElem?_eq_none (by simpa using hge)]at hi;cases hi
   refine⟨(List.range m).map A,?_,_,rfl,by simp[hxl],fun i a d hi hd=>?_⟩
   ·have:=ND (cs:=cs) (sz:=P.cellsOf e) (f:=f) (W:=W) ((List.range m).map A) 0 (fun i a hi=>by
     obtain⟨h1,rfl⟩:=hat i a hi
     simpa using(hA i h1).1)
    simpa[List.take_of_length_le,hl,hct]using this
   obtain⟨h1,rfl⟩:=hat i a hi
   simp only[List.getElem?_map,Option.map_eq_some_iff]at hd
   obtain⟨y,hy,rfl⟩:=hd;exact(hA i h1).2 y hy
  cases h
theorem Ri {g:Nat} {cs:Array Value} {xs:List V} {name:String} (hg:P.globalNamed name=some g) (hv:W.var? P name=some cs) (hr:Dl (g0 W) W cs.toList xs):VR (g0 W) W (.pointer (some ⟨g,0,none⟩)) (.eref xs 0):=by
 have cell:∀j,j<xs.length→W.cell? ⟨g,0+j,none⟩=some (cs.toList.getD j undef):=fun j hj=>by
  have h1:=World.var?_cell hg hv j
  have h2:j<cs.size:=by have:=hr.1;simp at this;omega
  rw[Nat.zero_add,h1];simp[List.getD,h2]
 exact .eref (g:=g0 W) (o:=0) (off:=0) (fun j=>cs.toList.getD j undef) (fun j hj=>(⟨_,cell j hj⟩:∃v,W.cell? ⟨g,0+j,none⟩=some v)) (fun j hj=>cell j hj) (fun j hj=>(hr.2 j hj).1) fun j hj=>(hr.2 j hj).2
end
end Go.Ab
namespace Go.Ab
open Go.RowKit Go.ChangeShapes Go.WideShapes
variable[I7]
section
variable{H:Type}{enc:TypeId×Value→H}{P:Program}{W:World}{base:Nat}{spare:Nat→Bool}{held:Bool}{t e:TypeId}{n:Nat}
end
end Go.Ab
namespace Go.Ab
theorem C2(a b:Int):Ar.cmp .lss a b=decide (a<b):=rfl
theorem Cg(a b:Int):Ar.cmp .leq a b=decide (a≤b):=rfl
theorem Q6(a b:Int):Ar.cmp .gtr a b=decide (b<a):=rfl
theorem M1(a b:Int):Ar.cmp .geq a b=decide (b≤a):=rfl
theorem C0(a b:Int):Ar.cmp .eql a b=decide (a=b):=rfl
theorem F6(a b:Int):Ar.cmp .neq a b= !decide (a=b):=rfl
theorem Q3(a:Bool):Ar.nt a= !a:=rfl
theorem L7(a b:Bool):Ar.an a b=(a&&b):=rfl
theorem I9(a b:Bool):Ar.or a b=(a||b):=rfl
theorem B1{α:Type}(l:List α):Ar.len l=(l.length:Int):=rfl
theorem Hc(a b:Int):Ar.mx a b=if a<b then b else a:=rfl
theorem Qb(s:ByteArray):Ar.slen s=(s.size:Int):=rfl
theorem AF {n:Int} (h0: -9223372036854775808≤n) (h1:n<9223372036854775808):IntKind.wrap .i64 n=n:=by
 have e:IntKind.wrap .i64 n=(if n % 18446744073709551616≥9223372036854775808 then n % 18446744073709551616 - 18446744073709551616 else n % 18446744073709551616):=by
  unfold IntKind.wrap;simp[IntKind.bits,IntKind.signed]
 rw[e]
 split<;>omega
theorem C4{a b:Int}(h0: -9223372036854775808≤a+b)(h1:a+b<9223372036854775808):Ar.ar .add .i64 a b=a+b:=AF h0 h1
theorem QY {S σ R α:Type} (l:List α) (hl:l.length<1000000000000) (step:S→Option (S ⊕ R)) (mk:σ→Int→S) (body:σ→α→Option (σ ⊕ R)) (fin:σ→R)
 (hstep:∀s (i:Nat) x,l[i]? =some x→step (mk s i)=(body s x).bind fun o=>match o with| .inl s'=>some (.inl (mk s' (i+1)))| .inr r=>some (.inr r))
 (hend:∀s,step (mk s l.length)=some (.inr (fin s))):
 ∀(k:Nat) (i:Nat) (s:σ) (N:Nat),i+k=l.length→k<N→loopN step N (mk s i)=(G8 body (l.drop i) s).bind fun o=>match o with| .inl s=>some (fin s)| .inr r=>some r:=by
 intro k
 induction k with
 |zero=>
  intro i s N hi hN;obtain⟨N,rfl⟩:∃M,N=M+1:=⟨N - 1,by omega⟩;have e:l.drop i=[]:=List.drop_eq_nil_of_le (by omega)
  have ei:((i:Nat):Int)=l.length:=by omega
  rw[e,ei];simp only[loopN,hend,G8,Option.bind_some]
 | succ k ih=>
  intro i s N hi hN;obtain⟨N,rfl⟩:∃M,N=M+1:=⟨N - 1,by omega⟩
  have hlt:i<l.length:=by omega
  have hx:l[i]? =some l[i]:=by simp[hlt]
  have e:l.drop i=l[i]::l.drop (i+1):=List.drop_eq_getElem_cons hlt;rw[e];simp only[loopN,hstep s i _ hx,G8]
  cases hb:body s l[i]with
  |none=>rfl
  | some o=>
   cases o with
   |inl s'=>
    simp only[Option.bind_some];have:=ih (i+1) s' N (by omega) (by omega);rw[show((i:Int)+1)=((i+1:Nat):Int) by omega];exact this
   |inr r=>rfl
theorem C7{α:Type}{l:List α}{i:Nat}:B6 l (i:Int)=l[i]? :=by simp[B6]
theorem OY {β S σ R α:Type} (l:List α) (step:S→Option (List β×(S ⊕ R))) (mk:σ→Int→S) (body:σ→α→Option (List β×(σ ⊕ R))) (fin:σ→R)
 (hstep:∀s (i:Nat) x,l[i]? =some x→step (mk s i)=(body s x).bind fun o=>match o with|(w,.inl s')=>some (w,.inl (mk s' (i+1)))|(w,.inr r)=>some (w,.inr r))
 (hend:∀s,step (mk s l.length)=some ([],.inr (fin s))):
 ∀(k:Nat) (i:Nat) (s:σ) (N:Nat),i+k=l.length→k<N→V5 step N (mk s i)=(Be body (l.drop i) s).bind fun o=>match o with|(w,.inl s)=>some (w,fin s)|(w,.inr r)=>some (w,r):=by
 intro k
 induction k with
 |zero=>
  intro i s N hi hN;obtain⟨N,rfl⟩:∃M,N=M+1:=⟨N - 1,by omega⟩;have e:l.drop i=[]:=List.drop_eq_nil_of_le (by omega)
  have ei:((i:Nat):Int)=l.length:=by omega
  rw[e,ei];simp only[V5,hend,Be,Option.bind_some]
 | succ k ih=>
  intro i s N hi hN;obtain⟨N,rfl⟩:∃M,N=M+1:=⟨N - 1,by omega⟩
  have hlt:i<l.length:=by omega
  have hx:l[i]? =some l[i]:=by simp[hlt]
  have e:l.drop i=l[i]::l.drop (i+1):=List.drop_eq_getElem_cons hlt;rw[e];simp only[V5,hstep s i _ hx,Be]
  cases hb:body s l[i]with
  |none=>rfl
  | some o=>
   obtain⟨w,o⟩:=o
   cases o with
   | inl s'=>
    simp only[Option.bind_some];have:=ih (i+1) s' N (by omega) (by omega);rw[show((i:Int)+1)=((i+1:Nat):Int) by omega,this]
    cases hr:Be body (l.drop (i+1)) s' with
    |none=>rfl
    |some q=>
     obtain⟨w',o'⟩:=q;cases o'<;>rfl
   |inr r=>rfl
theorem F5 {S σ R α:Type} (l:List α) (hl:l.length<1000000000000) {step:S→Option (S ⊕ R)} (mk:σ→Int→S) (body:σ→α→Option (σ ⊕ R)) (fin:σ→R) (s:σ) {N:Nat} (hN:l.length<N)
 (hstep:∀s (i:Nat) x,l[i]? =some x→(i:Int)<l.length→step (mk s i)=(body s x).bind fun o=>match o with| .inl s'=>some (.inl (mk s' (i+1)))| .inr r=>some (.inr r))
 (hend:∀s,step (mk s l.length)=some (.inr (fin s))):loopN step N (mk s 0)=(G8 body l s).bind fun o=>match o with| .inl s=>some (fin s)| .inr r=>some r:=by
 have:=QY l hl step mk body fin (fun s i x h=>hstep s i x h (by
  rcases Nat.lt_or_ge i l.length with h'|h'
  ·omega
  rw[List.getElem?_eq_none h']at h;cases h)) hend l.length 0 s N (by omega) hN
 simpa using this
theorem SL {β S σ R α:Type} (l:List α) {step:S→Option (List β×(S ⊕ R))} (mk:σ→Int→S) (body:σ→α→Option (List β×(σ ⊕ R))) (fin:σ→R) (s:σ) {N:Nat} (hN:l.length<N)
 (hstep:∀s (i:Nat) x,l[i]? =some x→(i:Int)<l.length→step (mk s i)=(body s x).bind fun o=>match o with|(w,.inl s')=>some (w,.inl (mk s' (i+1)))|(w,.inr r)=>some (w,.inr r))
 (hend:∀s,step (mk s l.length)=some ([],.inr (fin s))):V5 step N (mk s 0)=(Be body l s).bind fun o=>match o with|(w,.inl s)=>some (w,fin s)|(w,.inr r)=>some (w,r):=by
 have:=OY l step mk body fin (fun s i x h=>hstep s i x h (by
  rcases Nat.lt_or_ge i l.length with h'|h'
  ·omega
  rw[List.getElem?_eq_none h']at h;cases h)) hend l.length 0 s N (by omega) hN
 simpa using this
theorem V9 {α σ R:Type} {step:σ→α→Option (σ ⊕ R)} (I:List α→σ→Prop) (hs:∀x r s,I (x::r) s→∃s',step s x=some (.inl s')∧I r s'):∀{l:List α} {s:σ},I l s→∃s',G8 step l s=some (.inl s')∧I [] s'
 |[],s,h=>⟨s,rfl,h⟩
 |x::l,s,h=>by
  obtain⟨s',h1,h2⟩:=hs x l s h;obtain⟨s2,h3,h4⟩:=V9 I hs h2;exact⟨s2,by simp only[G8,h1,h3],h4⟩
theorem Me {α β σ R:Type} {step:σ→α→Option (List β×(σ ⊕ R))} (I:List α→List β→σ→Prop) (hs:∀x r w s,I (x::r) w s→∃w' s',step s x=some (w',.inl s')∧I r (w++w') s'):
 ∀{l:List α} {w:List β} {s:σ},I l w s→∃w' s',Be step l s=some (w',.inl s')∧I [] (w++w') s'
 |[],w,s,h=>⟨[],s,rfl,by simpa using h⟩
 |x::l,w,s,h=>by
  obtain⟨w1,s1,h1,h2⟩:=hs x l w s h;obtain⟨w2,s2,h3,h4⟩:=Me I hs h2;exact⟨w1++w2,s2,by simp only[Be,h1,h3],by rw[←List.append_assoc];exact h4⟩
def P9{α:Type}(f:α→Int):List α→Int
 |[]=>0
 |x::l=>if f x=0 then P9 f l else f x
theorem CE {α:Type} {f:α→Int}:∀{l:List α},P9 f l=0↔∀x∈l,f x=0
 |[]=>by simp[P9]
 |x::l=>by
  unfold P9
  split
  ·rename_i h;rw[CE];simp[h]
  rename_i h;simp[h]
theorem Le {α:Type} {f:α→Int}:∀{l m:List α},P9 f (l++m)=if P9 f l=0 then P9 f m else P9 f l
 |[],m=>by simp[P9]
 |x::l,m=>by
  simp only[List.cons_append,P9]
  split
  ·rw[Le]
  rename_i h;simp[h]
theorem NH {α:Type} {F:α→Option Int} {f:α→Int}:∀{l:List α},(∀x∈l,F x=some (f x))→
 G8 (fun(_:Unit) x=>(F x).bind fun r=>if Ar.cmp .neq r 0=true then some (Sum.inr r)else some (.inl ())) l ()=some (if P9 f l=0 then .inl ()else .inr (P9 f l))
 |[],_=>rfl
 | x::l,h=>by
  have h1:=NH (l:=l) fun y hy=>h y (by simp[hy]);unfold G8;simp only[h x (by simp),Option.bind_some,F6,P9]
  by_cases hz:f x=0
  ·simp only[hz,decide_true,Bool.not_true,Bool.false_eq_true,if_false,if_true]
   simpa only[F6]using h1
  simp[hz]
noncomputable def As{α:Type}(F:α→Option Int)(_:Unit)(a:α):Option (Unit ⊕ (Unit ⊕ Int)):=(F a).bind fun r=>if Ar.cmp .neq r 0=true then some (.inr (.inr r))else some (.inl ())
theorem X4 {α:Type} {F:α→Option Int} {f:α→Int}:∀{l:List α},(∀x∈l,F x=some (f x))→G8 (As F) l ()=some (if P9 f l=0 then .inl ()else .inr (.inr (P9 f l)))
 |[],_=>rfl
 |x::l,h=>by
  have h1:=X4 (l:=l) fun y hy=>h y (by simp[hy]);unfold G8 As;simp only[h x (by simp),Option.bind_some,F6,P9]
  by_cases hz:f x=0
  ·simp only[hz,decide_true,Bool.not_true,Bool.false_eq_true,if_false,if_true];exact h1
  simp[hz]
end Go.Ab
namespace Go.Ab
mutual
def A9.bulk:A9→Nat
 |⟨_,args,_,_,_,v⟩=>A9.bulks args+v.Text.size+9
def A9.bulks:List A9→Nat
 |[]=>1
 |a::r=>A9.bulk a+A9.bulks r
end
mutual
def A1.bulk:A1→Nat
 |⟨_,args,_,_,_,_,c⟩=>A1.bulks args+A9.bulk c+6
def A1.bulks:List A1→Nat
 |[]=>1
 |a::r=>A1.bulk a+A1.bulks r
end
end Go.Ab
namespace Go.Ab
open Go.RowKit Go.ChangeShapes Go.WideShapes Go.ChangeAt Go.Proofs Go.Proofs.YtanbgjgaafeplaaGreatDoor
set_option maxRecDepth 100000
mutual
def Ye:A9→V
 |⟨op,args,var,field,kind,val⟩=>.agg [.int .i64 op,.sl (Rs args) .ro,.int .i64 var,.int .i64 field,.int .i64 kind,.int .i64 val.Kind,.int .i64 val.Num,.str val.Text]
def Rs:List A9→List V
 |[]=>[]
 |a::r=>Ye a::Rs r
end
theorem NZ:∀l:List A9,Rs l=l.map Ye
 |[]=>by simp[Rs]
 |a::r=>by simp[Rs,NZ r]
mutual
def ZJ:A1→V
 |⟨op,args,typ,var,scope,span,c⟩=>.agg [.int .i64 op,.sl (Rr args) .ro,.int .i64 typ,.int .i64 var,.int .i64 scope,.int .i64 span,.int .i64 c.Op,.sl (c.cL.map Ye) .ro,.int .i64 c.Var,.int .i64 c.Field,.int .i64 c.Kind,.int .i64 c.Value.Kind,.int .i64 c.Value.Num,.str c.Value.Text]
def Rr:List A1→List V
 |[]=>[]
 |a::r=>ZJ a::Rr r
end
theorem NW:∀l:List A1,Rr l=l.map ZJ
 |[]=>by simp[Rr]
 |a::r=>by simp[Rr,NW r]
noncomputable def NX(x:A4):V:=.agg [.int .i64 x.Kind,.int .i64 x.Num,.str x.Text]
noncomputable def NY(x:A7):V:=.agg [.int .i64 x.Source,.int .i64 x.Seq,.int .i64 x.Typ,.int .i64 x.Time,.sl (Ar.lst NX x.Values) .ro]
noncomputable def KV(x:E0):V:=.agg [.int .i64 x.Var,.int .i64 x.Ref.Time,.int .i64 x.Ref.Source,.int .i64 x.Ref.Seq]
noncomputable def VW(x:E4):V:=.agg [.sl (Ar.lst KV x.cO) .ro]
noncomputable def VX(x:Py):V:=.agg [.int .i64 x.cQ,.int .i64 x.Span]
noncomputable def Dn(x:A0):V:=.agg [.int .i64 x.cR,.int .i64 x.at_]
noncomputable def Cd(x:A2):V:=.agg [.int .i64 x.Var,.int .i64 x.At]
noncomputable def JJ(x:J2):V:=.agg [.int .i64 x.cS,.int .i64 x.most,.bool x.cP,.bool x.cond,.bool x.scope,.bool x.span]
noncomputable def HW(x:D2):V:=.agg [.int .i64 x.source,.int .i64 x.seq]
noncomputable def Tf(x:List A7):V:=.sl (Ar.lst NY x) .ro
noncomputable def CZ(x:List A0):V:=.sl (Ar.lst Dn x) .ro
noncomputable def GA(x:List (List A0)):V:=.sl (Ar.lst CZ x) .ro
noncomputable def FC(x:List A2):V:=.sl (Ar.lst Cd x) .ro
noncomputable instance encsInst:I8 where
 eAn9:=NX
 eAn5:=fun _=>rfl
 eAo3:=Ye
 eAo4:=fun⟨_,_,_,_,_,_⟩=>by simp only[Ye,NZ];rfl
 eAn4:=ZJ
 eAn3:=fun⟨_,_,_,_,_,_,_⟩=>by simp only[ZJ,NW];rfl
 eAn0:=NY
 eAn6:=fun _=>rfl
 eAo1:=KV
 eAo8:=fun _=>rfl
 eAn8:=VW
 eAo9:=fun _=>rfl
 eAp6:=VX
 eAp8:=fun _=>rfl
 eAm9:=Dn
 eAo5:=fun _=>rfl
 eAn1:=Cd
 eAo0:=fun _=>rfl
 eAp5:=JJ
 eAp7:=fun _=>rfl
 eAp1:=HW
 eAp2:=fun _=>rfl
 eAp0:=Tf
 eAp3:=fun _=>rfl
 eAo7:=GA
 eAp4:=fun _=>rfl
 eAn7:=CZ
 eAo6:=fun _=>rfl
 eAn2:=FC
 eAo2:=fun _=>rfl
def NK{α:Type}(f:α→Nat):List α→Nat
 |[]=>1
 |a::l=>f a+NK f l
theorem Ua{α:Type}{f:α→Nat}(hf:∀a,1≤f a):∀l:List α,l.length+1≤NK f l
 |[]=>by simp[NK]
 |b::l=>by have:=hf b;have:=Ua hf l;simp only[NK,List.length_cons];omega
section
variable[I7]{H:Type}{enc:TypeId×Value→H}{W:World}{base:Nat}{spare:Nat→Bool}{held:Bool}
abbrev bk(d:DataW H):Nat:=Rows.uptoBulk d
noncomputable def Pg(P:Program)(t:TypeId):Array Field:=match P.underlying t with|some (.struct fs)=>fs|_=> #[]
theorem I3 {P:Program} {t ty off sz:Nat} {xs:List (DataW H×List MemPlace)} {cs:List Value} {n:Nat} (hl:xs.length=(Pg P t).size)
 (hf:∀(i:Nat) (f:Field),(Pg P t)[i]? =some f→DataW.trod enc P W base spare held n f.type ((cs.drop f.offset).take (P.cellsOf f.type))=xs[i]?) (i:Nat)
 (h:((Pg P t)[i]?.map fun f=>(f.type,f.offset,P.cellsOf f.type))=some (ty,off,sz)):∃y,xs[i]? =some y∧DataW.trod enc P W base spare held n ty ((cs.drop off).take sz)=some y:=by
 cases hi:(Pg P t)[i]? with
 |none=>rw[hi]at h;cases h
 |some f=>
  rw[hi]at h
  simp only[Option.map_some,Option.some.injEq,Prod.mk.injEq]at h
  obtain⟨rfl,rfl,rfl⟩:=h;exact Ta hl hf i hi
theorem Opens.down{α:Type}{P:Program}{t:TypeId}{f:α→V}{R:α→DataW H→Prop}{n:Nat}(h:Opens enc P W base spare held t f R (n+1)):Opens enc P W base spare held t f R n:=fun cs x hx=>h cs x (DataW.trod_le (Nat.le_succ n) hx)
theorem Opens.imp{α:Type}{P:Program}{t:TypeId}{f:α→V}{R R':α→DataW H→Prop}{n:Nat}(h:Opens enc P W base spare held t f R n)(hi:∀a d,R a d→R' a d):Opens enc P W base spare held t f R' n:=fun cs x hx=>by
 obtain⟨a,r,q⟩:=h cs x hx;exact⟨a,r,hi _ _ q⟩
theorem Opens.congr{α:Type}{P:Program}{t:TypeId}{f g:α→V}{R:α→DataW H→Prop}{n:Nat}(h:Opens enc P W base spare held t f R n)(hg:∀x,f x=g x):Opens enc P W base spare held t g R n:=fun cs x hx=>by
 obtain⟨a,r,q⟩:=h cs x hx;exact⟨a,by rw[←hg];exact r,q⟩
theorem Aa6 {α:Type} {f:α→Nat}:∀(l:List α) (ds:List (DataW H)),RL (fun a d=>f a≤bk d) l ds→NK f l≤Rows.uptoBulkAll ds+1
 |[],ds,h=>by simp[NK]
 |a::l,[],h=>by have:=h.1;simp at this
 |a::l,d::ds,h=>by
  have h1:f a≤bk d:=h.2 0 a d rfl rfl;have h2:=Aa6 l ds ⟨by simpa using h.1,fun i a d hi hd=>h.2 (i+1) a d (by simpa using hi) (by simpa using hd)⟩;simp only[NK,Rows.uptoBulkAll];have h3:bk d=Rows.uptoBulk d:=rfl;omega
theorem TM{α:Type}{f:α→Nat}{l:List α}{d:DataW H}(h:RS (fun a d=>f a≤bk d) l d):NK f l≤bk d:=by
 obtain⟨_,h⟩:=h
 rcases h with⟨rfl,rfl⟩|⟨es,sp,rfl,h⟩
 ·simp[bk,Rows.uptoBulk,NK]
 have:=Aa6 l es h;simp only[bk,Rows.uptoBulk];omega
theorem RB:∀l:List A9,A9.bulks l=NK A9.bulk l
 |[]=>by simp[A9.bulks,NK]
 |a::l=>by simp[A9.bulks,NK,RB l]
theorem Yh{l:List A9}{d:DataW H}(h:RS (fun a d=>A9.bulk a≤bk d) l d):A9.bulks l≤bk d:=by rw[RB];exact TM h
theorem Of:∀l:List A1,A1.bulks l=NK A1.bulk l
 |[]=>by simp[A1.bulks,NK]
 |a::l=>by simp[A1.bulks,NK,Of l]
theorem RC{l:List A1}{d:DataW H}(h:RS (fun a d=>A1.bulk a≤bk d) l d):A1.bulks l≤bk d:=by rw[Of];exact TM h
theorem Af5{β:Type}{xs:List β}{a b c:β}(hl:xs.length=3)(h0:xs[0]? =some a)(h1:xs[1]? =some b)(h2:xs[2]? =some c):xs=[a,b,c]:=by
 match xs,hl with
 |[x0,x1,x2],_=>simp at h0 h1 h2;rw[h0,h1,h2]
theorem Af4{β:Type}{xs:List β}{a b c d e:β}(hl:xs.length=5)(h0:xs[0]? =some a)(h1:xs[1]? =some b)(h2:xs[2]? =some c)(h3:xs[3]? =some d)(h4:xs[4]? =some e):xs=[a,b,c,d,e]:=by
 match xs,hl with
 |[x0,x1,x2,x3,x4],_=>simp at h0 h1 h2 h3 h4;rw[h0,h1,h2,h3,h4]
theorem Af3{β:Type}{xs:List β}{a b c d e f:β}(hl:xs.length=6)(h0:xs[0]? =some a)(h1:xs[1]? =some b)(h2:xs[2]? =some c)(h3:xs[3]? =some d)(h4:xs[4]? =some e)(h5:xs[5]? =some f):xs=[a,b,c,d,e,f]:=by
 match xs,hl with
 |[x0,x1,x2,x3,x4,x5],_=>simp at h0 h1 h2 h3 h4 h5;rw[h0,h1,h2,h3,h4,h5]
theorem Af2{β:Type}{xs:List β}{a b c d e f g:β}(hl:xs.length=7)(h0:xs[0]? =some a)(h1:xs[1]? =some b)(h2:xs[2]? =some c)(h3:xs[3]? =some d)(h4:xs[4]? =some e)(h5:xs[5]? =some f)(h6:xs[6]? =some g):xs=[a,b,c,d,e,f,g]:=by
 match xs,hl with
 |[x0,x1,x2,x3,x4,x5,x6],_=>simp at h0 h1 h2 h3 h4 h5 h6;rw[h0,h1,h2,h3,h4,h5,h6]
theorem u27:Tryz.prog.underlying 27=some (.struct (Pg Tryz.prog 27)):=by kernel_rfl
theorem u23:Tryz.prog.underlying 23=some (.slice 27):=by kernel_rfl
theorem u3:Tryz.prog.underlying 3=some (.int .i64):=by kernel_rfl
theorem BB(n:Nat):Opens enc Tryz.prog W base spare held 3 (V.int .i64) (fun a d=>(fun _:Int=>1) a≤bk d) n:=(Kk u3).imp fun a d h=>by subst h;simp[bk,Rows.uptoBulk]
theorem u25:Tryz.prog.underlying 25=some (.struct (Pg Tryz.prog 25)):=by kernel_rfl
theorem u9:Tryz.prog.underlying 9=some .string:=by kernel_rfl
theorem Ae2(n:Nat):Opens enc Tryz.prog W base spare held 9 V.str (fun a d=>(fun s:ByteArray=>s.size+1) a≤bk d) n:=(Vw u9).imp fun a d h=>by obtain⟨rfl,_⟩:=h;simp[bk,Rows.uptoBulk]
def A4.mu(x:A4):Nat:=(fun _:Int=>1) x.Kind+(fun _:Int=>1) x.Num+(fun s:ByteArray=>s.size+1) x.Text+1
theorem TU (n:Nat):Opens enc Tryz.prog W base spare held 25 I8.eAn9 (fun(a:A4) d=>A4.mu a≤bk d) n:=by
 intro cs x h;obtain⟨xs,m,hm,rfl,hcl,hl,hf⟩:=DataW.trod_struct u25 h;subst hm;obtain⟨y0,k0,t0⟩:=I3 hl hf 0 (ty:=3) (off:=0) (sz:=1) (by kernel_rfl);obtain⟨y1,k1,t1⟩:=I3 hl hf 1 (ty:=3) (off:=1) (sz:=1) (by kernel_rfl);obtain⟨y2,k2,t2⟩:=I3 hl hf 2 (ty:=9) (off:=2) (sz:=1) (by kernel_rfl);have hxs:=Af5 (hl.trans (by kernel_rfl)) k0 k1 k2;obtain⟨a0,r0,q0⟩:=BB _ _ _ t0;obtain⟨a1,r1,q1⟩:=BB _ _ _ t1;obtain⟨a2,r2,q2⟩:=Ae2 _ _ _ t2;refine⟨⟨a0,a1,a2⟩,?_,?_⟩
 ·have hc3:cs.length=3:=hcl.trans (by kernel_rfl);have:=(r0.join r1).join r2;rw[I8.eAn5]
  simp only[Ar.lst_eq]at this ⊢
  simpa[List.take_of_length_le,hc3,V.cells]using this
 simp only[bk]at q0 q1 q2
 rw[hxs];simp only[List.map_cons,List.map_nil,bk,Rows.uptoBulk,Rows.uptoBulkAll,A4.mu];omega
theorem Zj:∀n:Nat,Opens enc Tryz.prog W base spare held 27 I8.eAo3 (fun(a:A9) d=>A9.bulk a≤bk d) n:=by
 intro n
 induction n with
 |zero=>intro cs x h;simp[DataW.trod]at h
 |succ n ih=>
 intro cs x h;obtain⟨xs,m,hm,rfl,hcl,hl,hf⟩:=DataW.trod_struct u27 h;cases hm;obtain⟨y0,k0,t0⟩:=I3 hl hf 0 (ty:=3) (off:=0) (sz:=1) (by kernel_rfl);obtain⟨y1,k1,t1⟩:=I3 hl hf 1 (ty:=23) (off:=1) (sz:=1) (by kernel_rfl);obtain⟨y2,k2,t2⟩:=I3 hl hf 2 (ty:=3) (off:=2) (sz:=1) (by kernel_rfl);obtain⟨y3,k3,t3⟩:=I3 hl hf 3 (ty:=3) (off:=3) (sz:=1) (by kernel_rfl);obtain⟨y4,k4,t4⟩:=I3 hl hf 4 (ty:=3) (off:=4) (sz:=1) (by kernel_rfl);obtain⟨y5,k5,t5⟩:=I3 hl hf 5 (ty:=25) (off:=5) (sz:=3) (by kernel_rfl);have hxs:=Af3 (hl.trans (by kernel_rfl)) k0 k1 k2 k3 k4 k5;obtain⟨a0,r0,q0⟩:=BB _ _ _ t0
 obtain⟨a1,r1,q1⟩:∃a:List A9,Dl (g0 W) W ((cs.drop 1).take 1) (V.sl (a.map I8.eAo3) .ro).cells∧A9.bulks a≤bk y1.1:=by
  cases n with
  |zero=>simp[DataW.trod]at t1
  |succ n=>
   obtain⟨a,r,q⟩:=EK u23 (show 0<Tryz.prog.cellsOf 27 by rw[show Tryz.prog.cellsOf 27=8 by kernel_rfl];decide) ih.down _ _ t1;exact⟨a,r,Yh q⟩
 obtain⟨a2,r2,q2⟩:=BB _ _ _ t2;obtain⟨a3,r3,q3⟩:=BB _ _ _ t3;obtain⟨a4,r4,q4⟩:=BB _ _ _ t4;obtain⟨a5,r5,q5⟩:=TU _ _ _ t5;refine⟨⟨a0,a1,a2,a3,a4,a5⟩,?_,?_⟩
 ·have hc3:cs.length=8:=hcl.trans (by kernel_rfl)
  rw[I8.eAn5]at r5
  have:=((((r0.join r1).join r2).join r3).join r4).join r5;rw[I8.eAo4]
  simp only[Ar.lst_eq]at this ⊢
  simpa[List.take_of_length_le,hc3,V.cells]using this
 simp only[bk]at q0 q1 q2 q3 q4 q5
 rw[hxs]
 simp only[List.map_cons,List.map_nil,bk,Rows.uptoBulk,Rows.uptoBulkAll,A9.bulk,A4.mu]at *
 omega
theorem u29:Tryz.prog.underlying 29=some (.struct (Pg Tryz.prog 29)):=by kernel_rfl
theorem u22:Tryz.prog.underlying 22=some (.slice 29):=by kernel_rfl
theorem Zi:∀n:Nat,Opens enc Tryz.prog W base spare held 29 I8.eAn4 (fun(a:A1) d=>A1.bulk a≤bk d) n:=by
 intro n
 induction n with
 |zero=>intro cs x h;simp[DataW.trod]at h
 |succ n ih=>
 intro cs x h;obtain⟨xs,m,hm,rfl,hcl,hl,hf⟩:=DataW.trod_struct u29 h;cases hm;obtain⟨y0,k0,t0⟩:=I3 hl hf 0 (ty:=3) (off:=0) (sz:=1) (by kernel_rfl);obtain⟨y1,k1,t1⟩:=I3 hl hf 1 (ty:=22) (off:=1) (sz:=1) (by kernel_rfl);obtain⟨y2,k2,t2⟩:=I3 hl hf 2 (ty:=3) (off:=2) (sz:=1) (by kernel_rfl);obtain⟨y3,k3,t3⟩:=I3 hl hf 3 (ty:=3) (off:=3) (sz:=1) (by kernel_rfl);obtain⟨y4,k4,t4⟩:=I3 hl hf 4 (ty:=3) (off:=4) (sz:=1) (by kernel_rfl);obtain⟨y5,k5,t5⟩:=I3 hl hf 5 (ty:=3) (off:=5) (sz:=1) (by kernel_rfl);obtain⟨y6,k6,t6⟩:=I3 hl hf 6 (ty:=27) (off:=6) (sz:=8) (by kernel_rfl);have hxs:=Af2 (hl.trans (by kernel_rfl)) k0 k1 k2 k3 k4 k5 k6;obtain⟨a0,r0,q0⟩:=BB _ _ _ t0
 obtain⟨a1,r1,q1⟩:∃a:List A1,Dl (g0 W) W ((cs.drop 1).take 1) (V.sl (a.map I8.eAn4) .ro).cells∧A1.bulks a≤bk y1.1:=by
  cases n with
  |zero=>simp[DataW.trod]at t1
  |succ n=>
   obtain⟨a,r,q⟩:=EK u22 (show 0<Tryz.prog.cellsOf 29 by rw[show Tryz.prog.cellsOf 29=14 by kernel_rfl];decide) ih.down _ _ t1;exact⟨a,r,RC q⟩
 obtain⟨a2,r2,q2⟩:=BB _ _ _ t2;obtain⟨a3,r3,q3⟩:=BB _ _ _ t3;obtain⟨a4,r4,q4⟩:=BB _ _ _ t4;obtain⟨a5,r5,q5⟩:=BB _ _ _ t5;obtain⟨a6,r6,q6⟩:=Zj _ _ _ t6;refine⟨⟨a0,a1,a2,a3,a4,a5,a6⟩,?_,?_⟩
 ·have hc3:cs.length=14:=hcl.trans (by kernel_rfl)
  rw[I8.eAo4]at r6
  have:=(((((r0.join r1).join r2).join r3).join r4).join r5).join r6;rw[I8.eAn3]
  simp only[Ar.lst_eq]at this ⊢
  simpa[List.take_of_length_le,hc3,V.cells]using this
 simp only[bk]at q0 q1 q2 q3 q4 q5 q6
 rw[hxs]
 simp only[List.map_cons,List.map_nil,bk,Rows.uptoBulk,Rows.uptoBulkAll,A1.bulk,A4.mu]at *
 omega
theorem u62:Tryz.prog.underlying 62=some (.struct (Pg Tryz.prog 62)):=by kernel_rfl
theorem u60:Tryz.prog.underlying 60=some (.slice 25):=by kernel_rfl
theorem Zg(n:Nat):Opens enc Tryz.prog W base spare held 60 (fun l:List A4=>.sl (Ar.lst I8.eAn9 l) .ro) (fun a d=>(NK A4.mu) a≤bk d) n:=
 Opens.down (((EK u60 (show 0<Tryz.prog.cellsOf 25 by rw[show Tryz.prog.cellsOf 25=3 by kernel_rfl];decide) (TU n)).imp fun a d h=>TM h).congr fun x=>by rw[Ar.lst_eq])
def A7.mu(x:A7):Nat:=(fun _:Int=>1) x.Source+(fun _:Int=>1) x.Seq+(fun _:Int=>1) x.Typ+(fun _:Int=>1) x.Time+(NK A4.mu) x.Values+1
theorem Zf (n:Nat):Opens enc Tryz.prog W base spare held 62 I8.eAn0 (fun(a:A7) d=>A7.mu a≤bk d) n:=by
 intro cs x h;obtain⟨xs,m,hm,rfl,hcl,hl,hf⟩:=DataW.trod_struct u62 h;subst hm;obtain⟨y0,k0,t0⟩:=I3 hl hf 0 (ty:=3) (off:=0) (sz:=1) (by kernel_rfl);obtain⟨y1,k1,t1⟩:=I3 hl hf 1 (ty:=3) (off:=1) (sz:=1) (by kernel_rfl);obtain⟨y2,k2,t2⟩:=I3 hl hf 2 (ty:=3) (off:=2) (sz:=1) (by kernel_rfl);obtain⟨y3,k3,t3⟩:=I3 hl hf 3 (ty:=3) (off:=3) (sz:=1) (by kernel_rfl);obtain⟨y4,k4,t4⟩:=I3 hl hf 4 (ty:=60) (off:=4) (sz:=1) (by kernel_rfl);have hxs:=Af4 (hl.trans (by kernel_rfl)) k0 k1 k2 k3 k4;obtain⟨a0,r0,q0⟩:=BB _ _ _ t0;obtain⟨a1,r1,q1⟩:=BB _ _ _ t1;obtain⟨a2,r2,q2⟩:=BB _ _ _ t2;obtain⟨a3,r3,q3⟩:=BB _ _ _ t3;obtain⟨a4,r4,q4⟩:=Zg _ _ _ t4;refine⟨⟨a0,a1,a2,a3,a4⟩,?_,?_⟩
 ·have hc3:cs.length=5:=hcl.trans (by kernel_rfl);have:=(((r0.join r1).join r2).join r3).join r4;rw[I8.eAn6]
  simp only[Ar.lst_eq]at this ⊢
  simpa[List.take_of_length_le,hc3,V.cells]using this
 simp only[bk]at q0 q1 q2 q3 q4
 rw[hxs];simp only[List.map_cons,List.map_nil,bk,Rows.uptoBulk,Rows.uptoBulkAll,A7.mu];omega
theorem u30:Tryz.prog.underlying 30=some (.slice 62):=by kernel_rfl
theorem Zh(n:Nat):Opens enc Tryz.prog W base spare held 30 (fun l:List A7=>.sl (Ar.lst I8.eAn0 l) .ro) (fun a d=>(NK A7.mu) a≤bk d) n:=
 Opens.down (((EK u30 (show 0<Tryz.prog.cellsOf 62 by rw[show Tryz.prog.cellsOf 62=5 by kernel_rfl];decide) (Zf n)).imp fun a d h=>TM h).congr fun x=>by rw[Ar.lst_eq])
theorem Ps{v:Value}{d:DataW H}{p:List MemPlace}(hv:Value.okWide Tryz.prog W .any base 29 v)(h:DataW.Trod enc Tryz.prog W 0 (fun _=>true) true 29 v d p):∃x:A1,VR (g0 W) W v (I8.eAn4 x)∧A1.bulk x≤Rows.uptoBulk d:=by
 obtain⟨fuel,ht⟩:=h;obtain⟨cs,rfl,hcs⟩:=okWide_struct u29 hv;obtain⟨x,hr,hb⟩:=Zi fuel _ _ ht;have hr':Dl (g0 W) W cs.toList (I8.eAn4 x).cells:=hr;refine⟨x,?_,hb⟩;have:=hr'.agg
 rw[I8.eAn3]at this ⊢
 exact this
theorem RE{v:Value}{d:DataW H}{p:List MemPlace}(hv:Value.okWide Tryz.prog W .any base 30 v)(h:DataW.Trod enc Tryz.prog W 0 (fun _=>true) true 30 v d p):∃x:List A7,VR (g0 W) W v (.sl (Ar.lst I8.eAn0 x) .ro)∧(NK A7.mu) x≤Rows.uptoBulk d:=by
 obtain⟨fuel,ht⟩:=h;obtain⟨a,len,cap,rfl⟩:=okWide_slice u30 hv;obtain⟨x,hr,hb⟩:=Zh fuel _ _ ht;exact⟨x,(hr.2 0 (by simp[V.cells])).2,hb⟩
theorem u4:Tryz.prog.underlying 4=some .bool:=by kernel_rfl
theorem Zx{f:FuncId}{vals:Array Value}{args:List V}(hg:∀n,VR (g0 W) W (.pointer (some ⟨n,0,none⟩)) (I7.gl n))(hcall:∀vals w,(callFunc f vals).run Tryz.prog w= .ok (.enter f vals) w)(law:B4 Tryz.prog f args (.bool true))(hA:Args (g0 W) W vals args):
 Calls Tryz.prog f vals W fun e W'=>e= .returned (.bool true)∧Below W.heap.size W W':=by
 have hc:=law (fun _=>none) (g0 W) W vals (rl0 hg) hA
 rw[hcall]at hc
 refine(callsIn_wide.1 hc).mono fun e W' ⟨v,he,g',y,H',hs,hR,hvy,hy,_⟩=>?_;subst hy;cases hvy;exact⟨he,hs.low⟩
theorem Am2{v0 v1:Value}{x0 x1:V}(h0:VR (g0 W) W v0 x0)(h1:VR (g0 W) W v1 x1):Args (g0 W) W #[v0,v1] [x0,x1]:=⟨rfl,fun i hi=>by
 match i,hi with
 |0,_=>exact h0
 |1,_=>exact h1⟩
end
end Go.Ab
namespace Go.Ab
mutual
def A9.pre:A9→List A9
 |⟨op,args,var,field,kind,val⟩=>⟨op,args,var,field,kind,val⟩::A9.pres args
def A9.pres:List A9→List A9
 |[]=>[]
 |a::r=>A9.pre a++A9.pres r
end
mutual
def A9.dep:A9→Nat
 |⟨_,args,_,_,_,_⟩=>A9.deps args+1
def A9.deps:List A9→Nat
 |[]=>0
 |a::r=>max (A9.dep a) (A9.deps r)
end
mutual
def A1.pre:A1→List A1
 |⟨op,args,typ,var,scope,span,c⟩=>⟨op,args,typ,var,scope,span,c⟩::A1.pres args
def A1.pres:List A1→List A1
 |[]=>[]
 |a::r=>A1.pre a++A1.pres r
end
mutual
def A1.dep:A1→Nat
 |⟨_,args,_,_,_,_,_⟩=>A1.deps args+1
def A1.deps:List A1→Nat
 |[]=>0
 |a::r=>max (A1.dep a) (A1.deps r)
end
theorem A9.pre_eq(x:A9):x.pre=x::A9.pres x.cL:=by cases x;simp[A9.pre]
theorem A1.pre_eq(x:A1):x.pre=x::A1.pres x.cL:=by cases x;simp[A1.pre]
theorem A9.dep_eq(x:A9):x.dep=A9.deps x.cL+1:=by cases x;simp[A9.dep]
theorem A1.dep_eq(x:A1):x.dep=A1.deps x.cL+1:=by cases x;simp[A1.dep]
theorem A9.bulk_eq(x:A9):x.bulk=A9.bulks x.cL+x.Value.Text.size+9:=by cases x;simp[A9.bulk]
theorem A1.bulk_eq(x:A1):x.bulk=A1.bulks x.cL+x.cN.bulk+6:=by cases x;simp[A1.bulk]
theorem LE:∀(l:List A9),(∀a∈l,A9.bulk a≤A9.bulks l)∧l.length≤A9.bulks l
 |[]=>⟨fun a h=>by simp at h,by simp[A9.bulks]⟩
 |b::l=>by
  have h:=LE l;have hb:=A9.bulk_eq b;simp only[A9.bulks,List.length_cons];refine⟨fun a ha=>?_,by omega⟩
  rcases List.mem_cons.1 ha with rfl|ha
  ·omega
  have:=h.1 a ha;omega
theorem LD:∀(l:List A1),(∀a∈l,A1.bulk a≤A1.bulks l)∧l.length≤A1.bulks l
 |[]=>⟨fun a h=>by simp at h,by simp[A1.bulks]⟩
 |b::l=>by
  have h:=LD l;have hb:=A1.bulk_eq b;simp only[A1.bulks,List.length_cons];refine⟨fun a ha=>?_,by omega⟩
  rcases List.mem_cons.1 ha with rfl|ha
  ·omega
  have:=h.1 a ha;omega
mutual
theorem SE:∀x:A9,x.pre.length≤x.bulk
 |⟨op,args,var,field,kind,val⟩=>by
  have:=EJ args;simp only[A9.pre,A9.bulk,List.length_cons];omega
theorem EJ:∀l:List A9,(A9.pres l).length≤A9.bulks l
 |[]=>by simp[A9.pres]
 |a::l=>by
  have h1:=SE a;have h2:=EJ l;simp only[A9.pres,A9.bulks,List.length_append];omega
end
mutual
theorem Ea:∀x:A1,x.pre.length≤x.bulk
 |⟨op,args,typ,var,scope,span,c⟩=>by
  have:=EI args;simp only[A1.pre,A1.bulk,List.length_cons];omega
theorem EI:∀l:List A1,(A1.pres l).length≤A1.bulks l
 |[]=>by simp[A1.pres]
 |a::l=>by
  have h1:=Ea a;have h2:=EI l;simp only[A1.pres,A1.bulks,List.length_append];omega
end
mutual
theorem IZ:∀x:A9,x.dep≤x.bulk
 |⟨op,args,var,field,kind,val⟩=>by
  have:=ET args;simp only[A9.dep,A9.bulk];omega
theorem ET:∀l:List A9,A9.deps l≤A9.bulks l
 |[]=>by simp[A9.deps]
 |a::l=>by
  have h1:=IZ a;have h2:=ET l;simp only[A9.deps,A9.bulks];omega
end
mutual
theorem Ti:∀x:A1,x.dep≤x.bulk
 |⟨op,args,typ,var,scope,span,c⟩=>by
  have:=ES args;simp only[A1.dep,A1.bulk];omega
theorem ES:∀l:List A1,A1.deps l≤A1.bulks l
 |[]=>by simp[A1.deps]
 |a::l=>by
  have h1:=Ti a;have h2:=ES l;simp only[A1.deps,A1.bulks];omega
end
def Cut(lim:Int)(cnt:Nat)(r:Int):Prop:=1≤r∧r≤cnt∧(r=cnt∨lim<r)
section
variable{α:Type}
theorem GW {lim:Int} {f:α→Option Int} {cnt:α→Nat} {B:Nat} (hB:B≤1000000000000):∀(l:List α) (s:Int),0≤s→s+(l.map cnt).sum≤B→(∀a∈l,∃r,f a=some r∧Cut lim (cnt a) r)→
 ∃o,G8 (fun(s:Int) x=>if s≤lim then(f x).bind fun r=>some (.inl (Ar.ar .add .i64 s r))else some (.inr s)) l s=some o∧
  ∃v,v=(match o with| .inl s=>s| .inr s=>s)∧s≤v∧v≤s+(l.map cnt).sum∧(v=s+(l.map cnt).sum∨lim<v)
 |[],s,h0,_,_=>⟨.inl s,rfl,s,rfl,Int.le_refl _,by simp,.inl (by simp)⟩
 | a::l,s,h0,hb,hf=>by
  simp only[List.map_cons,List.sum_cons]at hb ⊢
  unfold G8
  by_cases hs:s≤lim
  ·obtain⟨r,h1,h2,h3,h4⟩:=hf a (by simp);simp only[if_pos hs,h1,Option.bind_some];have e:Ar.ar .add .i64 s r=s+r:=C4 (by omega) (by omega);rw[e];obtain⟨o,k1,v,k2,k3,k4,k5⟩:=GW hB l (s+r) (by omega) (by omega) fun b hb=>hf b (by simp[hb]);refine⟨o,k1,v,k2,by omega,by omega,?_⟩
   rcases k5 with k5|k5
   ·rcases h4 with h4|h4
    ·left;omega
    right;omega
   exact .inr k5
  simp only[if_neg hs];exact⟨_,rfl,s,rfl,Int.le_refl _,by omega,.inr (by omega)⟩
end
theorem Ir:∀l:List A1,(l.map fun a=>a.pre.length).sum=(A1.pres l).length
 |[]=>rfl
 |a::l=>by simp[A1.pres,Ir l]
theorem It:∀l:List A9,(l.map fun a=>a.pre.length).sum=(A9.pres l).length
 |[]=>rfl
 |a::l=>by simp[A9.pres,It l]
theorem PS {N:Nat} (hN:40000000≤N) (lim:Int):∀(n:Nat) (x:A1),x.bulk≤n→x.bulk≤16777216→∃r,U0 N n x lim=some r∧Cut lim x.pre.length r:=by
 intro n
 induction n with
 |zero=>intro x h;have:=A1.bulk_eq x;omega
 | succ n ih=>
  intro x hx hb;have hxb:=A1.bulk_eq x;have hB:=LD x.cL;have hpb:=EI x.cL;unfold U0;rw[F5 x.cL (by omega) (mk:=fun(s:Int) i=>(s,i)) (body:=fun(s:Int) a=>if s≤lim then(U0 N n a lim).bind fun r=>some (.inl (Ar.ar .add .i64 s r))else some (.inr s)) (fin:=fun s=>s) (s:=1) (by omega) ?_ ?_]
  ·obtain⟨o,k1,v,k2,k3,k4,k5⟩:=GW (lim:=lim) (f:=fun a=>U0 N n a lim) (cnt:=fun a=>a.pre.length) (B:=40000000) (by omega) x.cL 1 (by omega) (by rw[Ir];omega) fun a ha=>ih a (by have:=hB.1 a ha;omega) (by have:=hB.1 a ha;omega)
   rw[Ir]at k4 k5
   have hpe:x.pre.length=(A1.pres x.cL).length+1:=by rw[A1.pre_eq];rfl
   simp only[k1,Option.bind_some];refine⟨v,?_,by omega,by omega,?_⟩
   ·cases o<;>simp_all
   rcases k5 with k5|k5
   ·left;omega
   right;exact k5
  ·intro s i a ha hi;have e:Ar.ar .add .i64 (i:Int) 1=i+1:=C4 (by omega) (by omega);simp only[C2,Cg,L7,B1,hi,decide_true,Bool.true_and,C7,ha,Option.bind_some,e,decide_eq_true_eq]
   split
   ·cases U0 N n a lim<;>rfl
   rfl
  intro s;simp[C2,L7,B1]
end Go.Ab
