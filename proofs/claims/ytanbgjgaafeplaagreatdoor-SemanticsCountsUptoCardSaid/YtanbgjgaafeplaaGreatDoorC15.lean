/- GTCo6 GTCo7 GTSq GTCo8 -/
import Derived.Test.YtanbgjgaafeplaaGreatDoorC14
set_option linter.all false
open Go.Ab.Ar (ar lst)
namespace Go.Ab
open Go.RowKit Go.Proofs Go.Proofs.Tryz J2
variable [Ar][J2]
set_option maxRecDepth 100000
def cf154 :Cf:=⟨[8,3000053,8000053,9000053],[(8,14),(11,8)],[],[],[],[]⟩
theorem c154 (N:Nat):∀n aB aR aT aU r,Ao N n aB aR aT aU=some r→B4 prog 154 [(I5 aB),(El aR),vi aT,(R3 aU)] (.tup [(C9 r.1),vi r.2]):=by
 intro n
 induction n with
 |zero=>intro aB aR aT aU r h;cases h
 |succ n ih=>
 intro aB aR aT aU r h
 unfold Ao at h
 refine I6 cf154 func154 call154 ntmps154 ?_;intro E H0 K hE hK hO;cbv;refine C7 hE hO fun b1 H hO=>?_;cbv;refine D5 hE ?_;cbv;refine A7 hE h (fun _ h=>?_) fun _ h=>?_
 ·cbv;refine A5 hE h (c187 N aB aR aT aU) (.refl _) fun r2 h=>?_;cbv;refine A9 hE hO 0 rfl rfl fun H hO=>?_;cbv;refine B2 hE hO 0 rfl ?_;cbv;cases h;exact hK hO (.refl _)
 cbv;replace hO:=hO.tl0 (t:=.nil) rfl;replace hO:=hO.tl0 (t:=.nil) rfl;obtain⟨s6,hx,h⟩:=bind_some h;refine K6 cf154 hE L9 (γ:=D1×D1) (fun s3 g=>[fi 2 aT,(4,.v (.eref (Aw aB) 0)),(5,.v (.eref (Ai9 aR) 0)),(7,.v (.eref (Kq aU) 0)),(8,.v (.ref b1 0)),(10,.v (.sl (lst eAu4 s3.1) g.2)),(11,.v (.sl (lst (V.int .i64) s3.2.1) g.1)),fi 12 s3.2.2]) (fun s3 g H1=>K4 g.1∧K4 g.2∧C0 Eq H0 [.tl g.1,.tl g.2,cb b1 [vi 0,vi 0,.str (⟨#[]⟩)]] H1) (fun x e l H1=>match(generalizing:=false) x with| .inl y=>∃u1:D1,K4 u1∧∃u2:D1,K4 u2∧e= .exit 0∧l=[(4,.v (.eref (Aw aB) 0)),(8,.v (.ref b1 0)),(10,.v (.sl (lst eAu4 y.1) u2)),(11,.v (.sl (lst (V.int .i64) y.2) u1))]∧C0 Eq H0 [.tl u1,.tl u2,cb b1 [vi 0,vi 0,.str (⟨#[]⟩)]] H1| .inr y=>∃u1:D1,K4 u1∧∃u2:D1,K4 u2∧e= .ret∧l=[(8,.v (.ref b1 0)),fi 9 y]∧C0 Eq H0 [.tl u1,.tl u2,cb b1 [vi 0,vi 0,.str (⟨#[]⟩)]] H1) (by kernel_rfl) ?_ (⟨.nil,.nil⟩) hx ?_ ?_ ?_
 ·rintro s3 ⟨t4,t5⟩ H o ⟨ht4,ht5,hO⟩ h;clear hx;cbv;refine D5 hE ?_;cbv;refine A7 hE h (fun _ h=>?_) fun _ h=>?_
  ·cbv;refine B8 hE eAv0 h fun x7 h=>?_;cbv;refine D0 hE (g:=fun r8=>.tup [(C9 r8.1),vi r8.2]) h (ih x7 aR aT aU) (.refl _) fun r8 h=>?_;cbv;refine A7 hE h (fun _ h=>?_) fun _ h=>?_
   ·cbv;refine A9 hE hO 2 rfl rfl fun H hO=>?_;cbv;cases h;exact⟨_,_,rfl,⟨t4,ht4,t5,ht5,rfl,rfl,hO⟩,.e2 .z,rfl⟩
   cbv;refine LV hE hO 1 rfl ht5 fun H hO=>?_;cbv;refine Ji hE trivial ?_;cbv;refine PH (f:=eAu4) hE Ih (by decide) (l:=s3.1) (m:=[r8.1]) (.refl _) (.lstc (.eq (eAu1 r8.1) (.refl _)) (.lst0)) h fun l9 h=>?_;cbv;refine LX hE hO 1 rfl fun t10 H hO ht10=>?_;cbv;refine As (f:=(V.int .i64)) hE (fun _=>rfl) (by decide) hO 0 rfl ht4 (l:=s3.2.1) (m:=[r8.1.Kind]) (.refl _) (.lstc (.refl _) (.lst0)) h fun l12 t11 H hO ht11 h=>?_;cbv;cases h;exact⟨_,⟨t11,t10⟩,rfl,.e4 (.e4 .z),rfl,ht11,ht10,hO⟩
  cbv;cases h;exact⟨_,_,rfl,⟨t4,ht4,t5,ht5,rfl,rfl,hO⟩,.e4 .z,rfl⟩
 ·exact .e rfl (.e4 (.v (.slt _ (.lst0)) (.v (.slt _ (.lst0)) (.e rfl (.z)))))
 ·exact⟨trivial,trivial,hO⟩
 clear hx
 rcases s6 with y13|y18
 ·rintro e l H ⟨t14,ht14,t15,ht15,rfl,rfl,hO⟩;cbv;refine A5 hE h (c188 N aB.Op y13.2) (.cons (.refl _) (.cons (.ro _ _) (.refl _))) fun r16 h=>?_;cbv;refine A7 hE h (fun _ h=>?_) fun _ h=>?_
  ·cbv;refine A9 hE hO 2 rfl rfl fun H hO=>?_;cbv;refine B2 hE hO 2 rfl ?_;cbv;cases h;exact hK hO (.refl _)
  cbv;refine A5 hE h (c189 N aB.Op y13.1) (.cons (.refl _) (.cons (.ro _ _) (.refl _))) fun r17 h=>?_;cbv;refine A9 hE hO 2 rfl rfl fun H hO=>?_;cbv;refine B2 hE hO 2 rfl ?_;cbv;cases h;exact hK hO (.refl _)
 rintro e l H ⟨t19,ht19,t20,ht20,rfl,rfl,hO⟩;cbv;refine B2 hE hO 2 rfl ?_;cbv;cases h;exact hK hO (.refl _)
def cf119 :Cf:=⟨[8],[],[],[],[],[]⟩
theorem c119 (N aB aR aT aU r)(h:Ew N aB aR aT aU=some r):B4 prog 119 [(I5 aB),(El aR),vi aT,(R3 aU)] (.tup [(C9 r.1),vi r.2]):=by
 unfold Ew at h
 refine I6 cf119 func119 call119 ntmps119 ?_;intro E H0 K hE hK hO;cbv;refine C7 hE hO fun b1 H hO=>?_;cbv;refine A5 hE h (c136 N aB) (.refl _) fun r2 h=>?_;cbv;refine A7 hE h (fun _ h=>?_) fun _ h=>?_
 ·cbv;refine A9 hE hO 0 rfl rfl fun H hO=>?_;cbv;refine B2 hE hO 0 rfl ?_;cbv;cases h;exact hK hO (.refl _)
 cbv;refine A5 hE h (c154 N N aB aR aT aU) (.refl _) fun r3 h=>?_;cbv;refine A9 hE hO 0 rfl rfl fun H hO=>?_;cbv;refine B2 hE hO 0 rfl ?_;cbv;cases h;exact hK hO (.refl _)
def cf53 :Cf:=⟨[],[(2,5)],[],[],[],[]⟩
theorem c53 (N aB aR aT aU r)(h:Bh N aB aR aT aU=some r):B4 prog 53 [(I5 aB),(El aR),vi aT,(R3 aU)] (.bool r):=by
 unfold Bh at h
 refine I6 cf53 func53 call53 ntmps53 ?_;intro E H0 K hE hK hO;cbv;refine A5 hE h (c119 N aB aR aT aU) (.refl _) fun r1 h=>?_;cbv;refine A7 hE h (fun _ h=>?_) fun _ h=>?_
 ·cbv;refine D0 hE (g:=fun r2=>(C9 r2)) h (c120 N true) (.refl _) fun r2 h=>?_;cbv;cases h;exact hK hO (.refl _)
 cbv;cases h;exact hK hO (.refl _)
def cf207 :Cf:=⟨[6,7,3000049,8000049,9000049],[(6,26)],[],[],[(51,1000007)],[]⟩
theorem c207 (N aC aG bB r) (h:CT N aC aG bB=some r):B4 prog 207 [sr eAt5 aC,sr eAt6 aG,vi bB] ((El r)):=by
 unfold CT at h
 refine I6 cf207 func207 call207 ntmps207 ?_;intro E H0 K hE hK hO;cbv;refine C7 hE hO fun b1 H hO=>?_;cbv;refine Ah7 hE (f:=eAt5) (by decide) hO 1 h fun l3 w2 H hw2 h hO=>?_;have hO:C0 Eq H0 (.blk w2.q.id (.arr 1 (w2.q.pre++lst (AC eAt5) w2.row++w2.q.rest))::cb b1 [.sl [] .nil]::(FN w2++[])) H:=hO;cbv;refine C7 hE hO fun b4 H hO=>?_;cbv;refine A9 hE hO 0 rfl rfl fun H hO=>?_;cbv;obtain⟨s7,hx,h⟩:=bind_some h;refine K6 cf207 hE L9 (γ:=Rw A4) (fun s5 g=>[(0,.v (sr eAt5 aC)),(1,.v (sr eAt6 aG)),fi 2 bB,(6,.v (.ref b1 0)),(7,.v (.ref b4 0)),fi 8 s5.1]) (fun s5 g H1=>BN g s5.2∧C0 Eq H0 (cb b4 [.own g.q.id g.q.lo g.q.n]:: .blk g.q.id (.arr 1 (g.q.pre++lst (AC eAt5) g.row++g.q.rest))::cb b1 [.sl [] .nil]::(FN g++[])) H1) (fun x e l H1=>∃u1:Rw A4,BN u1 x∧e= .exit 0∧l=[(6,.v (.ref b1 0)),(7,.v (.ref b4 0))]∧C0 Eq H0 (cb b4 [.own u1.q.id u1.q.lo u1.q.n]:: .blk u1.q.id (.arr 1 (u1.q.pre++lst (AC eAt5) u1.row++u1.q.rest))::cb b1 [.sl [] .nil]::(FN u1++[])) H1) (by kernel_rfl) ?_ w2 hx ?_ ?_ ?_
 ·rintro s5 w6 H o ⟨hw6,hO⟩ h;clear hx;cbv;refine D5 hE ?_;cbv;refine A7 hE h (fun _ h=>?_) fun _ h=>?_
  ·cbv;refine B8 hE eAu5 h fun x8 h=>?_;cbv;refine A7 hE h (fun _ h=>?_) fun _ h=>?_
   ·cbv;obtain⟨x9,ex9,h⟩:=bind_some h;obtain⟨x10,hxx10,h⟩:=bind_some h
    obtain⟨hjx10,t11,hrx10,hax10⟩:=hw6.at hxx10
    obtain⟨Rx10,hO,hbx10⟩:=hO.rtake (w:=w6) (T1:=[]) (T2:=[]) 3 rfl hrx10;refine LV hE hO 0 rfl hax10 fun H hO=>?_;cbv;refine B2 hE hO 1 rfl ?_;cbv;refine Zi hE eAu5 ex9 ?_;cbv;refine B2 hE hO 1 rfl ?_;cbv;refine Zi hE eAu5 ex9 ?_;cbv;refine Qb hE (f:=AC eAt5) hO hw6.ok 2 rfl hjx10 ?_;cbv;refine Vn hE (f:=AC eAt5) (fun _=>rfl) hO hw6.ok 2 rfl hjx10.1 hrx10 ?_;cbv;refine Zi hE eAu5 ex9 ?_;cbv;refine B8 hE eAu2 h fun x15 h=>?_;cbv;refine Ji hE trivial ?_;cbv;refine PH (f:=eAt5) hE KF (by decide) (l:=x10) (m:=[x15]) (.refl _) (.lstc (.eq (eAu2 x15) (.refl _)) (.lst0)) h fun l16 h=>?_;cbv;refine LX hE hO 0 rfl fun t12 H hO htt12=>?_;cbv;refine Qb hE (f:=AC eAt5) hO hw6.ok 2 rfl hjx10 ?_;cbv;refine Sn hE (f:=AC eAt5) (tz:=1) (x':=(l16,t12)) (fun _=>⟨.sl (lst eAt5 l16) t12,.refl _,rfl,rfl,rfl⟩) (by decide) hO hw6.ok 2 rfl hjx10 fun H hO=>?_;cbv;obtain⟨l14,hu,h⟩:=bind_some h;obtain⟨w13,hqw13,hw13,hO⟩:∃w0:Rw A4,w0.q=w6.q∧BN w0 l14∧C0 Eq H0 (cb b4 [.own w0.q.id w0.q.lo w0.q.n]:: .blk w0.q.id (.arr 1 (w0.q.pre++lst (AC eAt5) w0.row++w0.q.rest))::cb b1 [.sl [] .nil]::(FN w0++[])) H:=⟨(⟨w6.q,w6.row.set (x9.Var).toNat (l16,t12)⟩:Rw A4),rfl,by rw[QI hu];exact hw6.put _ htt12,(by have e:=hbx10 (l16,t12) H [cb b4 [.own w6.q.id w6.q.lo w6.q.n],.blk w6.q.id (.arr 1 (w6.q.pre++lst (AC eAt5) (w6.row.set (x9.Var).toNat (l16,t12))++w6.q.rest)),cb b1 [.sl [] .nil]] hO;simp only[List.cons_append,List.nil_append,List.append_nil]at e ⊢;exact e)⟩
    try rw[←hqw13]
    cases h;exact⟨_,w13,rfl,.e2 (.e4 .z),rfl,hw13,hO⟩
   cbv;cases h;exact⟨_,w6,rfl,.e2 (.e4 .z),rfl,hw6,hO⟩
  cbv;cases h;exact⟨_,_,rfl,⟨w6,hw6,rfl,rfl,hO⟩,.e2 .z,rfl⟩
 ·exact .e2 (.e4 .z)
 ·exact⟨hw2,hO⟩
 clear hx;rintro e l H ⟨w17,hw17,rfl,rfl,hO⟩;cbv;refine RK hE (e:=eAv5) eAv8 hO hw17 0 1 rfl rfl rfl (by decide) fun H hO=>?_;have hO:C0 Eq H0 [cb b4 [sr eAv5 s7],cb b1 [.sl [] .nil]] H:=hO.rdrop (w:=w17) (T1:=[]) (T2:=[]) 2 rfl;cbv;refine B2 hE hO 0 rfl ?_;cbv;refine A9 hE hO 1 rfl rfl fun H hO=>?_;cbv;refine B2 hE hO 1 rfl ?_;cbv;cases h;exact hK hO (.refl _)
def cf163 :Cf:=⟨[],[(5,21)],[],[],[],[]⟩
theorem c163 (N aA aC aF aH r) (h:Dt N aA aC aF aH=some r):B4 prog 163 [(C3 aA),sr eAt5 aC,sr eAt6 aF,vi aH] (sr eAt8 r):=by
 unfold Dt at h
 refine I6 cf163 func163 call163 ntmps163 ?_;intro E H0 K hE hK hO;cbv;replace hO:=hO.tl0 (t:=.nil) rfl;obtain⟨s3,hx,h⟩:=bind_some h;refine K6 cf163 hE L9 (γ:=D1) (fun s1 g=>[(1,.v (sr eAt5 aC)),(2,.v (sr eAt6 aF)),(4,.v (.eref (D3 aA) 0)),(9,.v (.sl (lst eAt8 s1.1) g)),fi 10 s1.2]) (fun s1 g H1=>K4 g∧C0 Eq H0 [.tl g] H1) (fun x e l H1=>∃u1:D1,K4 u1∧e= .exit 0∧l=[(9,.v (.sl (lst eAt8 x) u1))]∧C0 Eq H0 [.tl u1] H1) (by kernel_rfl) ?_ .nil hx ?_ ?_ ?_
 ·rintro s1 t2 H o ⟨ht2,hO⟩ h;clear hx;cbv;refine D5 hE ?_;cbv;refine A7 hE h (fun _ h=>?_) fun _ h=>?_
  ·cbv;refine B8 hE eAu2 h fun x4 h=>?_;cbv;refine A7 hE h (fun _ h=>?_) fun _ h=>?_
   ·cbv;refine D0 hE (g:=fun r5=>(El r5)) h (c207 N aC aF s1.2) (.refl _) fun r5 h=>?_;cbv;refine B8 hE eAu2 h fun x6 h=>?_;cbv;refine A5 hE h (c53 N aA.cS r5 aA.Var x6) (.refl _) fun r7 h=>?_;cbv;refine A7 hE h (fun _ h=>?_) fun _ h=>?_
    ·cbv;refine As (f:=eAt8) hE Z8 (by decide) hO 0 rfl ht2 (l:=s1.1) (m:=[[(⟨aA.Var,s1.2⟩:A2)]]) (.refl _) (.lstc (.eq (eAu8 ([(⟨aA.Var,s1.2⟩:A2)])) (.lit _ (F9 ((eAu5 (⟨aA.Var,s1.2⟩:A2)).symm) (E2)))) (.lst0)) h fun l9 t8 H hO ht8 h=>?_;cbv;cases h;exact⟨_,t8,rfl,.e rfl (.e4 .z),rfl,ht8,hO⟩
    cbv;cases h;exact⟨_,t2,rfl,.e rfl (.e4 .z),rfl,ht2,hO⟩
   cbv;cases h;exact⟨_,t2,rfl,.e rfl (.e4 .z),rfl,ht2,hO⟩
  cbv;cases h;exact⟨_,_,rfl,⟨t2,ht2,rfl,rfl,hO⟩,.e rfl .z,rfl⟩
 ·exact .e rfl (.e2 (.v (.slt _ (.lst0)) (.e rfl (.z))))
 ·exact⟨trivial,hO⟩
 clear hx;rintro e l H ⟨t10,ht10,rfl,rfl,hO⟩;cbv;cases h;exact hK hO (.ro _ _)
def cf208 :Cf:=⟨[],[(3,16),(3000004,0),(3000004,1),(3000004,3),(3000004,6),(3000004,8),(3000004,9),(3000005,0),(3000005,1),(3000005,3),(3000005,6),(3000005,8),(3000005,9)],[],[2000004,2000005],[],[]⟩
set_option maxHeartbeats 2000000 in
theorem c208 (N aD aF r) (h:G4 N aD aF=some r):B4 prog 208 [sr eAt6 aD,sr eAt6 aF] (sr eAt6 r):=by
 unfold G4 at h
 refine I6 cf208 func208 call208 ntmps208 ?_;intro E H0 K hE hK hO;cbv;replace hO:=hO.tl0 (t:=.nil) rfl;obtain⟨s3,hx,h⟩:=bind_some h;refine K6 cf208 hE L9 (γ:=D1) (fun s1 g=>[(0,.v (sr eAt6 s1.1)),(1,.v (sr eAt6 s1.2.1)),(5,.v (.sl (lst eAt6 s1.2.2) g))]) (fun s1 g H1=>K4 g∧C0 Eq H0 [.tl g] H1) (fun x e l H1=>∃u1:D1,K4 u1∧e= .exit 0∧l=[(5,.v (.sl (lst eAt6 x) u1))]∧C0 Eq H0 [.tl u1] H1) (by kernel_rfl) ?_ .nil hx ?_ ?_ ?_
 ·rintro s1 t2 H o ⟨ht2,hO⟩ h;clear hx;cbv;refine D5 hE ?_;cbv;refine D5 hE ?_;cbv;refine A7 hE h (fun _ h=>?_) fun _ h=>?_
  ·cbv;refine D5 hE ?_;cbv;refine D5 hE ?_;cbv;refine A7 hE h (fun _ h=>?_) fun _ h=>?_
   ·cbv;obtain⟨s4,hx,h⟩:=bind_some h;refine T5 cf208 hE L9 (fun e l H1=>∃u1:D1,K4 u1∧e= .normal∧l=[(0,.v (sr eAt6 s4.1)),(1,.v (sr eAt6 s1.2.1)),(5,.v (.sl (lst eAt6 s4.2) u1))]∧C0 Eq H0 [.tl u1] H1) (by kernel_rfl) ?_ ?_
    ·clear h;have h:=hx;clear hx;cbv;obtain⟨x85,ex85,h⟩:=bind_some h;obtain⟨l206,el206,h⟩:=bind_some h;obtain⟨l285,el285,h⟩:=bind_some h
     repeat' first|refine And.intro ?_ ?_|(refine B8 hE eAu5 (EN ex85) fun x85 hh=>?_;obtain rfl:=G3 hh;cbv)|(refine As (f:=eAt6) hE I0 (by decide) hO 0 rfl ht2 (l:=s1.2.2) (m:=[x85]) (.refl _) (.lstc (.eq (eAu5 x85) (.refl _)) (.lst0)) (EN el206) fun l206 t205 H hO ht205 hh=>?_;obtain rfl:=G3 hh;cbv)|(refine Gz hE (f:=eAt6) I0 (EN el285) fun l285 t286 hh=>?_;obtain rfl:=G3 hh;cbv)|(have h:=G3 h;subst h;exact⟨_,⟨t205,ht205,rfl,rfl,hO⟩,.v (.ro _ _) (.e2 .z),rfl⟩)
    clear hx;rintro e l H ⟨t445,ht445,rfl,rfl,hO⟩;cbv;cases h;exact⟨_,t445,rfl,.e rfl (.e2 .z),rfl,ht445,hO⟩
   cbv;refine A7 hE h (fun _ h=>?_) fun _ h=>?_
   ·cbv;refine B8 hE eAu5 h fun x446 h=>?_;cbv;refine B8 hE eAu5 h fun x447 h=>?_;cbv;refine A7 hE h (fun _ h=>?_) fun _ h=>?_
    ·cbv;obtain⟨s448,hx,h⟩:=bind_some h;refine T5 cf208 hE L9 (fun e l H1=>∃u1:D1,K4 u1∧e= .normal∧l=[(0,.v (sr eAt6 s448.1)),(1,.v (sr eAt6 s1.2.1)),(5,.v (.sl (lst eAt6 s448.2) u1))]∧C0 Eq H0 [.tl u1] H1) (by kernel_rfl) ?_ ?_
     ·clear h;have h:=hx;clear hx;cbv;obtain⟨x529,ex529,h⟩:=bind_some h;obtain⟨l650,el650,h⟩:=bind_some h;obtain⟨l729,el729,h⟩:=bind_some h
      repeat' first|refine And.intro ?_ ?_|(refine B8 hE eAu5 (EN ex529) fun x529 hh=>?_;obtain rfl:=G3 hh;cbv)|(refine As (f:=eAt6) hE I0 (by decide) hO 0 rfl ht2 (l:=s1.2.2) (m:=[x529]) (.refl _) (.lstc (.eq (eAu5 x529) (.refl _)) (.lst0)) (EN el650) fun l650 t649 H hO ht649 hh=>?_;obtain rfl:=G3 hh;cbv)|(refine Gz hE (f:=eAt6) I0 (EN el729) fun l729 t730 hh=>?_;obtain rfl:=G3 hh;cbv)|(have h:=G3 h;subst h;exact⟨_,⟨t649,ht649,rfl,rfl,hO⟩,.v (.ro _ _) (.e2 .z),rfl⟩)
     clear hx;rintro e l H ⟨t889,ht889,rfl,rfl,hO⟩;cbv;cases h;exact⟨_,t889,rfl,.e rfl (.e2 .z),rfl,ht889,hO⟩
    cbv;obtain⟨s890,hx,h⟩:=bind_some h;refine T5 cf208 hE L9 (fun e l H1=>∃u1:D1,K4 u1∧e= .normal∧l=[(0,.v (sr eAt6 s1.1)),(1,.v (sr eAt6 s890.1)),(5,.v (.sl (lst eAt6 s890.2) u1))]∧C0 Eq H0 [.tl u1] H1) (by kernel_rfl) ?_ ?_
    ·clear h;have h:=hx;clear hx;cbv;obtain⟨x971,ex971,h⟩:=bind_some h;obtain⟨l1092,el1092,h⟩:=bind_some h;obtain⟨l1171,el1171,h⟩:=bind_some h
     repeat' first|refine And.intro ?_ ?_|(refine B8 hE eAu5 (EN ex971) fun x971 hh=>?_;obtain rfl:=G3 hh;cbv)|(refine As (f:=eAt6) hE I0 (by decide) hO 0 rfl ht2 (l:=s1.2.2) (m:=[x971]) (.refl _) (.lstc (.eq (eAu5 x971) (.refl _)) (.lst0)) (EN el1092) fun l1092 t1091 H hO ht1091 hh=>?_;obtain rfl:=G3 hh;cbv)|(refine Gz hE (f:=eAt6) I0 (EN el1171) fun l1171 t1172 hh=>?_;obtain rfl:=G3 hh;cbv)|(have h:=G3 h;subst h;exact⟨_,⟨t1091,ht1091,rfl,rfl,hO⟩,.e rfl (.v (.ro _ _) (.e rfl (.z))),rfl⟩)
    clear hx;rintro e l H ⟨t1331,ht1331,rfl,rfl,hO⟩;cbv;cases h;exact⟨_,t1331,rfl,.e rfl (.e2 .z),rfl,ht1331,hO⟩
   cbv;obtain⟨s1332,hx,h⟩:=bind_some h;refine T5 cf208 hE L9 (fun e l H1=>∃u1:D1,K4 u1∧e= .normal∧l=[(0,.v (sr eAt6 s1.1)),(1,.v (sr eAt6 s1332.1)),(5,.v (.sl (lst eAt6 s1332.2) u1))]∧C0 Eq H0 [.tl u1] H1) (by kernel_rfl) ?_ ?_
   ·clear h;have h:=hx;clear hx;cbv;obtain⟨x1413,ex1413,h⟩:=bind_some h;obtain⟨l1534,el1534,h⟩:=bind_some h;obtain⟨l1613,el1613,h⟩:=bind_some h
    repeat' first|refine And.intro ?_ ?_|(refine B8 hE eAu5 (EN ex1413) fun x1413 hh=>?_;obtain rfl:=G3 hh;cbv)|(refine As (f:=eAt6) hE I0 (by decide) hO 0 rfl ht2 (l:=s1.2.2) (m:=[x1413]) (.refl _) (.lstc (.eq (eAu5 x1413) (.refl _)) (.lst0)) (EN el1534) fun l1534 t1533 H hO ht1533 hh=>?_;obtain rfl:=G3 hh;cbv)|(refine Gz hE (f:=eAt6) I0 (EN el1613) fun l1613 t1614 hh=>?_;obtain rfl:=G3 hh;cbv)|(have h:=G3 h;subst h;exact⟨_,⟨t1533,ht1533,rfl,rfl,hO⟩,.e rfl (.v (.ro _ _) (.e rfl (.z))),rfl⟩)
   clear hx;rintro e l H ⟨t1773,ht1773,rfl,rfl,hO⟩;cbv;cases h;exact⟨_,t1773,rfl,.e rfl (.e2 .z),rfl,ht1773,hO⟩
  cbv;cases h;exact⟨_,_,rfl,⟨t2,ht2,rfl,rfl,hO⟩,.e rfl .z,rfl⟩
 ·exact .e2 (.v (.slt _ (.lst0)) (.z))
 ·exact⟨trivial,hO⟩
 clear hx;rintro e l H ⟨t1774,ht1774,rfl,rfl,hO⟩;cbv;cases h;exact hK hO (.ro _ _)
def cf248 :Cf:=⟨[],[(6,8)],[],[],[],[]⟩
theorem c248 (N aD aF r) (h:Du N aD aF=some r):B4 prog 248 [sr eAt6 aD,sr eAt6 aF] (.bool r):=by
 unfold Du at h
 refine I6 cf248 func248 call248 ntmps248 ?_;intro E H0 K hE hK hO;cbv;refine D5 hE ?_;cbv;refine D5 hE ?_;cbv;refine A7 hE h (fun _ h=>?_) fun _ h=>?_
 ·cbv;cases h;exact hK hO (.refl _)
 cbv;obtain⟨s2,hx,h⟩:=bind_some h;refine E7 cf248 hE L9 (fun s1=>[(0,.v (sr eAt6 aD)),(1,.v (sr eAt6 aF)),fi 5 s1]) (fun s1 H1=>C0 Eq H0 [] H1) (fun x e l H1=>match(generalizing:=false) x with| .inl y=>e= .exit 0∧l=[]∧C0 Eq H0 [] H1| .inr y=>e= .ret∧l=[(4,.b false)]∧C0 Eq H0 [] H1) (by kernel_rfl) ?_ hx ?_ hO ?_
 ·intro s1 H o hO h;clear hx;cbv;refine D5 hE ?_;cbv;refine A7 hE h (fun _ h=>?_) fun _ h=>?_
  ·cbv;refine B8 hE eAu5 h fun x3 h=>?_;cbv;refine B8 hE eAu5 h fun x4 h=>?_;cbv;refine A7 hE h (fun _ h=>?_) fun _ h=>?_
   ·cbv;cases h;exact⟨_,_,rfl,⟨rfl,rfl,hO⟩,.b rfl (.z),rfl⟩
   cbv;cases h;exact⟨_,rfl,.e rfl (.e2 .z),rfl,hO⟩
  cbv;cases h;exact⟨_,_,rfl,⟨rfl,rfl,hO⟩,.z,rfl⟩
 ·exact .e rfl (.e2 .z)
 clear hx
 rcases s2 with y5|y6
 ·rintro e l H ⟨rfl,rfl,hO⟩;cbv;cases h;exact hK hO (.refl _)
 rintro e l H ⟨rfl,rfl,hO⟩;cbv;cases h;exact hK hO (.refl _)
theorem c209 (N aC aG r) (h:T4 N aC aG=some r):Aj1 prog 209 [sr eAt6 aG] (lst eAt8 aC) (lst eAt8 r):=by
 unfold T4 at h
 intro H0 tl0 htl0 hap;refine Xd (T:=TT) cf0 L9 func209 (by rfl) (by kernel_rfl) call209 ntmps209 (by rfl) (by rfl) ?_;intro E K hE hK;have hO:C0 Eq (E4 H0 tl0) [.tl tl0] H0:=C0.startT hap;cbv;obtain⟨s2,hx,h⟩:=bind_some h;refine E7 cf0 hE L9 (fun s1=>[(0,.v (.sl (lst eAt8 aC) tl0)),(1,.v (sr eAt6 aG)),fi 5 s1]) (fun s1 H1=>C0 Eq (E4 H0 tl0) [.tl tl0] H1) (fun x e l H1=>match(generalizing:=false) x with| .inl y=>e= .exit 0∧l=[(0,.v (.sl (lst eAt8 aC) tl0)),(1,.v (sr eAt6 aG))]∧C0 Eq (E4 H0 tl0) [.tl tl0] H1| .inr y=>e= .ret∧l=[(4,.v (.sl (lst eAt8 aC) tl0))]∧C0 Eq (E4 H0 tl0) [.tl tl0] H1) (by kernel_rfl) ?_ hx ?_ hO ?_
 ·intro s1 H o hO h;clear hx;cbv;refine D5 hE ?_;cbv;refine A7 hE h (fun _ h=>?_) fun _ h=>?_
  ·cbv;refine B8 hE eAu8 h fun x3 h=>?_;cbv;refine A5 hE h (c248 N x3 aG) (.refl _) fun r4 h=>?_;cbv;refine A7 hE h (fun _ h=>?_) fun _ h=>?_
   ·cbv;cases h;exact⟨_,_,rfl,⟨rfl,rfl,hO⟩,.e rfl .z,rfl⟩
   cbv;cases h;exact⟨_,rfl,.e rfl (.e2 .z),rfl,hO⟩
  cbv;cases h;exact⟨_,_,rfl,⟨rfl,rfl,hO⟩,.e2 .z,rfl⟩
 ·exact .e rfl (.e2 .z)
 clear hx
 rcases s2 with y5|y8
 ·rintro e l H ⟨rfl,rfl,hO⟩;cbv;refine As (f:=eAt8) hE Z8 (by decide) hO 0 rfl htl0 (l:=aC) (m:=[aG]) (.refl _) (.lstc (.eq (eAu8 aG) (.refl _)) (.lst0)) h fun l7 t6 H hO ht6 h=>?_;cbv;cases h;exact hK _ _ _ 0 _ (.refl _) (by rfl) ht6 hO
 rintro e l H ⟨rfl,rfl,hO⟩;cbv;cases h;exact hK _ _ _ 0 _ (.refl _) (by rfl) htl0 hO
theorem c249 (N aG bB r) (h:Ec N aG bB=some r):B4 prog 249 [sr eAt6 aG,vi bB] (.bool r):=by
 unfold Ec at h
 refine I6 cf0 func249 call249 ntmps249 ?_;intro E H0 K hE hK hO;cbv;obtain⟨s2,hx,h⟩:=bind_some h;refine E7 cf0 hE L9 (fun s1=>[(0,.v (sr eAt6 aG)),fi 1 bB,fi 5 s1]) (fun s1 H1=>C0 Eq H0 [] H1) (fun x e l H1=>match(generalizing:=false) x with| .inl y=>e= .exit 0∧l=[]∧C0 Eq H0 [] H1| .inr y=>e= .ret∧l=[(4,.b true)]∧C0 Eq H0 [] H1) (by kernel_rfl) ?_ hx ?_ hO ?_
 ·intro s1 H o hO h;clear hx;cbv;refine D5 hE ?_;cbv;refine A7 hE h (fun _ h=>?_) fun _ h=>?_
  ·cbv;refine B8 hE eAu5 h fun x3 h=>?_;cbv;refine A7 hE h (fun _ h=>?_) fun _ h=>?_
   ·cbv;cases h;exact⟨_,_,rfl,⟨rfl,rfl,hO⟩,.b rfl (.z),rfl⟩
   cbv;cases h;exact⟨_,rfl,.e rfl (.e2 .z),rfl,hO⟩
  cbv;cases h;exact⟨_,_,rfl,⟨rfl,rfl,hO⟩,.z,rfl⟩
 ·exact .e rfl (.e2 .z)
 clear hx
 rcases s2 with y4|y5
 ·rintro e l H ⟨rfl,rfl,hO⟩;cbv;cases h;exact hK hO (.refl _)
 rintro e l H ⟨rfl,rfl,hO⟩;cbv;cases h;exact hK hO (.refl _)
theorem c210 (N aD aF r) (h:Ck N aD aF=some r):B4 prog 210 [sr eAt6 aD,sr eAt6 aF] (.bool r):=by
 unfold Ck at h
 refine I6 cf0 func210 call210 ntmps210 ?_;intro E H0 K hE hK hO;cbv;obtain⟨s2,hx,h⟩:=bind_some h;refine E7 cf0 hE L9 (fun s1=>[(0,.v (sr eAt6 aD)),(1,.v (sr eAt6 aF)),fi 5 s1]) (fun s1 H1=>C0 Eq H0 [] H1) (fun x e l H1=>match(generalizing:=false) x with| .inl y=>e= .exit 0∧l=[]∧C0 Eq H0 [] H1| .inr y=>e= .ret∧l=[(4,.b false)]∧C0 Eq H0 [] H1) (by kernel_rfl) ?_ hx ?_ hO ?_
 ·intro s1 H o hO h;clear hx;cbv;refine D5 hE ?_;cbv;refine A7 hE h (fun _ h=>?_) fun _ h=>?_
  ·cbv;refine B8 hE eAu5 h fun x3 h=>?_;cbv;refine A5 hE h (c249 N aF x3.At) (.refl _) fun r4 h=>?_;cbv;refine A7 hE h (fun _ h=>?_) fun _ h=>?_
   ·cbv;cases h;exact⟨_,_,rfl,⟨rfl,rfl,hO⟩,.b rfl (.z),rfl⟩
   cbv;cases h;exact⟨_,rfl,.e rfl (.e2 .z),rfl,hO⟩
  cbv;cases h;exact⟨_,_,rfl,⟨rfl,rfl,hO⟩,.z,rfl⟩
 ·exact .e rfl (.e2 .z)
 clear hx
 rcases s2 with y5|y6
 ·rintro e l H ⟨rfl,rfl,hO⟩;cbv;cases h;exact hK hO (.refl _)
 rintro e l H ⟨rfl,rfl,hO⟩;cbv;cases h;exact hK hO (.refl _)
def cf211 :Cf:=⟨[],[(4,29)],[],[],[],[]⟩
theorem c211 (N aA aC aF aG r) (h:Fa N aA aC aF aG=some r):B4 prog 211 [(C3 aA),sr eAt5 aC,sr eAt6 aF,sr eAt6 aG] (.bool r):=by
 unfold Fa at h
 refine I6 cf211 func211 call211 ntmps211 ?_;intro E H0 K hE hK hO;cbv;refine B8 hE eAu5 h fun x1 h=>?_;cbv;obtain⟨s3,hx,h⟩:=bind_some h;refine E7 cf211 hE L9 (fun s2=>[(1,.v (sr eAt5 aC)),(2,.v (sr eAt6 aF)),(3,.v (sr eAt6 aG)),(4,.v (.eref (D3 aA) 0)),fi 9 s2]) (fun s2 H1=>C0 Eq H0 [] H1) (fun x e l H1=>match(generalizing:=false) x with| .inl y=>e= .exit 0∧l=[]∧C0 Eq H0 [] H1| .inr y=>e= .ret∧l=[(8,.b false)]∧C0 Eq H0 [] H1) (by kernel_rfl) ?_ hx ?_ hO ?_
 ·intro s2 H o hO h;clear hx;cbv;refine D5 hE ?_;cbv;refine B8 hE eAu5 h fun x4 h=>?_;cbv;refine A7 hE h (fun _ h=>?_) fun _ h=>?_
  ·cbv;refine D0 hE (g:=fun r5=>.bool r5) h (c249 N aG s2) (.refl _) fun r5 h=>?_;cbv;refine A7 hE h (fun _ h=>?_) fun _ h=>?_
   ·cbv;refine B8 hE eAu2 h fun x6 h=>?_;cbv;refine A7 hE h (fun _ h=>?_) fun _ h=>?_
    ·cbv;refine D0 hE (g:=fun r7=>sr eAt6 r7) h (c208 N aF aG) (.refl _) fun r7 h=>?_;cbv;refine D0 hE (g:=fun r8=>(El r8)) h (c207 N aC r7 s2) (.refl _) fun r8 h=>?_;cbv;refine B8 hE eAu2 h fun x9 h=>?_;cbv;refine A5 hE h (c53 N aA.cS r8 aA.Var x9) (.refl _) fun r10 h=>?_;cbv;refine A7 hE h (fun _ h=>?_) fun _ h=>?_
     ·cbv;cases h;exact⟨_,_,rfl,⟨rfl,rfl,hO⟩,.b rfl (.z),rfl⟩
     cbv;cases h;exact⟨_,rfl,.e rfl (.e4 .z),rfl,hO⟩
    cbv;cases h;exact⟨_,rfl,.e rfl (.e4 .z),rfl,hO⟩
   cbv;cases h;exact⟨_,rfl,.e rfl (.e4 .z),rfl,hO⟩
  cbv;cases h;exact⟨_,_,rfl,⟨rfl,rfl,hO⟩,.z,rfl⟩
 ·exact .e rfl (.e4 .z)
 clear hx
 rcases s3 with y11|y12
 ·rintro e l H ⟨rfl,rfl,hO⟩;cbv;cases h;exact hK hO (.refl _)
 rintro e l H ⟨rfl,rfl,hO⟩;cbv;cases h;exact hK hO (.refl _)
def cf168 :Cf:=⟨[],[(4,22),(5,10)],[],[],[],[]⟩
theorem c168 (N aA aC aF aG r)(h:Ds N aA aC aF aG=some r):B4 prog 168 [(C3 aA),sr eAt5 aC,sr eAt6 aF,sr eAt6 aG] (.bool r):=by
 unfold Ds at h
 refine I6 cf168 func168 call168 ntmps168 ?_;intro E H0 K hE hK hO;cbv;refine A7 hE h (fun _ h=>?_) fun _ h=>?_
 ·cbv;refine A5 hE h (c211 N aA aC aF aG) (.refl _) fun r1 h=>?_;cbv;cases h;exact hK hO (.refl _)
 cbv;refine A7 hE h (fun _ h=>?_) fun _ h=>?_
 ·cbv;refine D5 hE ?_;cbv;refine B8 hE eAu5 h fun x2 h=>?_;cbv;refine B8 hE eAu2 h fun x3 h=>?_;cbv;refine B8 hE eAu5 h fun x4 h=>?_;cbv;refine B8 hE eAu2 h fun x5 h=>?_;cbv;cases h;exact hK hO (.refl _)
 cbv;refine D0 hE (g:=fun r6=>sr eAt6 r6) h (c208 N aF aG) (.refl _) fun r6 h=>?_;cbv;refine D5 hE ?_;cbv;refine D0 hE (g:=fun r7=>(El r7)) h (c207 N aC r6 (Ar.len aC)) (.refl _) fun r7 h=>?_;cbv;refine A5 hE h (c53 N aA.cS r7 (-1) (⟨0,0,0,0,[]⟩:A4)) (.cons (.refl _) (.cons (.refl _) (.cons (.refl _) (.cons (.agg (.cons (.refl _) (.cons (.refl _) (.cons (.refl _) (.cons (.refl _) (.cons (.lit _ (E2)) (.refl _))))))) (.refl _))))) fun r8 h=>?_;cbv;cases h;exact hK hO (.refl _)
def cf129 :Cf:=⟨[],[(17,7)],[],[],[],[]⟩
def Uu (N n:Nat):Prop:=∀(aA:A0) (aC:List A4) (aF:List A2) (aH:Int) (r:(List (List A2))),K7 N n aA aC aF aH=some r→B4 prog 129 [(C3 aA),sr eAt5 aC,sr eAt6 aF,vi aH] (sr eAt8 r)
def cf164 :Cf:=⟨[],[(9,14)],[],[],[],[]⟩
def Ag2 (N n:Nat):Prop:=∀(aV:List A0) (aC:List A4) (aF:List A2) (aH:Int) (r:(List (List A2))),Aa N n aV aC aF aH=some r→B4 prog 164 [sr eAu0 aV,sr eAt5 aC,sr eAt6 aF,vi aH] (sr eAt8 r)
def Ap6 (N n:Nat):Prop:=∀(aV:List A0) (aC:List A4) (aF:List A2) (aH:Int) (r:(List (List A2))),Ed N n aV aC aF aH=some r→B4 prog 165 [sr eAu0 aV,sr eAt5 aC,sr eAt6 aF,vi aH] (sr eAt8 r)
def cf166 :Cf:=⟨[],[(13,8),(14,10)],[],[],[],[]⟩
def Ap5 (N n:Nat):Prop:=∀(aV:List A0) (aC:List A4) (aF:List A2) (aH:Int) (r:(List (List A2))),Ee N n aV aC aF aH=some r→B4 prog 166 [sr eAu0 aV,sr eAt5 aC,sr eAt6 aF,vi aH] (sr eAt8 r)
def cf167 :Cf:=⟨[],[(8,13)],[],[],[],[]⟩
def Ag1 (N n:Nat):Prop:=∀(aA:A0) (aC:List A4) (aF:List A2) (aH:Int) (r:(List (List A2))),W7 N n aA aC aF aH=some r→B4 prog 167 [(C3 aA),sr eAt5 aC,sr eAt6 aF,vi aH] (sr eAt8 r)
theorem k129 (N n:Nat) (ih129:Uu N n) (ih164:Ag2 N n) (ih165:Ap6 N n) (ih166:Ap5 N n) (ih167:Ag1 N n):Uu N (n+1):=by
 intro aA aC aF aH r h
 unfold K7 at h
 refine I6 cf129 func129 call129 ntmps129 ?_;intro E H0 K hE hK hO;cbv;refine A7 hE h (fun _ h=>?_) fun _ h=>?_
 ·cbv;refine A5 hE h (c163 N aA aC aF aH) (.refl _) fun r1 h=>?_;cbv;cases h;exact hK hO (.refl _)
 cbv;refine A7 hE h (fun _ h=>?_) fun _ h=>?_
 ·cbv;refine A5 hE h (ih164 aA.cR aC aF aH) (.refl _) fun r2 h=>?_;cbv;cases h;exact hK hO (.refl _)
 cbv;refine A7 hE h (fun _ h=>?_) fun _ h=>?_
 ·cbv;refine A5 hE h (ih165 aA.cR aC aF aH) (.refl _) fun r3 h=>?_;cbv;cases h;exact hK hO (.refl _)
 cbv;refine A7 hE h (fun _ h=>?_) fun _ h=>?_
 ·cbv;refine A5 hE h (ih166 aA.cR aC aF aH) (.refl _) fun r4 h=>?_;cbv;cases h;exact hK hO (.refl _)
 cbv;refine A7 hE h (fun _ h=>?_) fun _ h=>?_
 ·cbv;refine A5 hE h (ih167 aA aC aF aH) (.refl _) fun r5 h=>?_;cbv;cases h;exact hK hO (.refl _)
 cbv;refine B8 hE eAt9 h fun x6 h=>?_;cbv;refine A5 hE h (ih129 x6 aC aF aH) (.refl _) fun r7 h=>?_;cbv;replace hO:=hO.tl0 (t:=.nil) rfl;obtain⟨s10,hx,h⟩:=bind_some h;refine K6 cf129 hE L9 (γ:=D1) (fun s8 g=>[(1,.v (sr eAt5 aC)),(2,.v (sr eAt6 aF)),(4,.v (.eref (D3 aA) 0)),(9,.v (sr eAt8 r7)),(10,.v (.sl (lst eAt8 s8.1) g)),fi 11 s8.2]) (fun s8 g H1=>K4 g∧C0 Eq H0 [.tl g] H1) (fun x e l H1=>∃u1:D1,K4 u1∧e= .exit 1∧l=[(10,.v (.sl (lst eAt8 x) u1))]∧C0 Eq H0 [.tl u1] H1) (by kernel_rfl) ?_ .nil hx ?_ ?_ ?_
 ·rintro s8 t9 H o ⟨ht9,hO⟩ h;clear hx;cbv;refine D5 hE ?_;cbv;refine A7 hE h (fun _ h=>?_) fun _ h=>?_
  ·cbv;refine B8 hE eAu8 h fun x11 h=>?_;cbv;refine A5 hE h (c168 N aA aC aF x11) (.refl _) fun r12 h=>?_;cbv;refine A7 hE h (fun _ h=>?_) fun _ h=>?_
   ·cbv;refine B8 hE eAu8 h fun x13 h=>?_;cbv;refine As (f:=eAt8) hE Z8 (by decide) hO 0 rfl ht9 (l:=s8.1) (m:=[x13]) (.refl _) (.lstc (.eq (eAu8 x13) (.refl _)) (.lst0)) h fun l15 t14 H hO ht14 h=>?_;cbv;cases h;exact⟨_,t14,rfl,.e2 (.e4 .z),rfl,ht14,hO⟩
   cbv;cases h;exact⟨_,t9,rfl,.e2 (.e4 .z),rfl,ht9,hO⟩
  cbv;cases h;exact⟨_,_,rfl,⟨t9,ht9,rfl,rfl,hO⟩,.e rfl .z,rfl⟩
 ·exact .e4 (.v (.slt _ (.lst0)) (.e rfl (.z)))
 ·exact⟨trivial,hO⟩
 clear hx;rintro e l H ⟨t16,ht16,rfl,rfl,hO⟩;cbv;cases h;exact hK hO (.ro _ _)
theorem k164 (N n:Nat) (ih129:Uu N n) (ih164:Ag2 N n):Ag2 N (n+1):=by
 intro aV aC aF aH r h
 unfold Aa at h
 refine I6 cf164 func164 call164 ntmps164 ?_;intro E H0 K hE hK hO;cbv;refine B8 hE eAt9 h fun x1 h=>?_;cbv;refine A5 hE h (ih129 x1 aC aF aH) (.refl _) fun r2 h=>?_;cbv;refine D5 hE ?_;cbv;refine A7 hE h (fun _ h=>?_) fun _ h=>?_
 ·cbv;cases h;exact hK hO (.refl _)
 cbv;replace hO:=hO.tl0 (t:=.nil) rfl;obtain⟨s5,hx,h⟩:=bind_some h;refine K6 cf164 hE L9 (γ:=D1) (fun s3 g=>[(0,.v (sr eAu0 aV)),(1,.v (sr eAt5 aC)),(2,.v (sr eAt6 aF)),(9,.v (sr eAt8 r2)),(10,.v (.sl (lst eAt8 s3.1) g)),fi 11 s3.2]) (fun s3 g H1=>K4 g∧C0 Eq H0 [.tl g] H1) (fun x e l H1=>∃u1:D1,K4 u1∧e= .exit 0∧l=[(10,.v (.sl (lst eAt8 x) u1))]∧C0 Eq H0 [.tl u1] H1) (by kernel_rfl) ?_ .nil hx ?_ ?_ ?_
 ·rintro s3 t4 H o ⟨ht4,hO⟩ h;clear hx;cbv;refine D5 hE ?_;cbv;refine A7 hE h (fun _ h=>?_) fun _ h=>?_
  ·cbv;refine B8 hE eAu8 h fun x6 h=>?_;cbv;refine Gz hE (f:=eAu0) Hj h fun l7 t8 h=>?_;cbv;refine D0 hE (g:=fun r9=>sr eAt6 r9) h (c208 N aF x6) (.refl _) fun r9 h=>?_;cbv;refine D5 hE ?_;cbv;refine B8 hE eAu5 h fun x10 h=>?_;cbv;refine A5 hE h (ih164 l7 aC r9 (ar .add .i64 x10.At 1)) (.cons (.ro _ _) (.refl _)) fun r11 h=>?_;cbv;obtain⟨s14,hx,h⟩:=bind_some h;refine K6 cf164 hE L9 (γ:=D1) (fun s12 g=>[(0,.v (sr eAu0 aV)),(1,.v (sr eAt5 aC)),(2,.v (sr eAt6 aF)),(9,.v (sr eAt8 r2)),(10,.v (.sl (lst eAt8 s12.1) g)),fi 11 s3.2,(12,.v (sr eAt6 x6)),(13,.v (sr eAt8 r11)),fi 14 s12.2]) (fun s12 g H1=>K4 g∧C0 Eq H0 [.tl g] H1) (fun x e l H1=>∃u1:D1,K4 u1∧e= .exit 2∧l=[(0,.v (sr eAu0 aV)),(1,.v (sr eAt5 aC)),(2,.v (sr eAt6 aF)),(9,.v (sr eAt8 r2)),(10,.v (.sl (lst eAt8 x) u1)),fi 11 s3.2]∧C0 Eq H0 [.tl u1] H1) (by kernel_rfl) ?_ t4 hx ?_ ?_ ?_
   ·rintro s12 t13 H o ⟨ht13,hO⟩ h;clear hx;cbv;refine D5 hE ?_;cbv;refine A7 hE h (fun _ h=>?_) fun _ h=>?_
    ·cbv;refine B8 hE eAu8 h fun x15 h=>?_;cbv;refine A5 hE h (c208 N x6 x15) (.refl _) fun r16 h=>?_;cbv;refine JY hE (f:=eAt8) hO 0 rfl ht13 h (c209 N s12.1 r16) (.refl _) (.refl _) fun l17 t19 H hO ht19 h=>?_;cbv;cases h;exact⟨_,t19,rfl,.e rfl (.e4 (.e4 .z)),rfl,ht19,hO⟩
    cbv;cases h;exact⟨_,_,rfl,⟨t13,ht13,rfl,rfl,hO⟩,.e2 (.e4 .z),rfl⟩
   ·exact .e rfl (.e4 (.e4 .z))
   ·exact⟨ht4,hO⟩
   clear hx;rintro e l H ⟨t20,ht20,rfl,rfl,hO⟩;cbv;cases h;exact⟨_,t20,rfl,.e2 (.e4 .z),rfl,ht20,hO⟩
  cbv;cases h;exact⟨_,_,rfl,⟨t4,ht4,rfl,rfl,hO⟩,.e rfl .z,rfl⟩
 ·exact .e4 (.v (.slt _ (.lst0)) (.e rfl (.z)))
 ·exact⟨trivial,hO⟩
 clear hx;rintro e l H ⟨t21,ht21,rfl,rfl,hO⟩;cbv;cases h;exact hK hO (.ro _ _)
theorem k165 (N n:Nat) (ih129:Uu N n):Ap6 N (n+1):=by
 intro aV aC aF aH r h
 unfold Ed at h
 refine I6 cf0 func165 call165 ntmps165 ?_;intro E H0 K hE hK hO;cbv;replace hO:=hO.tl0 (t:=.nil) rfl;obtain⟨s3,hx,h⟩:=bind_some h;refine K6 cf0 hE L9 (γ:=D1) (fun s1 g=>[(0,.v (sr eAu0 aV)),(1,.v (sr eAt5 aC)),(2,.v (sr eAt6 aF)),fi 3 aH,(9,.v (.sl (lst eAt8 s1.1) g)),fi 10 s1.2]) (fun s1 g H1=>K4 g∧C0 Eq H0 [.tl g] H1) (fun x e l H1=>∃u1:D1,K4 u1∧e= .exit 0∧l=[(9,.v (.sl (lst eAt8 x) u1))]∧C0 Eq H0 [.tl u1] H1) (by kernel_rfl) ?_ .nil hx ?_ ?_ ?_
 ·rintro s1 t2 H o ⟨ht2,hO⟩ h;clear hx;cbv;refine D5 hE ?_;cbv;refine A7 hE h (fun _ h=>?_) fun _ h=>?_
  ·cbv;refine B8 hE eAt9 h fun x4 h=>?_;cbv;refine A5 hE h (ih129 x4 aC aF aH) (.refl _) fun r5 h=>?_;cbv;obtain⟨s8,hx,h⟩:=bind_some h;refine K6 cf0 hE L9 (γ:=D1) (fun s6 g=>[(0,.v (sr eAu0 aV)),(1,.v (sr eAt5 aC)),(2,.v (sr eAt6 aF)),fi 3 aH,(9,.v (.sl (lst eAt8 s6.1) g)),fi 10 s1.2,(11,.v (sr eAt8 r5)),fi 12 s6.2]) (fun s6 g H1=>K4 g∧C0 Eq H0 [.tl g] H1) (fun x e l H1=>∃u1:D1,K4 u1∧e= .exit 2∧l=[(0,.v (sr eAu0 aV)),(1,.v (sr eAt5 aC)),(2,.v (sr eAt6 aF)),fi 3 aH,(9,.v (.sl (lst eAt8 x) u1)),fi 10 s1.2]∧C0 Eq H0 [.tl u1] H1) (by kernel_rfl) ?_ t2 hx ?_ ?_ ?_
   ·rintro s6 t7 H o ⟨ht7,hO⟩ h;clear hx;cbv;refine D5 hE ?_;cbv;refine A7 hE h (fun _ h=>?_) fun _ h=>?_
    ·cbv;refine B8 hE eAu8 h fun x9 h=>?_;cbv;refine JY hE (f:=eAt8) hO 0 rfl ht7 h (c209 N s6.1 x9) (.refl _) (.refl _) fun l10 t12 H hO ht12 h=>?_;cbv;cases h;exact⟨_,t12,rfl,.e4 (.e4 .z),rfl,ht12,hO⟩
    cbv;cases h;exact⟨_,_,rfl,⟨t7,ht7,rfl,rfl,hO⟩,.e2 (.e4 .z),rfl⟩
   ·exact .e4 (.e4 .z)
   ·exact⟨ht2,hO⟩
   clear hx;rintro e l H ⟨t13,ht13,rfl,rfl,hO⟩;cbv;cases h;exact⟨_,t13,rfl,.e2 (.e4 .z),rfl,ht13,hO⟩
  cbv;cases h;exact⟨_,_,rfl,⟨t2,ht2,rfl,rfl,hO⟩,.e rfl .z,rfl⟩
 ·exact .e4 (.v (.slt _ (.lst0)) (.e rfl (.z)))
 ·exact⟨trivial,hO⟩
 clear hx;rintro e l H ⟨t14,ht14,rfl,rfl,hO⟩;cbv;cases h;exact hK hO (.ro _ _)
theorem k166 (N n:Nat) (ih129:Uu N n):Ap5 N (n+1):=by
 intro aV aC aF aH r h
 unfold Ee at h
 refine I6 cf166 func166 call166 ntmps166 ?_;intro E H0 K hE hK hO;cbv;refine B8 hE eAt9 h fun x1 h=>?_;cbv;refine A5 hE h (ih129 x1 aC aF aH) (.refl _) fun r2 h=>?_;cbv;obtain⟨s4,hx,h⟩:=bind_some h;refine E7 cf166 hE L9 (fun s3=>[(0,.v (sr eAu0 aV)),(1,.v (sr eAt5 aC)),(2,.v (sr eAt6 aF)),fi 3 aH,(9,.v (sr eAt8 s3.1)),fi 10 s3.2]) (fun s3 H1=>C0 Eq H0 [] H1) (fun x e l H1=>e= .exit 0∧l=[(9,.v (sr eAt8 x))]∧C0 Eq H0 [] H1) (by kernel_rfl) ?_ hx ?_ hO ?_
 ·intro s3 H o hO h;clear hx;cbv;refine D5 hE ?_;cbv;refine A7 hE h (fun _ h=>?_) fun _ h=>?_
  ·cbv;refine B8 hE eAt9 h fun x5 h=>?_;cbv;refine A5 hE h (ih129 x5 aC aF aH) (.refl _) fun r6 h=>?_;cbv;replace hO:=hO.tl0 (t:=.nil) rfl;obtain⟨s9,hx,h⟩:=bind_some h;refine K6 cf166 hE L9 (γ:=D1) (fun s7 g=>[(0,.v (sr eAu0 aV)),(1,.v (sr eAt5 aC)),(2,.v (sr eAt6 aF)),fi 3 aH,(9,.v (sr eAt8 s3.1)),fi 10 s3.2,(11,.v (sr eAt8 r6)),(12,.v (.sl (lst eAt8 s7.1) g)),fi 13 s7.2]) (fun s7 g H1=>K4 g∧C0 Eq H0 [.tl g] H1) (fun x e l H1=>∃u1:D1,K4 u1∧e= .exit 2∧l=[(0,.v (sr eAu0 aV)),(1,.v (sr eAt5 aC)),(2,.v (sr eAt6 aF)),fi 3 aH,fi 10 s3.2,(12,.v (.sl (lst eAt8 x) u1))]∧C0 Eq H0 [.tl u1] H1) (by kernel_rfl) ?_ .nil hx ?_ ?_ ?_
   ·rintro s7 t8 H o ⟨ht8,hO⟩ h;clear hx;cbv;refine D5 hE ?_;cbv;refine A7 hE h (fun _ h=>?_) fun _ h=>?_
    ·cbv;obtain⟨s12,hx,h⟩:=bind_some h;refine K6 cf166 hE L9 (γ:=D1) (fun s10 g=>[(0,.v (sr eAu0 aV)),(1,.v (sr eAt5 aC)),(2,.v (sr eAt6 aF)),fi 3 aH,(9,.v (sr eAt8 s3.1)),fi 10 s3.2,(11,.v (sr eAt8 r6)),(12,.v (.sl (lst eAt8 s10.1) g)),fi 13 s7.2,fi 14 s10.2]) (fun s10 g H1=>K4 g∧C0 Eq H0 [.tl g] H1) (fun x e l H1=>∃u1:D1,K4 u1∧e= .exit 4∧l=[(0,.v (sr eAu0 aV)),(1,.v (sr eAt5 aC)),(2,.v (sr eAt6 aF)),fi 3 aH,(9,.v (sr eAt8 s3.1)),fi 10 s3.2,(11,.v (sr eAt8 r6)),(12,.v (.sl (lst eAt8 x) u1)),fi 13 s7.2]∧C0 Eq H0 [.tl u1] H1) (by kernel_rfl) ?_ t8 hx ?_ ?_ ?_
     ·rintro s10 t11 H o ⟨ht11,hO⟩ h;clear hx;cbv;refine D5 hE ?_;cbv;refine A7 hE h (fun _ h=>?_) fun _ h=>?_
      ·cbv;refine B8 hE eAu8 h fun x13 h=>?_;cbv;refine B8 hE eAu8 h fun x14 h=>?_;cbv;refine A5 hE h (c210 N x13 x14) (.refl _) fun r15 h=>?_;cbv;refine A7 hE h (fun _ h=>?_) fun _ h=>?_
       ·cbv;refine B8 hE eAu8 h fun x16 h=>?_;cbv;refine B8 hE eAu8 h fun x17 h=>?_;cbv;refine D0 hE (g:=fun r18=>sr eAt6 r18) h (c208 N x16 x17) (.refl _) fun r18 h=>?_;cbv;refine JY hE (f:=eAt8) hO 0 rfl ht11 h (c209 N s10.1 r18) (.refl _) (.refl _) fun l19 t21 H hO ht21 h=>?_;cbv;cases h;exact⟨_,t21,rfl,.e2 (.e4 (.e4 .z)),rfl,ht21,hO⟩
       cbv;cases h;exact⟨_,t11,rfl,.e2 (.e4 (.e4 .z)),rfl,ht11,hO⟩
      cbv;cases h;exact⟨_,_,rfl,⟨t11,ht11,rfl,rfl,hO⟩,.e rfl (.e4 (.e4 .z)),rfl⟩
     ·exact .e2 (.e4 (.e4 .z))
     ·exact⟨ht8,hO⟩
     clear hx;rintro e l H ⟨t22,ht22,rfl,rfl,hO⟩;cbv;cases h;exact⟨_,t22,rfl,.e rfl (.e4 (.e4 .z)),rfl,ht22,hO⟩
    cbv;cases h;exact⟨_,_,rfl,⟨t8,ht8,rfl,rfl,hO⟩,.e2 (.e4 .z),rfl⟩
   ·exact .e rfl (.e2 (.e4 (.v (.slt _ (.lst0)) (.e rfl (.z)))))
   ·exact⟨trivial,hO⟩
   clear hx;rintro e l H ⟨t23,ht23,rfl,rfl,hO⟩;cbv;cases h;exact⟨_,rfl,.e4 (.v (.ro _ _) (.e rfl (.z))),rfl,hO.tail⟩
  cbv;cases h;exact⟨_,_,rfl,⟨rfl,rfl,hO⟩,.e rfl .z,rfl⟩
 ·exact .e2 (.e4 .z)
 clear hx;rintro e l H ⟨rfl,rfl,hO⟩;cbv;cases h;exact hK hO (.refl _)
theorem k167 (N n:Nat) (ih129:Uu N n) (ih167:Ag1 N n):Ag1 N (n+1):=by
 intro aA aC aF aH r h
 unfold W7 at h
 refine I6 cf167 func167 call167 ntmps167 ?_;intro E H0 K hE hK hO;cbv;refine B8 hE eAt9 h fun x1 h=>?_;cbv;refine A5 hE h (ih129 x1 aC aF aH) (.refl _) fun r2 h=>?_;cbv;replace hO:=hO.tl0 (t:=.nil) rfl;obtain⟨s5,hx,h⟩:=bind_some h;refine K6 cf167 hE L9 (γ:=D1) (fun s3 g=>[(1,.v (sr eAt5 aC)),(2,.v (sr eAt6 aF)),(4,.v (.eref (D3 aA) 0)),(9,.v (sr eAt8 r2)),(10,.v (.sl (lst eAt8 s3.1) g)),fi 11 s3.2]) (fun s3 g H1=>K4 g∧C0 Eq H0 [.tl g] H1) (fun x e l H1=>∃u1:D1,K4 u1∧e= .exit 0∧l=[(10,.v (.sl (lst eAt8 x) u1))]∧C0 Eq H0 [.tl u1] H1) (by kernel_rfl) ?_ .nil hx ?_ ?_ ?_
 ·rintro s3 t4 H o ⟨ht4,hO⟩ h;clear hx;cbv;refine D5 hE ?_;cbv;refine A7 hE h (fun _ h=>?_) fun _ h=>?_
  ·cbv;refine B8 hE eAu8 h fun x6 h=>?_;cbv;refine JY hE (f:=eAt8) hO 0 rfl ht4 h (c209 N s3.1 x6) (.refl _) (.refl _) fun l7 t9 H hO ht9 h=>?_;cbv;refine D0 hE (g:=fun r10=>sr eAt6 r10) h (c208 N aF x6) (.refl _) fun r10 h=>?_;cbv;refine D5 hE ?_;cbv;refine B8 hE eAu5 h fun x11 h=>?_;cbv;refine A5 hE h (ih167 aA aC r10 (ar .add .i64 x11.At 1)) (.refl _) fun r12 h=>?_;cbv;obtain⟨s15,hx,h⟩:=bind_some h;refine K6 cf167 hE L9 (γ:=D1) (fun s13 g=>[(1,.v (sr eAt5 aC)),(2,.v (sr eAt6 aF)),(4,.v (.eref (D3 aA) 0)),(9,.v (sr eAt8 r2)),(10,.v (.sl (lst eAt8 s13.1) g)),fi 11 s3.2,(12,.v (sr eAt6 x6)),(13,.v (sr eAt8 r12)),fi 14 s13.2]) (fun s13 g H1=>K4 g∧C0 Eq H0 [.tl g] H1) (fun x e l H1=>∃u1:D1,K4 u1∧e= .exit 2∧l=[(1,.v (sr eAt5 aC)),(2,.v (sr eAt6 aF)),(4,.v (.eref (D3 aA) 0)),(9,.v (sr eAt8 r2)),(10,.v (.sl (lst eAt8 x) u1)),fi 11 s3.2]∧C0 Eq H0 [.tl u1] H1) (by kernel_rfl) ?_ t9 hx ?_ ?_ ?_
   ·rintro s13 t14 H o ⟨ht14,hO⟩ h;clear hx;cbv;refine D5 hE ?_;cbv;refine A7 hE h (fun _ h=>?_) fun _ h=>?_
    ·cbv;refine B8 hE eAu8 h fun x16 h=>?_;cbv;refine A5 hE h (c208 N x6 x16) (.refl _) fun r17 h=>?_;cbv;refine JY hE (f:=eAt8) hO 0 rfl ht14 h (c209 N s13.1 r17) (.refl _) (.refl _) fun l18 t20 H hO ht20 h=>?_;cbv;cases h;exact⟨_,t20,rfl,.e rfl (.e4 (.e4 .z)),rfl,ht20,hO⟩
    cbv;cases h;exact⟨_,_,rfl,⟨t14,ht14,rfl,rfl,hO⟩,.e2 (.e4 .z),rfl⟩
   ·exact .e rfl (.e4 (.e4 .z))
   ·exact⟨ht9,hO⟩
   clear hx;rintro e l H ⟨t21,ht21,rfl,rfl,hO⟩;cbv;cases h;exact⟨_,t21,rfl,.e2 (.e4 .z),rfl,ht21,hO⟩
  cbv;cases h;exact⟨_,_,rfl,⟨t4,ht4,rfl,rfl,hO⟩,.e rfl .z,rfl⟩
 ·exact .e4 (.v (.slt _ (.lst0)) (.e rfl (.z)))
 ·exact⟨trivial,hO⟩
 clear hx;rintro e l H ⟨t22,ht22,rfl,rfl,hO⟩;cbv;cases h;exact hK hO (.ro _ _)
theorem HI (N:Nat):∀n,Uu N n∧Ag2 N n∧Ap6 N n∧Ap5 N n∧Ag1 N n:=by
 intro n
 induction n with
 |zero=>exact⟨(by intro aA aC aF aH r h;unfold K7 at h;cases h),(by intro aV aC aF aH r h;unfold Aa at h;cases h),(by intro aV aC aF aH r h;unfold Ed at h;cases h),(by intro aV aC aF aH r h;unfold Ee at h;cases h),(by intro aA aC aF aH r h;unfold W7 at h;cases h)⟩
 |succ n ih=>
  obtain⟨ih129,ih164,ih165,ih166,ih167⟩:=ih;exact⟨k129 N n ih129 ih164 ih165 ih166 ih167,k164 N n ih129 ih164,k165 N n ih129,k166 N n ih129,k167 N n ih129 ih167⟩
theorem c129 (N n aA aC aF aH r)(h:K7 N n aA aC aF aH=some r):B4 prog 129 [(C3 aA),sr eAt5 aC,sr eAt6 aF,vi aH] (sr eAt8 r):=(HI N n).1 aA aC aF aH r h
def cf130 :Cf:=⟨[4,5],[(5,18)],[],[],[],[]⟩
theorem c130 (N aC aG r) (h:Ai N aC aG=some r):B4 prog 130 [sr eAt5 aC,sr eAt6 aG] ((Cx r)):=by
 unfold Ai at h
 refine I6 cf130 func130 call130 ntmps130 ?_;intro E H0 K hE hK hO;cbv;refine C7 hE hO fun b1 H hO=>?_;cbv;refine C7 hE hO fun b2 H hO=>?_;cbv;replace hO:=hO.cast (L':=[cb b2 [.sl (lst eAu6 ([])) .nil],cb b1 [.sl [] .nil]]) (by simp only[ob,cb,sr,←E2]<;>rfl);replace hO:=hO.tl0 (t:=.nil) rfl;obtain⟨s5,hx,h⟩:=bind_some h;refine K6 cf130 hE L9 (γ:=D1) (fun s3 g=>[(0,.v (sr eAt5 aC)),(1,.v (sr eAt6 aG)),(4,.v (.ref b1 0)),(5,.v (.ref b2 0)),fi 6 s3.1]) (fun s3 g H1=>K4 g∧C0 Eq H0 [.tl g,cb b2 [.sl (lst eAu6 s3.2.cT) g],cb b1 [.sl [] .nil]] H1) (fun x e l H1=>∃u1:D1,K4 u1∧e= .exit 0∧l=[(4,.v (.ref b1 0)),(5,.v (.ref b2 0))]∧C0 Eq H0 [.tl u1,cb b2 [.sl (lst eAu6 x.cT) u1],cb b1 [.sl [] .nil]] H1) (by kernel_rfl) ?_ .nil hx ?_ ?_ ?_
 ·rintro s3 t4 H o ⟨ht4,hO⟩ h;clear hx;cbv;refine D5 hE ?_;cbv;refine A7 hE h (fun _ h=>?_) fun _ h=>?_
  ·cbv;refine B2 hE hO 1 rfl ?_;cbv;refine B8 hE eAu5 h fun x6 h=>?_;cbv;refine B8 hE eAu5 h fun x7 h=>?_;cbv;refine B8 hE eAu2 h fun x8 h=>?_;cbv;refine D0 hE (g:=fun r9=>(DM r9)) h (c27 N x8) (.refl _) fun r9 h=>?_;cbv;refine As (f:=eAu6) hE Hk (by decide) hO 0 rfl ht4 (l:=s3.2.cT) (m:=[(⟨x6.Var,r9⟩:D6)]) (.refl _) (.lstc (.eq (eAv2 (⟨x6.Var,r9⟩:D6)) (.refl _)) (.lst0)) h fun l11 t10 H hO ht10 h=>?_;cbv;refine A9 hE hO 1 rfl rfl fun H hO=>?_;cbv;cases h;exact⟨_,t10,rfl,.e rfl (.e4 .z),rfl,ht10,hO⟩
  cbv;cases h;exact⟨_,_,rfl,⟨t4,ht4,rfl,rfl,hO⟩,.e2 .z,rfl⟩
 ·exact .e rfl (.e4 .z)
 ·exact⟨trivial,hO⟩
 clear hx;rintro e l H ⟨t12,ht12,rfl,rfl,hO⟩;cbv;refine B2 hE hO 1 rfl ?_;cbv;refine A9 hE hO 2 rfl rfl fun H hO=>?_;cbv;refine B2 hE hO 2 rfl ?_;cbv;cases h;exact hK hO (.agg (.cons (.ro _ _) (.refl _)))
def cf71 :Cf:=⟨[46,6000006],[(8,9),(3000011,0),(3000011,1),(3000011,3),(3000011,6),(3000011,8)],[],[2000011],[],[]⟩
set_option maxHeartbeats 2000000 in
theorem c71 (N aA aC r) (h:Bt N aA aC=some r):B4 prog 71 [(C3 aA),sr eAt5 aC] (sr eAt7 r):=by
 unfold Bt at h
 refine HY (T:=TT) cf71 L9 func71 (by rfl) (by kernel_rfl) call71 ntmps71 (by rfl) (by rfl) ?_;intro E H0 K hE hK hF;have hO:C0 Eq H0 [] H0:=.start E9 rfl;cbv;refine A5 hE h (c129 N N aA aC ([]) 0) (.cons (.refl _) (.cons (.refl _) (.cons (.lit _ (E2)) (.refl _)))) fun r1 h=>?_;cbv;refine Jh hE (f:=eAt7) hO fun q2 H hq2 hO=>?_;cbv;obtain⟨s5,hx,h⟩:=bind_some h;refine K6 cf71 hE L9 (γ:=OG) (fun s3 g=>[(1,.v (sr eAt5 aC)),(5,.v (sr eAt8 r1)),(6,.v (.own g.id g.lo g.n)),fi 7 s3.1]) (fun s3 g H1=>Cu g (Ar.len s3.2)∧C0 Eq H0 [ob g 1 eAt7 s3.2] H1) (fun x e l H1=>∃u1:OG,Cu u1 (Ar.len x)∧e= .exit 0∧l=[(6,.v (.own u1.id u1.lo u1.n))]∧C0 Eq H0 [ob u1 1 eAt7 x] H1) (by kernel_rfl) ?_ q2 hx ?_ ?_ ?_
 ·rintro s3 q4 H o ⟨hq4,hO⟩ h;clear hx;cbv;refine D5 hE ?_;cbv;refine A7 hE h (fun _ h=>?_) fun _ h=>?_
  ·cbv;refine B8 hE eAu8 h fun x6 h=>?_;cbv;refine A5 hE h (c130 N aC x6) (.refl _) fun r7 h=>?_;cbv;refine Yu hE hq4 ?_;cbv;obtain⟨s9,hx,h⟩:=bind_some h;refine E7 cf71 hE L9 (fun s8=>[(1,.v (sr eAt5 aC)),(5,.v (sr eAt8 r1)),(6,.v (.own q4.id q4.lo q4.n)),fi 7 s3.1,(8,.v (.eref (Fq r7) 0)),fi 9 s8]) (fun s8 H1=>C0 Eq H0 [ob q4 1 eAt7 s3.2] H1) (fun x e l H1=>e= .exit 2∧l=[(1,.v (sr eAt5 aC)),(5,.v (sr eAt8 r1)),(6,.v (.own q4.id q4.lo q4.n)),fi 7 s3.1,(8,.v (.eref (Fq r7) 0)),fi 9 x]∧C0 Eq H0 [ob q4 1 eAt7 s3.2] H1) (by kernel_rfl) ?_ hx ?_ hO ?_
   ·intro s8 H o hO h;clear hx;cbv;refine A7 hE h (fun _ h=>?_) fun _ h=>?_
    ·cbv;refine PF hE hO hq4 0 rfl h fun h=>?_;cbv;refine PE hE eAu7 hO hq4 0 rfl h fun x10 h=>?_;cbv;refine A5 hE h (c33 N r7 x10) (.refl _) fun r11 h=>?_;cbv;refine A7 hE h (fun _ h=>?_) fun _ h=>?_
     ·cbv;cases h;exact⟨_,rfl,.e2 (.e4 .z),rfl,hO⟩
     cbv;cases h;exact⟨_,_,rfl,⟨rfl,rfl,hO⟩,.e2 (.e4 .z),rfl⟩
    cbv;cases h;exact⟨_,_,rfl,⟨rfl,rfl,hO⟩,.e2 (.e4 .z),rfl⟩
   ·exact .e2 (.e4 .z)
   clear hx;rintro e l H ⟨rfl,rfl,hO⟩;cbv;refine Wz hE hO hq4 0 rfl h fun l13 q12 hq12 h=>?_;cbv;refine Ac3 (f:=eAt7) hE AH (by decide) hO (.inr rfl) (m:=l13) (hq12) h fun l15 q14 H hq14 hO h=>?_;cbv;obtain⟨s16,hx,h⟩:=bind_some h;refine T5 cf71 hE L9 (fun e l H1=>∃u1:OG,Cu u1 (Ar.len s16)∧e= .normal∧l=[(1,.v (sr eAt5 aC)),(5,.v (sr eAt8 r1)),(6,.v (.own u1.id u1.lo u1.n)),fi 7 s3.1]∧C0 Eq H0 [ob q14 1 eAt7 l15,ob u1 1 eAt7 s16] H1) (by kernel_rfl) ?_ ?_
   ·clear h;have h:=hx;clear hx;cbv;obtain⟨l98,el98,h⟩:=bind_some h;obtain⟨l218,el218,h⟩:=bind_some h;obtain⟨l298,el298,h⟩:=bind_some h
    repeat' first|refine And.intro ?_ ?_|(refine RN hE hO hq4 1 rfl (EN el98) fun l98 q97 hq97 hO hh=>?_;obtain rfl:=G3 hh;cbv)|(refine FB (f:=eAt7) hE AH (by decide) hO hq97 1 rfl (m:=[r7]) (Gq (f:=eAt7) hE AH (.lstc (.eq (eAu7 r7) (.refl _)) (.lst0))) (EN el218) fun l218 q217 H hq217 hO hh=>?_;obtain rfl:=G3 hh;cbv)|(refine FB (f:=eAt7) hE AH (by decide) hO hq217 1 rfl (m:=l15) (Pm hE hO hq14 0 rfl) (EN el298) fun l298 q297 H hq297 hO hh=>?_;obtain rfl:=G3 hh;cbv)|(have h:=G3 h;subst h;exact⟨_,⟨q297,hq297,rfl,rfl,hO⟩,.e4 .z,rfl⟩)
   clear hx;rintro e l H ⟨q417,hq417,rfl,rfl,hO⟩;cbv;cases h;exact⟨_,q417,rfl,.e4 .z,rfl,hq417,hO.tail⟩
  cbv;cases h;exact⟨_,_,rfl,⟨q4,hq4,rfl,rfl,hO⟩,.e rfl .z,rfl⟩
 ·exact .e4 .z
 ·exact⟨hq2,hO⟩
 clear hx;rintro e l H ⟨q418,hq418,rfl,rfl,hO⟩;cbv;cases h;exact hF q418 _ _ 0 _ _ hO rfl (BZ hE hq418) (.refl _)
end Go.Ab
namespace Go.Ab
open Go.RowKit Go.Proofs Go.Proofs.Tryz J2
variable [Ar][J2]
set_option maxRecDepth 100000
theorem c15 (N aA aC r)(h:AI N aA aC=some r):B4 prog 15 [(C3 aA),sr eAt5 aC] (.tup [sr eAt7 r.1,vi r.2]):=by
 unfold AI at h
 refine I6 cf0 func15 call15 ntmps15 ?_;intro E H0 K hE hK hO;cbv;refine A5 hE h (c70 N aA aC) (.refl _) fun r1 h=>?_;cbv;refine A7 hE h (fun _ h=>?_) fun _ h=>?_
 ·cbv;cases h;exact hK hO (.tup (.cons (.lit _ (E2)) (.refl _)))
 cbv;refine A5 hE h (c71 N aA aC) (.refl _) fun r2 h=>?_;cbv;cases h;exact hK hO (.refl _)
def cf16 :Cf:=⟨[],[(6,8)],[],[],[],[]⟩
theorem c16 (N aD aF r) (h:Es N aD aF=some r):B4 prog 16 [sr eAt7 aD,sr eAt7 aF] (.bool r):=by
 unfold Es at h
 refine I6 cf16 func16 call16 ntmps16 ?_;intro E H0 K hE hK hO;cbv;refine D5 hE ?_;cbv;refine D5 hE ?_;cbv;refine A7 hE h (fun _ h=>?_) fun _ h=>?_
 ·cbv;cases h;exact hK hO (.refl _)
 cbv;obtain⟨s2,hx,h⟩:=bind_some h;refine E7 cf16 hE L9 (fun s1=>[(0,.v (sr eAt7 aD)),(1,.v (sr eAt7 aF)),fi 5 s1]) (fun s1 H1=>C0 Eq H0 [] H1) (fun x e l H1=>match(generalizing:=false) x with| .inl y=>e= .exit 0∧l=[]∧C0 Eq H0 [] H1| .inr y=>e= .ret∧l=[(4,.b false)]∧C0 Eq H0 [] H1) (by kernel_rfl) ?_ hx ?_ hO ?_
 ·intro s1 H o hO h;clear hx;cbv;refine D5 hE ?_;cbv;refine A7 hE h (fun _ h=>?_) fun _ h=>?_
  ·cbv;refine B8 hE eAu7 h fun x3 h=>?_;cbv;refine B8 hE eAu7 h fun x4 h=>?_;cbv;refine A5 hE h (c33 N x3 x4) (.refl _) fun r5 h=>?_;cbv;refine A7 hE h (fun _ h=>?_) fun _ h=>?_
   ·cbv;cases h;exact⟨_,_,rfl,⟨rfl,rfl,hO⟩,.b rfl (.z),rfl⟩
   cbv;cases h;exact⟨_,rfl,.e rfl (.e2 .z),rfl,hO⟩
  cbv;cases h;exact⟨_,_,rfl,⟨rfl,rfl,hO⟩,.z,rfl⟩
 ·exact .e rfl (.e2 .z)
 clear hx
 rcases s2 with y6|y7
 ·rintro e l H ⟨rfl,rfl,hO⟩;cbv;cases h;exact hK hO (.refl _)
 rintro e l H ⟨rfl,rfl,hO⟩;cbv;cases h;exact hK hO (.refl _)
end Go.Ab
namespace Go.Ab
variable [Ar]
def J3 (N:Nat) (aG:List C4) (aX:C4→Option Bool):Option Int:=
 (loopN
  (fun(s1:Int)=>
   (
    if Ar.cmp .lss s1 (Ar.len aG)=true then
     (B6 aG s1).bind fun x3=>
     (aX x3).bind fun r4=>
     if r4=true then
      some (.inr (.inr s1))
     else
      some (.inl (ar .add .i64 s1 1))
    else
     some (.inr (.inl ()))
    :Option ((Int) ⊕ (Unit ⊕ Int))))
  N 0).bind fun s2=>
 match s2 with
 | .inl y5=>
  some (-1)
 | .inr y6=>
  some y6
end Go.Ab
namespace Go.Ab
open Go.RowKit Go.Proofs Go.Proofs.Tryz J2
variable [Ar][J2]
set_option maxRecDepth 100000
theorem c83 (N:Nat) (aG:List C4) (bE:V) (aX:C4→Option Bool) (bL:∀y1 q,aX y1=some q→T7 prog bE [(Cx y1)] (.bool q)) (r:Int) (h:J3 N aG aX=some r):B4 prog 83 [sr eAt7 aG,bE] (vi r):=by
 unfold J3 at h
 refine I6 cf0 func83 call83 ntmps83 ?_;intro E H0 K hE hK hO;cbv;refine D5 hE ?_;cbv;obtain⟨s2,hx,h⟩:=bind_some h;refine E7 cf0 hE L9 (fun s1=>[(0,.v (sr eAt7 aG)),(1,.v (bE)),fi 7 (Ar.len aG),fi 8 s1]) (fun s1 H1=>C0 Eq H0 [] H1) (fun x e l H1=>match(generalizing:=false) x with| .inl y=>e= .exit 0∧l=[]∧C0 Eq H0 [] H1| .inr y=>e= .ret∧l=[fi 4 y]∧C0 Eq H0 [] H1) (by kernel_rfl) ?_ hx ?_ hO ?_
 ·intro s1 H o hO h;clear hx;cbv;refine A7 hE h (fun _ h=>?_) fun _ h=>?_
  ·cbv;refine B8 hE eAu7 h fun x3 h=>?_;cbv;refine Z5 hE (g:=fun r4=>.bool r4) h (fun r4 hx=>bL x3 r4 hx) (.refl _) fun r4 h=>?_;cbv;refine A7 hE h (fun _ h=>?_) fun _ h=>?_
   ·cbv;cases h;exact⟨_,_,rfl,⟨rfl,rfl,hO⟩,.e rfl .z,rfl⟩
   cbv;cases h;exact⟨_,rfl,.e4 .z,rfl,hO⟩
  cbv;cases h;exact⟨_,_,rfl,⟨rfl,rfl,hO⟩,.z,rfl⟩
 ·exact .e4 .z
 clear hx
 rcases s2 with y5|y6
 ·rintro e l H ⟨rfl,rfl,hO⟩;cbv;cases h;exact hK hO (.refl _)
 rintro e l H ⟨rfl,rfl,hO⟩;cbv;cases h;exact hK hO (.refl _)
end Go.Ab
