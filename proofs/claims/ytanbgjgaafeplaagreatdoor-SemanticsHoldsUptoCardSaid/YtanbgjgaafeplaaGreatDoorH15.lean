/- GTCo6 GTCo7 GTSq GTCo8 -/
import Derived.Test.YtanbgjgaafeplaaGreatDoorH14
set_option linter.all false
open Go.Ab.Ar (ar cmp lst nt sh wr)
namespace Go.Ab
open Go.RowKit Go.Proofs Go.Proofs.Tryz H7
variable [Ar][H7]
set_option maxRecDepth 100000
def cf154 :Cf:=⟨[8,3000053,8000053,9000053],[(8,14),(11,8)],[],[],[],[]⟩
theorem c154 (N:Nat):∀n aB aR aU aV r,Ad N n aB aR aU aV=some r→B4 prog 154 [(I5 aB),(Ed aR),vi aU,(W2 aV)] (.tup [(C7 r.1),vi r.2]):=by
 intro n
 induction n with
 |zero=>intro aB aR aU aV r h;cases h
 |succ n ih=>
 intro aB aR aU aV r h
 unfold Ad at h
 refine I6 cf154 func154 call154 ntmps154 ?_;intro E H0 K hE hK hO;cbv;refine C6 hE hO fun b1 H hO=>?_;cbv;refine D5 hE ?_;cbv;refine A7 hE h (fun _ h=>?_) fun _ h=>?_
 ·cbv;refine A4 hE h (c187 N aB aR aU aV) (.refl _) fun r2 h=>?_;cbv;refine B0 hE hO 0 rfl rfl fun H hO=>?_;cbv;refine B2 hE hO 0 rfl ?_;cbv;cases h;exact hK hO (.refl _)
 cbv;replace hO:=hO.tl0 (t:=.nil) rfl;replace hO:=hO.tl0 (t:=.nil) rfl;obtain⟨s6,hx,h⟩:=bind_some h;refine N0 cf154 hE L8 (γ:=D3×D3) (fun s3 g=>[fi 2 aU,(4,.v (.eref (Am aB) 0)),(5,.v (.eref (Ae1 aR) 0)),(7,.v (.eref (JV aV) 0)),(8,.v (.ref b1 0)),(10,.v (.sl (lst eAp9 s3.1) g.2)),(11,.v (.sl (lst (V.int .i64) s3.2.1) g.1)),fi 12 s3.2.2]) (fun s3 g H1=>L6 g.1∧L6 g.2∧C2 Eq H0 [.tl g.1,.tl g.2,cb b1 [vi 0,vi 0,.str (⟨#[]⟩)]] H1) (fun x e l H1=>match(generalizing:=false) x with| .inl y=>∃u1:D3,L6 u1∧∃u2:D3,L6 u2∧e= .exit 0∧l=[(4,.v (.eref (Am aB) 0)),(8,.v (.ref b1 0)),(10,.v (.sl (lst eAp9 y.1) u2)),(11,.v (.sl (lst (V.int .i64) y.2) u1))]∧C2 Eq H0 [.tl u1,.tl u2,cb b1 [vi 0,vi 0,.str (⟨#[]⟩)]] H1| .inr y=>∃u1:D3,L6 u1∧∃u2:D3,L6 u2∧e= .ret∧l=[(8,.v (.ref b1 0)),fi 9 y]∧C2 Eq H0 [.tl u1,.tl u2,cb b1 [vi 0,vi 0,.str (⟨#[]⟩)]] H1) (by kernel_rfl) ?_ (⟨.nil,.nil⟩) hx ?_ ?_ ?_
 ·rintro s3 ⟨t4,t5⟩ H o ⟨ht4,ht5,hO⟩ h;clear hx;cbv;refine D5 hE ?_;cbv;refine A7 hE h (fun _ h=>?_) fun _ h=>?_
  ·cbv;refine B9 hE eAq4 h fun x7 h=>?_;cbv;refine C9 hE (g:=fun r8=>.tup [(C7 r8.1),vi r8.2]) h (ih x7 aR aU aV) (.refl _) fun r8 h=>?_;cbv;refine A7 hE h (fun _ h=>?_) fun _ h=>?_
   ·cbv;refine B0 hE hO 2 rfl rfl fun H hO=>?_;cbv;cases h;exact⟨_,_,rfl,⟨t4,ht4,t5,ht5,rfl,rfl,hO⟩,.e2 .z,rfl⟩
   cbv;refine LC hE hO 1 rfl ht5 fun H hO=>?_;cbv;refine IP hE trivial ?_;cbv;refine Pg (f:=eAp9) hE HM (by decide) (l:=s3.1) (m:=[r8.1]) (.refl _) (.lstc (.eq (eAp5 r8.1) (.refl _)) (.lst0)) h fun l9 h=>?_;cbv;refine LE hE hO 1 rfl fun t10 H hO ht10=>?_;cbv;refine AT (f:=(V.int .i64)) hE (fun _=>rfl) (by decide) hO 0 rfl ht4 (l:=s3.2.1) (m:=[r8.1.Kind]) (.refl _) (.lstc (.refl _) (.lst0)) h fun l12 t11 H hO ht11 h=>?_;cbv;cases h;exact⟨_,⟨t11,t10⟩,rfl,.e4 (.e4 .z),rfl,ht11,ht10,hO⟩
  cbv;cases h;exact⟨_,_,rfl,⟨t4,ht4,t5,ht5,rfl,rfl,hO⟩,.e4 .z,rfl⟩
 ·exact .e rfl (.e4 (.v (.slt _ (.lst0)) (.v (.slt _ (.lst0)) (.e rfl (.z)))))
 ·exact⟨trivial,trivial,hO⟩
 clear hx
 rcases s6 with y13|y18
 ·rintro e l H ⟨t14,ht14,t15,ht15,rfl,rfl,hO⟩;cbv;refine A4 hE h (c188 N aB.Op y13.2) (.cons (.refl _) (.cons (.ro _ _) (.refl _))) fun r16 h=>?_;cbv;refine A7 hE h (fun _ h=>?_) fun _ h=>?_
  ·cbv;refine B0 hE hO 2 rfl rfl fun H hO=>?_;cbv;refine B2 hE hO 2 rfl ?_;cbv;cases h;exact hK hO (.refl _)
  cbv;refine A4 hE h (c189 N aB.Op y13.1) (.cons (.refl _) (.cons (.ro _ _) (.refl _))) fun r17 h=>?_;cbv;refine B0 hE hO 2 rfl rfl fun H hO=>?_;cbv;refine B2 hE hO 2 rfl ?_;cbv;cases h;exact hK hO (.refl _)
 rintro e l H ⟨t19,ht19,t20,ht20,rfl,rfl,hO⟩;cbv;refine B2 hE hO 2 rfl ?_;cbv;cases h;exact hK hO (.refl _)
def cf119 :Cf:=⟨[8],[],[],[],[],[]⟩
theorem c119 (N aB aR aU aV r)(h:Ei N aB aR aU aV=some r):B4 prog 119 [(I5 aB),(Ed aR),vi aU,(W2 aV)] (.tup [(C7 r.1),vi r.2]):=by
 unfold Ei at h
 refine I6 cf119 func119 call119 ntmps119 ?_;intro E H0 K hE hK hO;cbv;refine C6 hE hO fun b1 H hO=>?_;cbv;refine A4 hE h (c136 N aB) (.refl _) fun r2 h=>?_;cbv;refine A7 hE h (fun _ h=>?_) fun _ h=>?_
 ·cbv;refine B0 hE hO 0 rfl rfl fun H hO=>?_;cbv;refine B2 hE hO 0 rfl ?_;cbv;cases h;exact hK hO (.refl _)
 cbv;refine A4 hE h (c154 N N aB aR aU aV) (.refl _) fun r3 h=>?_;cbv;refine B0 hE hO 0 rfl rfl fun H hO=>?_;cbv;refine B2 hE hO 0 rfl ?_;cbv;cases h;exact hK hO (.refl _)
def cf53 :Cf:=⟨[],[(2,5)],[],[],[],[]⟩
theorem c53 (N aB aR aU aV r)(h:AP N aB aR aU aV=some r):B4 prog 53 [(I5 aB),(Ed aR),vi aU,(W2 aV)] (.bool r):=by
 unfold AP at h
 refine I6 cf53 func53 call53 ntmps53 ?_;intro E H0 K hE hK hO;cbv;refine A4 hE h (c119 N aB aR aU aV) (.refl _) fun r1 h=>?_;cbv;refine A7 hE h (fun _ h=>?_) fun _ h=>?_
 ·cbv;refine C9 hE (g:=fun r2=>(C7 r2)) h (c120 N true) (.refl _) fun r2 h=>?_;cbv;cases h;exact hK hO (.refl _)
 cbv;cases h;exact hK hO (.refl _)
def cf207 :Cf:=⟨[6,7,3000049,8000049,9000049],[(6,26)],[],[],[(51,1000007)],[]⟩
theorem c207 (N aC aI bA r) (h:Cz N aC aI bA=some r):B4 prog 207 [sr eAp0 aC,sr eAp1 aI,vi bA] ((Ed r)):=by
 unfold Cz at h
 refine I6 cf207 func207 call207 ntmps207 ?_;intro E H0 K hE hK hO;cbv;refine C6 hE hO fun b1 H hO=>?_;cbv;refine Ad1 hE (f:=eAp0) (by decide) hO 1 h fun l3 w2 H hw2 h hO=>?_;have hO:C2 Eq H0 (.blk w2.q.id (.arr 1 (w2.q.pre++lst (As eAp0) w2.row++w2.q.rest))::cb b1 [.sl [] .nil]::(Fy w2++[])) H:=hO;cbv;refine C6 hE hO fun b4 H hO=>?_;cbv;refine B0 hE hO 0 rfl rfl fun H hO=>?_;cbv;obtain⟨s7,hx,h⟩:=bind_some h;refine N0 cf207 hE L8 (γ:=Rw A8) (fun s5 g=>[(0,.v (sr eAp0 aC)),(1,.v (sr eAp1 aI)),fi 2 bA,(6,.v (.ref b1 0)),(7,.v (.ref b4 0)),fi 8 s5.1]) (fun s5 g H1=>Bs g s5.2∧C2 Eq H0 (cb b4 [.own g.q.id g.q.lo g.q.n]:: .blk g.q.id (.arr 1 (g.q.pre++lst (As eAp0) g.row++g.q.rest))::cb b1 [.sl [] .nil]::(Fy g++[])) H1) (fun x e l H1=>∃u1:Rw A8,Bs u1 x∧e= .exit 0∧l=[(6,.v (.ref b1 0)),(7,.v (.ref b4 0))]∧C2 Eq H0 (cb b4 [.own u1.q.id u1.q.lo u1.q.n]:: .blk u1.q.id (.arr 1 (u1.q.pre++lst (As eAp0) u1.row++u1.q.rest))::cb b1 [.sl [] .nil]::(Fy u1++[])) H1) (by kernel_rfl) ?_ w2 hx ?_ ?_ ?_
 ·rintro s5 w6 H o ⟨hw6,hO⟩ h;clear hx;cbv;refine D5 hE ?_;cbv;refine A7 hE h (fun _ h=>?_) fun _ h=>?_
  ·cbv;refine B9 hE eAq0 h fun x8 h=>?_;cbv;refine A7 hE h (fun _ h=>?_) fun _ h=>?_
   ·cbv;obtain⟨x9,ex9,h⟩:=bind_some h;obtain⟨x10,hxx10,h⟩:=bind_some h
    obtain⟨hjx10,t11,hrx10,hax10⟩:=hw6.at hxx10
    obtain⟨Rx10,hO,hbx10⟩:=hO.rtake (w:=w6) (T1:=[]) (T2:=[]) 3 rfl hrx10;refine LC hE hO 0 rfl hax10 fun H hO=>?_;cbv;refine B2 hE hO 1 rfl ?_;cbv;refine Yl hE eAq0 ex9 ?_;cbv;refine B2 hE hO 1 rfl ?_;cbv;refine Yl hE eAq0 ex9 ?_;cbv;refine Py hE (f:=As eAp0) hO hw6.ok 2 rfl hjx10 ?_;cbv;refine UA hE (f:=As eAp0) (fun _=>rfl) hO hw6.ok 2 rfl hjx10.1 hrx10 ?_;cbv;refine Yl hE eAq0 ex9 ?_;cbv;refine B9 hE eAp7 h fun x15 h=>?_;cbv;refine IP hE trivial ?_;cbv;refine Pg (f:=eAp0) hE Kk (by decide) (l:=x10) (m:=[x15]) (.refl _) (.lstc (.eq (eAp7 x15) (.refl _)) (.lst0)) h fun l16 h=>?_;cbv;refine LE hE hO 0 rfl fun t12 H hO htt12=>?_;cbv;refine Py hE (f:=As eAp0) hO hw6.ok 2 rfl hjx10 ?_;cbv;refine Rz hE (f:=As eAp0) (tz:=1) (x':=(l16,t12)) (fun _=>⟨.sl (lst eAp0 l16) t12,.refl _,rfl,rfl,rfl⟩) (by decide) hO hw6.ok 2 rfl hjx10 fun H hO=>?_;cbv;obtain⟨l14,hu,h⟩:=bind_some h;obtain⟨w13,hqw13,hw13,hO⟩:∃w0:Rw A8,w0.q=w6.q∧Bs w0 l14∧C2 Eq H0 (cb b4 [.own w0.q.id w0.q.lo w0.q.n]:: .blk w0.q.id (.arr 1 (w0.q.pre++lst (As eAp0) w0.row++w0.q.rest))::cb b1 [.sl [] .nil]::(Fy w0++[])) H:=⟨(⟨w6.q,w6.row.set (x9.Var).toNat (l16,t12)⟩:Rw A8),rfl,by rw[Qc hu];exact hw6.put _ htt12,(by have e:=hbx10 (l16,t12) H [cb b4 [.own w6.q.id w6.q.lo w6.q.n],.blk w6.q.id (.arr 1 (w6.q.pre++lst (As eAp0) (w6.row.set (x9.Var).toNat (l16,t12))++w6.q.rest)),cb b1 [.sl [] .nil]] hO;simp only[List.cons_append,List.nil_append,List.append_nil]at e ⊢;exact e)⟩
    try rw[←hqw13]
    cases h;exact⟨_,w13,rfl,.e2 (.e4 .z),rfl,hw13,hO⟩
   cbv;cases h;exact⟨_,w6,rfl,.e2 (.e4 .z),rfl,hw6,hO⟩
  cbv;cases h;exact⟨_,_,rfl,⟨w6,hw6,rfl,rfl,hO⟩,.e2 .z,rfl⟩
 ·exact .e2 (.e4 .z)
 ·exact⟨hw2,hO⟩
 clear hx;rintro e l H ⟨w17,hw17,rfl,rfl,hO⟩;cbv;refine Rb hE (e:=eAr0) eAr3 hO hw17 0 1 rfl rfl rfl (by decide) fun H hO=>?_;have hO:C2 Eq H0 [cb b4 [sr eAr0 s7],cb b1 [.sl [] .nil]] H:=hO.rdrop (w:=w17) (T1:=[]) (T2:=[]) 2 rfl;cbv;refine B2 hE hO 0 rfl ?_;cbv;refine B0 hE hO 1 rfl rfl fun H hO=>?_;cbv;refine B2 hE hO 1 rfl ?_;cbv;cases h;exact hK hO (.refl _)
def cf163 :Cf:=⟨[],[(5,21)],[],[],[],[]⟩
theorem c163 (N aA aC aF aG r) (h:CZ N aA aC aF aG=some r):B4 prog 163 [(C3 aA),sr eAp0 aC,sr eAp1 aF,vi aG] (sr eAp2 r):=by
 unfold CZ at h
 refine I6 cf163 func163 call163 ntmps163 ?_;intro E H0 K hE hK hO;cbv;replace hO:=hO.tl0 (t:=.nil) rfl;obtain⟨s3,hx,h⟩:=bind_some h;refine N0 cf163 hE L8 (γ:=D3) (fun s1 g=>[(1,.v (sr eAp0 aC)),(2,.v (sr eAp1 aF)),(4,.v (.eref (D6 aA) 0)),(9,.v (.sl (lst eAp2 s1.1) g)),fi 10 s1.2]) (fun s1 g H1=>L6 g∧C2 Eq H0 [.tl g] H1) (fun x e l H1=>∃u1:D3,L6 u1∧e= .exit 0∧l=[(9,.v (.sl (lst eAp2 x) u1))]∧C2 Eq H0 [.tl u1] H1) (by kernel_rfl) ?_ .nil hx ?_ ?_ ?_
 ·rintro s1 t2 H o ⟨ht2,hO⟩ h;clear hx;cbv;refine D5 hE ?_;cbv;refine A7 hE h (fun _ h=>?_) fun _ h=>?_
  ·cbv;refine B9 hE eAp7 h fun x4 h=>?_;cbv;refine A7 hE h (fun _ h=>?_) fun _ h=>?_
   ·cbv;refine C9 hE (g:=fun r5=>(Ed r5)) h (c207 N aC aF s1.2) (.refl _) fun r5 h=>?_;cbv;refine B9 hE eAp7 h fun x6 h=>?_;cbv;refine A4 hE h (c53 N aA.cR r5 aA.Var x6) (.refl _) fun r7 h=>?_;cbv;refine A7 hE h (fun _ h=>?_) fun _ h=>?_
    ·cbv;refine AT (f:=eAp2) hE Y5 (by decide) hO 0 rfl ht2 (l:=s1.1) (m:=[[(⟨aA.Var,s1.2⟩:A2)]]) (.refl _) (.lstc (.eq (eAq2 ([(⟨aA.Var,s1.2⟩:A2)])) (.lit _ (G0 ((eAq0 (⟨aA.Var,s1.2⟩:A2)).symm) (E8)))) (.lst0)) h fun l9 t8 H hO ht8 h=>?_;cbv;cases h;exact⟨_,t8,rfl,.e rfl (.e4 .z),rfl,ht8,hO⟩
    cbv;cases h;exact⟨_,t2,rfl,.e rfl (.e4 .z),rfl,ht2,hO⟩
   cbv;cases h;exact⟨_,t2,rfl,.e rfl (.e4 .z),rfl,ht2,hO⟩
  cbv;cases h;exact⟨_,_,rfl,⟨t2,ht2,rfl,rfl,hO⟩,.e rfl .z,rfl⟩
 ·exact .e rfl (.e2 (.v (.slt _ (.lst0)) (.e rfl (.z))))
 ·exact⟨trivial,hO⟩
 clear hx;rintro e l H ⟨t10,ht10,rfl,rfl,hO⟩;cbv;cases h;exact hK hO (.ro _ _)
def cf208 :Cf:=⟨[],[(3,16),(3000004,0),(3000004,1),(3000004,3),(3000004,6),(3000004,8),(3000004,9),(3000005,0),(3000005,1),(3000005,3),(3000005,6),(3000005,8),(3000005,9)],[],[2000004,2000005],[],[]⟩
set_option maxHeartbeats 2000000 in
theorem c208 (N aD aF r) (h:G5 N aD aF=some r):B4 prog 208 [sr eAp1 aD,sr eAp1 aF] (sr eAp1 r):=by
 unfold G5 at h
 refine I6 cf208 func208 call208 ntmps208 ?_;intro E H0 K hE hK hO;cbv;replace hO:=hO.tl0 (t:=.nil) rfl;obtain⟨s3,hx,h⟩:=bind_some h;refine N0 cf208 hE L8 (γ:=D3) (fun s1 g=>[(0,.v (sr eAp1 s1.1)),(1,.v (sr eAp1 s1.2.1)),(5,.v (.sl (lst eAp1 s1.2.2) g))]) (fun s1 g H1=>L6 g∧C2 Eq H0 [.tl g] H1) (fun x e l H1=>∃u1:D3,L6 u1∧e= .exit 0∧l=[(5,.v (.sl (lst eAp1 x) u1))]∧C2 Eq H0 [.tl u1] H1) (by kernel_rfl) ?_ .nil hx ?_ ?_ ?_
 ·rintro s1 t2 H o ⟨ht2,hO⟩ h;clear hx;cbv;refine D5 hE ?_;cbv;refine D5 hE ?_;cbv;refine A7 hE h (fun _ h=>?_) fun _ h=>?_
  ·cbv;refine D5 hE ?_;cbv;refine D5 hE ?_;cbv;refine A7 hE h (fun _ h=>?_) fun _ h=>?_
   ·cbv;obtain⟨s4,hx,h⟩:=bind_some h;refine S8 cf208 hE L8 (fun e l H1=>∃u1:D3,L6 u1∧e= .normal∧l=[(0,.v (sr eAp1 s4.1)),(1,.v (sr eAp1 s1.2.1)),(5,.v (.sl (lst eAp1 s4.2) u1))]∧C2 Eq H0 [.tl u1] H1) (by kernel_rfl) ?_ ?_
    ·clear h;have h:=hx;clear hx;cbv;obtain⟨x85,ex85,h⟩:=bind_some h;obtain⟨l206,el206,h⟩:=bind_some h;obtain⟨l285,el285,h⟩:=bind_some h
     repeat' first|refine And.intro ?_ ?_|(refine B9 hE eAq0 (ED ex85) fun x85 hh=>?_;obtain rfl:=G4 hh;cbv)|(refine AT (f:=eAp1) hE H8 (by decide) hO 0 rfl ht2 (l:=s1.2.2) (m:=[x85]) (.refl _) (.lstc (.eq (eAq0 x85) (.refl _)) (.lst0)) (ED el206) fun l206 t205 H hO ht205 hh=>?_;obtain rfl:=G4 hh;cbv)|(refine Gg hE (f:=eAp1) H8 (ED el285) fun l285 t286 hh=>?_;obtain rfl:=G4 hh;cbv)|(have h:=G4 h;subst h;exact⟨_,⟨t205,ht205,rfl,rfl,hO⟩,.v (.ro _ _) (.e2 .z),rfl⟩)
    clear hx;rintro e l H ⟨t445,ht445,rfl,rfl,hO⟩;cbv;cases h;exact⟨_,t445,rfl,.e rfl (.e2 .z),rfl,ht445,hO⟩
   cbv;refine A7 hE h (fun _ h=>?_) fun _ h=>?_
   ·cbv;refine B9 hE eAq0 h fun x446 h=>?_;cbv;refine B9 hE eAq0 h fun x447 h=>?_;cbv;refine A7 hE h (fun _ h=>?_) fun _ h=>?_
    ·cbv;obtain⟨s448,hx,h⟩:=bind_some h;refine S8 cf208 hE L8 (fun e l H1=>∃u1:D3,L6 u1∧e= .normal∧l=[(0,.v (sr eAp1 s448.1)),(1,.v (sr eAp1 s1.2.1)),(5,.v (.sl (lst eAp1 s448.2) u1))]∧C2 Eq H0 [.tl u1] H1) (by kernel_rfl) ?_ ?_
     ·clear h;have h:=hx;clear hx;cbv;obtain⟨x529,ex529,h⟩:=bind_some h;obtain⟨l650,el650,h⟩:=bind_some h;obtain⟨l729,el729,h⟩:=bind_some h
      repeat' first|refine And.intro ?_ ?_|(refine B9 hE eAq0 (ED ex529) fun x529 hh=>?_;obtain rfl:=G4 hh;cbv)|(refine AT (f:=eAp1) hE H8 (by decide) hO 0 rfl ht2 (l:=s1.2.2) (m:=[x529]) (.refl _) (.lstc (.eq (eAq0 x529) (.refl _)) (.lst0)) (ED el650) fun l650 t649 H hO ht649 hh=>?_;obtain rfl:=G4 hh;cbv)|(refine Gg hE (f:=eAp1) H8 (ED el729) fun l729 t730 hh=>?_;obtain rfl:=G4 hh;cbv)|(have h:=G4 h;subst h;exact⟨_,⟨t649,ht649,rfl,rfl,hO⟩,.v (.ro _ _) (.e2 .z),rfl⟩)
     clear hx;rintro e l H ⟨t889,ht889,rfl,rfl,hO⟩;cbv;cases h;exact⟨_,t889,rfl,.e rfl (.e2 .z),rfl,ht889,hO⟩
    cbv;obtain⟨s890,hx,h⟩:=bind_some h;refine S8 cf208 hE L8 (fun e l H1=>∃u1:D3,L6 u1∧e= .normal∧l=[(0,.v (sr eAp1 s1.1)),(1,.v (sr eAp1 s890.1)),(5,.v (.sl (lst eAp1 s890.2) u1))]∧C2 Eq H0 [.tl u1] H1) (by kernel_rfl) ?_ ?_
    ·clear h;have h:=hx;clear hx;cbv;obtain⟨x971,ex971,h⟩:=bind_some h;obtain⟨l1092,el1092,h⟩:=bind_some h;obtain⟨l1171,el1171,h⟩:=bind_some h
     repeat' first|refine And.intro ?_ ?_|(refine B9 hE eAq0 (ED ex971) fun x971 hh=>?_;obtain rfl:=G4 hh;cbv)|(refine AT (f:=eAp1) hE H8 (by decide) hO 0 rfl ht2 (l:=s1.2.2) (m:=[x971]) (.refl _) (.lstc (.eq (eAq0 x971) (.refl _)) (.lst0)) (ED el1092) fun l1092 t1091 H hO ht1091 hh=>?_;obtain rfl:=G4 hh;cbv)|(refine Gg hE (f:=eAp1) H8 (ED el1171) fun l1171 t1172 hh=>?_;obtain rfl:=G4 hh;cbv)|(have h:=G4 h;subst h;exact⟨_,⟨t1091,ht1091,rfl,rfl,hO⟩,.e rfl (.v (.ro _ _) (.e rfl (.z))),rfl⟩)
    clear hx;rintro e l H ⟨t1331,ht1331,rfl,rfl,hO⟩;cbv;cases h;exact⟨_,t1331,rfl,.e rfl (.e2 .z),rfl,ht1331,hO⟩
   cbv;obtain⟨s1332,hx,h⟩:=bind_some h;refine S8 cf208 hE L8 (fun e l H1=>∃u1:D3,L6 u1∧e= .normal∧l=[(0,.v (sr eAp1 s1.1)),(1,.v (sr eAp1 s1332.1)),(5,.v (.sl (lst eAp1 s1332.2) u1))]∧C2 Eq H0 [.tl u1] H1) (by kernel_rfl) ?_ ?_
   ·clear h;have h:=hx;clear hx;cbv;obtain⟨x1413,ex1413,h⟩:=bind_some h;obtain⟨l1534,el1534,h⟩:=bind_some h;obtain⟨l1613,el1613,h⟩:=bind_some h
    repeat' first|refine And.intro ?_ ?_|(refine B9 hE eAq0 (ED ex1413) fun x1413 hh=>?_;obtain rfl:=G4 hh;cbv)|(refine AT (f:=eAp1) hE H8 (by decide) hO 0 rfl ht2 (l:=s1.2.2) (m:=[x1413]) (.refl _) (.lstc (.eq (eAq0 x1413) (.refl _)) (.lst0)) (ED el1534) fun l1534 t1533 H hO ht1533 hh=>?_;obtain rfl:=G4 hh;cbv)|(refine Gg hE (f:=eAp1) H8 (ED el1613) fun l1613 t1614 hh=>?_;obtain rfl:=G4 hh;cbv)|(have h:=G4 h;subst h;exact⟨_,⟨t1533,ht1533,rfl,rfl,hO⟩,.e rfl (.v (.ro _ _) (.e rfl (.z))),rfl⟩)
   clear hx;rintro e l H ⟨t1773,ht1773,rfl,rfl,hO⟩;cbv;cases h;exact⟨_,t1773,rfl,.e rfl (.e2 .z),rfl,ht1773,hO⟩
  cbv;cases h;exact⟨_,_,rfl,⟨t2,ht2,rfl,rfl,hO⟩,.e rfl .z,rfl⟩
 ·exact .e2 (.v (.slt _ (.lst0)) (.z))
 ·exact⟨trivial,hO⟩
 clear hx;rintro e l H ⟨t1774,ht1774,rfl,rfl,hO⟩;cbv;cases h;exact hK hO (.ro _ _)
def cf248 :Cf:=⟨[],[(6,8)],[],[],[],[]⟩
theorem c248 (N aD aF r) (h:Da N aD aF=some r):B4 prog 248 [sr eAp1 aD,sr eAp1 aF] (.bool r):=by
 unfold Da at h
 refine I6 cf248 func248 call248 ntmps248 ?_;intro E H0 K hE hK hO;cbv;refine D5 hE ?_;cbv;refine D5 hE ?_;cbv;refine A7 hE h (fun _ h=>?_) fun _ h=>?_
 ·cbv;cases h;exact hK hO (.refl _)
 cbv;obtain⟨s2,hx,h⟩:=bind_some h;refine E6 cf248 hE L8 (fun s1=>[(0,.v (sr eAp1 aD)),(1,.v (sr eAp1 aF)),fi 5 s1]) (fun s1 H1=>C2 Eq H0 [] H1) (fun x e l H1=>match(generalizing:=false) x with| .inl y=>e= .exit 0∧l=[]∧C2 Eq H0 [] H1| .inr y=>e= .ret∧l=[(4,.b false)]∧C2 Eq H0 [] H1) (by kernel_rfl) ?_ hx ?_ hO ?_
 ·intro s1 H o hO h;clear hx;cbv;refine D5 hE ?_;cbv;refine A7 hE h (fun _ h=>?_) fun _ h=>?_
  ·cbv;refine B9 hE eAq0 h fun x3 h=>?_;cbv;refine B9 hE eAq0 h fun x4 h=>?_;cbv;refine A7 hE h (fun _ h=>?_) fun _ h=>?_
   ·cbv;cases h;exact⟨_,_,rfl,⟨rfl,rfl,hO⟩,.b rfl (.z),rfl⟩
   cbv;cases h;exact⟨_,rfl,.e rfl (.e2 .z),rfl,hO⟩
  cbv;cases h;exact⟨_,_,rfl,⟨rfl,rfl,hO⟩,.z,rfl⟩
 ·exact .e rfl (.e2 .z)
 clear hx
 rcases s2 with y5|y6
 ·rintro e l H ⟨rfl,rfl,hO⟩;cbv;cases h;exact hK hO (.refl _)
 rintro e l H ⟨rfl,rfl,hO⟩;cbv;cases h;exact hK hO (.refl _)
theorem c209 (N aC aI r) (h:S7 N aC aI=some r):Ae3 prog 209 [sr eAp1 aI] (lst eAp2 aC) (lst eAp2 r):=by
 unfold S7 at h
 intro H0 tl0 htl0 hap;refine Wl (T:=TT) cf0 L8 func209 (by rfl) (by kernel_rfl) call209 ntmps209 (by rfl) (by rfl) ?_;intro E K hE hK;have hO:C2 Eq (E3 H0 tl0) [.tl tl0] H0:=C2.startT hap;cbv;obtain⟨s2,hx,h⟩:=bind_some h;refine E6 cf0 hE L8 (fun s1=>[(0,.v (.sl (lst eAp2 aC) tl0)),(1,.v (sr eAp1 aI)),fi 5 s1]) (fun s1 H1=>C2 Eq (E3 H0 tl0) [.tl tl0] H1) (fun x e l H1=>match(generalizing:=false) x with| .inl y=>e= .exit 0∧l=[(0,.v (.sl (lst eAp2 aC) tl0)),(1,.v (sr eAp1 aI))]∧C2 Eq (E3 H0 tl0) [.tl tl0] H1| .inr y=>e= .ret∧l=[(4,.v (.sl (lst eAp2 aC) tl0))]∧C2 Eq (E3 H0 tl0) [.tl tl0] H1) (by kernel_rfl) ?_ hx ?_ hO ?_
 ·intro s1 H o hO h;clear hx;cbv;refine D5 hE ?_;cbv;refine A7 hE h (fun _ h=>?_) fun _ h=>?_
  ·cbv;refine B9 hE eAq2 h fun x3 h=>?_;cbv;refine A4 hE h (c248 N x3 aI) (.refl _) fun r4 h=>?_;cbv;refine A7 hE h (fun _ h=>?_) fun _ h=>?_
   ·cbv;cases h;exact⟨_,_,rfl,⟨rfl,rfl,hO⟩,.e rfl .z,rfl⟩
   cbv;cases h;exact⟨_,rfl,.e rfl (.e2 .z),rfl,hO⟩
  cbv;cases h;exact⟨_,_,rfl,⟨rfl,rfl,hO⟩,.e2 .z,rfl⟩
 ·exact .e rfl (.e2 .z)
 clear hx
 rcases s2 with y5|y8
 ·rintro e l H ⟨rfl,rfl,hO⟩;cbv;refine AT (f:=eAp2) hE Y5 (by decide) hO 0 rfl htl0 (l:=aC) (m:=[aI]) (.refl _) (.lstc (.eq (eAq2 aI) (.refl _)) (.lst0)) h fun l7 t6 H hO ht6 h=>?_;cbv;cases h;exact hK _ _ _ 0 _ (.refl _) (by rfl) ht6 hO
 rintro e l H ⟨rfl,rfl,hO⟩;cbv;cases h;exact hK _ _ _ 0 _ (.refl _) (by rfl) htl0 hO
theorem c249 (N aI bA r) (h:DS N aI bA=some r):B4 prog 249 [sr eAp1 aI,vi bA] (.bool r):=by
 unfold DS at h
 refine I6 cf0 func249 call249 ntmps249 ?_;intro E H0 K hE hK hO;cbv;obtain⟨s2,hx,h⟩:=bind_some h;refine E6 cf0 hE L8 (fun s1=>[(0,.v (sr eAp1 aI)),fi 1 bA,fi 5 s1]) (fun s1 H1=>C2 Eq H0 [] H1) (fun x e l H1=>match(generalizing:=false) x with| .inl y=>e= .exit 0∧l=[]∧C2 Eq H0 [] H1| .inr y=>e= .ret∧l=[(4,.b true)]∧C2 Eq H0 [] H1) (by kernel_rfl) ?_ hx ?_ hO ?_
 ·intro s1 H o hO h;clear hx;cbv;refine D5 hE ?_;cbv;refine A7 hE h (fun _ h=>?_) fun _ h=>?_
  ·cbv;refine B9 hE eAq0 h fun x3 h=>?_;cbv;refine A7 hE h (fun _ h=>?_) fun _ h=>?_
   ·cbv;cases h;exact⟨_,_,rfl,⟨rfl,rfl,hO⟩,.b rfl (.z),rfl⟩
   cbv;cases h;exact⟨_,rfl,.e rfl (.e2 .z),rfl,hO⟩
  cbv;cases h;exact⟨_,_,rfl,⟨rfl,rfl,hO⟩,.z,rfl⟩
 ·exact .e rfl (.e2 .z)
 clear hx
 rcases s2 with y4|y5
 ·rintro e l H ⟨rfl,rfl,hO⟩;cbv;cases h;exact hK hO (.refl _)
 rintro e l H ⟨rfl,rfl,hO⟩;cbv;cases h;exact hK hO (.refl _)
theorem c210 (N aD aF r) (h:BR N aD aF=some r):B4 prog 210 [sr eAp1 aD,sr eAp1 aF] (.bool r):=by
 unfold BR at h
 refine I6 cf0 func210 call210 ntmps210 ?_;intro E H0 K hE hK hO;cbv;obtain⟨s2,hx,h⟩:=bind_some h;refine E6 cf0 hE L8 (fun s1=>[(0,.v (sr eAp1 aD)),(1,.v (sr eAp1 aF)),fi 5 s1]) (fun s1 H1=>C2 Eq H0 [] H1) (fun x e l H1=>match(generalizing:=false) x with| .inl y=>e= .exit 0∧l=[]∧C2 Eq H0 [] H1| .inr y=>e= .ret∧l=[(4,.b false)]∧C2 Eq H0 [] H1) (by kernel_rfl) ?_ hx ?_ hO ?_
 ·intro s1 H o hO h;clear hx;cbv;refine D5 hE ?_;cbv;refine A7 hE h (fun _ h=>?_) fun _ h=>?_
  ·cbv;refine B9 hE eAq0 h fun x3 h=>?_;cbv;refine A4 hE h (c249 N aF x3.At) (.refl _) fun r4 h=>?_;cbv;refine A7 hE h (fun _ h=>?_) fun _ h=>?_
   ·cbv;cases h;exact⟨_,_,rfl,⟨rfl,rfl,hO⟩,.b rfl (.z),rfl⟩
   cbv;cases h;exact⟨_,rfl,.e rfl (.e2 .z),rfl,hO⟩
  cbv;cases h;exact⟨_,_,rfl,⟨rfl,rfl,hO⟩,.z,rfl⟩
 ·exact .e rfl (.e2 .z)
 clear hx
 rcases s2 with y5|y6
 ·rintro e l H ⟨rfl,rfl,hO⟩;cbv;cases h;exact hK hO (.refl _)
 rintro e l H ⟨rfl,rfl,hO⟩;cbv;cases h;exact hK hO (.refl _)
def cf211 :Cf:=⟨[],[(4,29)],[],[],[],[]⟩
theorem c211 (N aA aC aF aI r) (h:EQ N aA aC aF aI=some r):B4 prog 211 [(C3 aA),sr eAp0 aC,sr eAp1 aF,sr eAp1 aI] (.bool r):=by
 unfold EQ at h
 refine I6 cf211 func211 call211 ntmps211 ?_;intro E H0 K hE hK hO;cbv;refine B9 hE eAq0 h fun x1 h=>?_;cbv;obtain⟨s3,hx,h⟩:=bind_some h;refine E6 cf211 hE L8 (fun s2=>[(1,.v (sr eAp0 aC)),(2,.v (sr eAp1 aF)),(3,.v (sr eAp1 aI)),(4,.v (.eref (D6 aA) 0)),fi 9 s2]) (fun s2 H1=>C2 Eq H0 [] H1) (fun x e l H1=>match(generalizing:=false) x with| .inl y=>e= .exit 0∧l=[]∧C2 Eq H0 [] H1| .inr y=>e= .ret∧l=[(8,.b false)]∧C2 Eq H0 [] H1) (by kernel_rfl) ?_ hx ?_ hO ?_
 ·intro s2 H o hO h;clear hx;cbv;refine D5 hE ?_;cbv;refine B9 hE eAq0 h fun x4 h=>?_;cbv;refine A7 hE h (fun _ h=>?_) fun _ h=>?_
  ·cbv;refine C9 hE (g:=fun r5=>.bool r5) h (c249 N aI s2) (.refl _) fun r5 h=>?_;cbv;refine A7 hE h (fun _ h=>?_) fun _ h=>?_
   ·cbv;refine B9 hE eAp7 h fun x6 h=>?_;cbv;refine A7 hE h (fun _ h=>?_) fun _ h=>?_
    ·cbv;refine C9 hE (g:=fun r7=>sr eAp1 r7) h (c208 N aF aI) (.refl _) fun r7 h=>?_;cbv;refine C9 hE (g:=fun r8=>(Ed r8)) h (c207 N aC r7 s2) (.refl _) fun r8 h=>?_;cbv;refine B9 hE eAp7 h fun x9 h=>?_;cbv;refine A4 hE h (c53 N aA.cR r8 aA.Var x9) (.refl _) fun r10 h=>?_;cbv;refine A7 hE h (fun _ h=>?_) fun _ h=>?_
     ·cbv;cases h;exact⟨_,_,rfl,⟨rfl,rfl,hO⟩,.b rfl (.z),rfl⟩
     cbv;cases h;exact⟨_,rfl,.e rfl (.e4 .z),rfl,hO⟩
    cbv;cases h;exact⟨_,rfl,.e rfl (.e4 .z),rfl,hO⟩
   cbv;cases h;exact⟨_,rfl,.e rfl (.e4 .z),rfl,hO⟩
  cbv;cases h;exact⟨_,_,rfl,⟨rfl,rfl,hO⟩,.z,rfl⟩
 ·exact .e rfl (.e4 .z)
 clear hx
 rcases s3 with y11|y12
 ·rintro e l H ⟨rfl,rfl,hO⟩;cbv;cases h;exact hK hO (.refl _)
 rintro e l H ⟨rfl,rfl,hO⟩;cbv;cases h;exact hK hO (.refl _)
def cf168 :Cf:=⟨[],[(4,22),(5,10)],[],[],[],[]⟩
theorem c168 (N aA aC aF aI r)(h:CY N aA aC aF aI=some r):B4 prog 168 [(C3 aA),sr eAp0 aC,sr eAp1 aF,sr eAp1 aI] (.bool r):=by
 unfold CY at h
 refine I6 cf168 func168 call168 ntmps168 ?_;intro E H0 K hE hK hO;cbv;refine A7 hE h (fun _ h=>?_) fun _ h=>?_
 ·cbv;refine A4 hE h (c211 N aA aC aF aI) (.refl _) fun r1 h=>?_;cbv;cases h;exact hK hO (.refl _)
 cbv;refine A7 hE h (fun _ h=>?_) fun _ h=>?_
 ·cbv;refine D5 hE ?_;cbv;refine B9 hE eAq0 h fun x2 h=>?_;cbv;refine B9 hE eAp7 h fun x3 h=>?_;cbv;refine B9 hE eAq0 h fun x4 h=>?_;cbv;refine B9 hE eAp7 h fun x5 h=>?_;cbv;cases h;exact hK hO (.refl _)
 cbv;refine C9 hE (g:=fun r6=>sr eAp1 r6) h (c208 N aF aI) (.refl _) fun r6 h=>?_;cbv;refine D5 hE ?_;cbv;refine C9 hE (g:=fun r7=>(Ed r7)) h (c207 N aC r6 (Ar.len aC)) (.refl _) fun r7 h=>?_;cbv;refine A4 hE h (c53 N aA.cR r7 (-1) (⟨0,0,0,0,[]⟩:A8)) (.cons (.refl _) (.cons (.refl _) (.cons (.refl _) (.cons (.agg (.cons (.refl _) (.cons (.refl _) (.cons (.refl _) (.cons (.refl _) (.cons (.lit _ (E8)) (.refl _))))))) (.refl _))))) fun r8 h=>?_;cbv;cases h;exact hK hO (.refl _)
def cf129 :Cf:=⟨[],[(17,7)],[],[],[],[]⟩
def TF (N n:Nat):Prop:=∀(aA:A1) (aC:List A8) (aF:List A2) (aG:Int) (r:(List (List A2))),K4 N n aA aC aF aG=some r→B4 prog 129 [(C3 aA),sr eAp0 aC,sr eAp1 aF,vi aG] (sr eAp2 r)
def cf164 :Cf:=⟨[],[(9,14)],[],[],[],[]⟩
def Ab6 (N n:Nat):Prop:=∀(aW:List A1) (aC:List A8) (aF:List A2) (aG:Int) (r:(List (List A2))),Y7 N n aW aC aF aG=some r→B4 prog 164 [sr eAp4 aW,sr eAp0 aC,sr eAp1 aF,vi aG] (sr eAp2 r)
def Ak9 (N n:Nat):Prop:=∀(aW:List A1) (aC:List A8) (aF:List A2) (aG:Int) (r:(List (List A2))),DT N n aW aC aF aG=some r→B4 prog 165 [sr eAp4 aW,sr eAp0 aC,sr eAp1 aF,vi aG] (sr eAp2 r)
def cf166 :Cf:=⟨[],[(13,8),(14,10)],[],[],[],[]⟩
def Ak8 (N n:Nat):Prop:=∀(aW:List A1) (aC:List A8) (aF:List A2) (aG:Int) (r:(List (List A2))),DU N n aW aC aF aG=some r→B4 prog 166 [sr eAp4 aW,sr eAp0 aC,sr eAp1 aF,vi aG] (sr eAp2 r)
def cf167 :Cf:=⟨[],[(8,13)],[],[],[],[]⟩
def Ab5 (N n:Nat):Prop:=∀(aA:A1) (aC:List A8) (aF:List A2) (aG:Int) (r:(List (List A2))),V7 N n aA aC aF aG=some r→B4 prog 167 [(C3 aA),sr eAp0 aC,sr eAp1 aF,vi aG] (sr eAp2 r)
theorem k129 (N n:Nat) (ih129:TF N n) (ih164:Ab6 N n) (ih165:Ak9 N n) (ih166:Ak8 N n) (ih167:Ab5 N n):TF N (n+1):=by
 intro aA aC aF aG r h
 unfold K4 at h
 refine I6 cf129 func129 call129 ntmps129 ?_;intro E H0 K hE hK hO;cbv;refine A7 hE h (fun _ h=>?_) fun _ h=>?_
 ·cbv;refine A4 hE h (c163 N aA aC aF aG) (.refl _) fun r1 h=>?_;cbv;cases h;exact hK hO (.refl _)
 cbv;refine A7 hE h (fun _ h=>?_) fun _ h=>?_
 ·cbv;refine A4 hE h (ih164 aA.cP aC aF aG) (.refl _) fun r2 h=>?_;cbv;cases h;exact hK hO (.refl _)
 cbv;refine A7 hE h (fun _ h=>?_) fun _ h=>?_
 ·cbv;refine A4 hE h (ih165 aA.cP aC aF aG) (.refl _) fun r3 h=>?_;cbv;cases h;exact hK hO (.refl _)
 cbv;refine A7 hE h (fun _ h=>?_) fun _ h=>?_
 ·cbv;refine A4 hE h (ih166 aA.cP aC aF aG) (.refl _) fun r4 h=>?_;cbv;cases h;exact hK hO (.refl _)
 cbv;refine A7 hE h (fun _ h=>?_) fun _ h=>?_
 ·cbv;refine A4 hE h (ih167 aA aC aF aG) (.refl _) fun r5 h=>?_;cbv;cases h;exact hK hO (.refl _)
 cbv;refine B9 hE eAp3 h fun x6 h=>?_;cbv;refine A4 hE h (ih129 x6 aC aF aG) (.refl _) fun r7 h=>?_;cbv;replace hO:=hO.tl0 (t:=.nil) rfl;obtain⟨s10,hx,h⟩:=bind_some h;refine N0 cf129 hE L8 (γ:=D3) (fun s8 g=>[(1,.v (sr eAp0 aC)),(2,.v (sr eAp1 aF)),(4,.v (.eref (D6 aA) 0)),(9,.v (sr eAp2 r7)),(10,.v (.sl (lst eAp2 s8.1) g)),fi 11 s8.2]) (fun s8 g H1=>L6 g∧C2 Eq H0 [.tl g] H1) (fun x e l H1=>∃u1:D3,L6 u1∧e= .exit 1∧l=[(10,.v (.sl (lst eAp2 x) u1))]∧C2 Eq H0 [.tl u1] H1) (by kernel_rfl) ?_ .nil hx ?_ ?_ ?_
 ·rintro s8 t9 H o ⟨ht9,hO⟩ h;clear hx;cbv;refine D5 hE ?_;cbv;refine A7 hE h (fun _ h=>?_) fun _ h=>?_
  ·cbv;refine B9 hE eAq2 h fun x11 h=>?_;cbv;refine A4 hE h (c168 N aA aC aF x11) (.refl _) fun r12 h=>?_;cbv;refine A7 hE h (fun _ h=>?_) fun _ h=>?_
   ·cbv;refine B9 hE eAq2 h fun x13 h=>?_;cbv;refine AT (f:=eAp2) hE Y5 (by decide) hO 0 rfl ht9 (l:=s8.1) (m:=[x13]) (.refl _) (.lstc (.eq (eAq2 x13) (.refl _)) (.lst0)) h fun l15 t14 H hO ht14 h=>?_;cbv;cases h;exact⟨_,t14,rfl,.e2 (.e4 .z),rfl,ht14,hO⟩
   cbv;cases h;exact⟨_,t9,rfl,.e2 (.e4 .z),rfl,ht9,hO⟩
  cbv;cases h;exact⟨_,_,rfl,⟨t9,ht9,rfl,rfl,hO⟩,.e rfl .z,rfl⟩
 ·exact .e4 (.v (.slt _ (.lst0)) (.e rfl (.z)))
 ·exact⟨trivial,hO⟩
 clear hx;rintro e l H ⟨t16,ht16,rfl,rfl,hO⟩;cbv;cases h;exact hK hO (.ro _ _)
theorem k164 (N n:Nat) (ih129:TF N n) (ih164:Ab6 N n):Ab6 N (n+1):=by
 intro aW aC aF aG r h
 unfold Y7 at h
 refine I6 cf164 func164 call164 ntmps164 ?_;intro E H0 K hE hK hO;cbv;refine B9 hE eAp3 h fun x1 h=>?_;cbv;refine A4 hE h (ih129 x1 aC aF aG) (.refl _) fun r2 h=>?_;cbv;refine D5 hE ?_;cbv;refine A7 hE h (fun _ h=>?_) fun _ h=>?_
 ·cbv;cases h;exact hK hO (.refl _)
 cbv;replace hO:=hO.tl0 (t:=.nil) rfl;obtain⟨s5,hx,h⟩:=bind_some h;refine N0 cf164 hE L8 (γ:=D3) (fun s3 g=>[(0,.v (sr eAp4 aW)),(1,.v (sr eAp0 aC)),(2,.v (sr eAp1 aF)),(9,.v (sr eAp2 r2)),(10,.v (.sl (lst eAp2 s3.1) g)),fi 11 s3.2]) (fun s3 g H1=>L6 g∧C2 Eq H0 [.tl g] H1) (fun x e l H1=>∃u1:D3,L6 u1∧e= .exit 0∧l=[(10,.v (.sl (lst eAp2 x) u1))]∧C2 Eq H0 [.tl u1] H1) (by kernel_rfl) ?_ .nil hx ?_ ?_ ?_
 ·rintro s3 t4 H o ⟨ht4,hO⟩ h;clear hx;cbv;refine D5 hE ?_;cbv;refine A7 hE h (fun _ h=>?_) fun _ h=>?_
  ·cbv;refine B9 hE eAq2 h fun x6 h=>?_;cbv;refine Gg hE (f:=eAp4) GS h fun l7 t8 h=>?_;cbv;refine C9 hE (g:=fun r9=>sr eAp1 r9) h (c208 N aF x6) (.refl _) fun r9 h=>?_;cbv;refine D5 hE ?_;cbv;refine B9 hE eAq0 h fun x10 h=>?_;cbv;refine A4 hE h (ih164 l7 aC r9 (ar .add .i64 x10.At 1)) (.cons (.ro _ _) (.refl _)) fun r11 h=>?_;cbv;obtain⟨s14,hx,h⟩:=bind_some h;refine N0 cf164 hE L8 (γ:=D3) (fun s12 g=>[(0,.v (sr eAp4 aW)),(1,.v (sr eAp0 aC)),(2,.v (sr eAp1 aF)),(9,.v (sr eAp2 r2)),(10,.v (.sl (lst eAp2 s12.1) g)),fi 11 s3.2,(12,.v (sr eAp1 x6)),(13,.v (sr eAp2 r11)),fi 14 s12.2]) (fun s12 g H1=>L6 g∧C2 Eq H0 [.tl g] H1) (fun x e l H1=>∃u1:D3,L6 u1∧e= .exit 2∧l=[(0,.v (sr eAp4 aW)),(1,.v (sr eAp0 aC)),(2,.v (sr eAp1 aF)),(9,.v (sr eAp2 r2)),(10,.v (.sl (lst eAp2 x) u1)),fi 11 s3.2]∧C2 Eq H0 [.tl u1] H1) (by kernel_rfl) ?_ t4 hx ?_ ?_ ?_
   ·rintro s12 t13 H o ⟨ht13,hO⟩ h;clear hx;cbv;refine D5 hE ?_;cbv;refine A7 hE h (fun _ h=>?_) fun _ h=>?_
    ·cbv;refine B9 hE eAq2 h fun x15 h=>?_;cbv;refine A4 hE h (c208 N x6 x15) (.refl _) fun r16 h=>?_;cbv;refine JF hE (f:=eAp2) hO 0 rfl ht13 h (c209 N s12.1 r16) (.refl _) (.refl _) fun l17 t19 H hO ht19 h=>?_;cbv;cases h;exact⟨_,t19,rfl,.e rfl (.e4 (.e4 .z)),rfl,ht19,hO⟩
    cbv;cases h;exact⟨_,_,rfl,⟨t13,ht13,rfl,rfl,hO⟩,.e2 (.e4 .z),rfl⟩
   ·exact .e rfl (.e4 (.e4 .z))
   ·exact⟨ht4,hO⟩
   clear hx;rintro e l H ⟨t20,ht20,rfl,rfl,hO⟩;cbv;cases h;exact⟨_,t20,rfl,.e2 (.e4 .z),rfl,ht20,hO⟩
  cbv;cases h;exact⟨_,_,rfl,⟨t4,ht4,rfl,rfl,hO⟩,.e rfl .z,rfl⟩
 ·exact .e4 (.v (.slt _ (.lst0)) (.e rfl (.z)))
 ·exact⟨trivial,hO⟩
 clear hx;rintro e l H ⟨t21,ht21,rfl,rfl,hO⟩;cbv;cases h;exact hK hO (.ro _ _)
theorem k165 (N n:Nat) (ih129:TF N n):Ak9 N (n+1):=by
 intro aW aC aF aG r h
 unfold DT at h
 refine I6 cf0 func165 call165 ntmps165 ?_;intro E H0 K hE hK hO;cbv;replace hO:=hO.tl0 (t:=.nil) rfl;obtain⟨s3,hx,h⟩:=bind_some h;refine N0 cf0 hE L8 (γ:=D3) (fun s1 g=>[(0,.v (sr eAp4 aW)),(1,.v (sr eAp0 aC)),(2,.v (sr eAp1 aF)),fi 3 aG,(9,.v (.sl (lst eAp2 s1.1) g)),fi 10 s1.2]) (fun s1 g H1=>L6 g∧C2 Eq H0 [.tl g] H1) (fun x e l H1=>∃u1:D3,L6 u1∧e= .exit 0∧l=[(9,.v (.sl (lst eAp2 x) u1))]∧C2 Eq H0 [.tl u1] H1) (by kernel_rfl) ?_ .nil hx ?_ ?_ ?_
 ·rintro s1 t2 H o ⟨ht2,hO⟩ h;clear hx;cbv;refine D5 hE ?_;cbv;refine A7 hE h (fun _ h=>?_) fun _ h=>?_
  ·cbv;refine B9 hE eAp3 h fun x4 h=>?_;cbv;refine A4 hE h (ih129 x4 aC aF aG) (.refl _) fun r5 h=>?_;cbv;obtain⟨s8,hx,h⟩:=bind_some h;refine N0 cf0 hE L8 (γ:=D3) (fun s6 g=>[(0,.v (sr eAp4 aW)),(1,.v (sr eAp0 aC)),(2,.v (sr eAp1 aF)),fi 3 aG,(9,.v (.sl (lst eAp2 s6.1) g)),fi 10 s1.2,(11,.v (sr eAp2 r5)),fi 12 s6.2]) (fun s6 g H1=>L6 g∧C2 Eq H0 [.tl g] H1) (fun x e l H1=>∃u1:D3,L6 u1∧e= .exit 2∧l=[(0,.v (sr eAp4 aW)),(1,.v (sr eAp0 aC)),(2,.v (sr eAp1 aF)),fi 3 aG,(9,.v (.sl (lst eAp2 x) u1)),fi 10 s1.2]∧C2 Eq H0 [.tl u1] H1) (by kernel_rfl) ?_ t2 hx ?_ ?_ ?_
   ·rintro s6 t7 H o ⟨ht7,hO⟩ h;clear hx;cbv;refine D5 hE ?_;cbv;refine A7 hE h (fun _ h=>?_) fun _ h=>?_
    ·cbv;refine B9 hE eAq2 h fun x9 h=>?_;cbv;refine JF hE (f:=eAp2) hO 0 rfl ht7 h (c209 N s6.1 x9) (.refl _) (.refl _) fun l10 t12 H hO ht12 h=>?_;cbv;cases h;exact⟨_,t12,rfl,.e4 (.e4 .z),rfl,ht12,hO⟩
    cbv;cases h;exact⟨_,_,rfl,⟨t7,ht7,rfl,rfl,hO⟩,.e2 (.e4 .z),rfl⟩
   ·exact .e4 (.e4 .z)
   ·exact⟨ht2,hO⟩
   clear hx;rintro e l H ⟨t13,ht13,rfl,rfl,hO⟩;cbv;cases h;exact⟨_,t13,rfl,.e2 (.e4 .z),rfl,ht13,hO⟩
  cbv;cases h;exact⟨_,_,rfl,⟨t2,ht2,rfl,rfl,hO⟩,.e rfl .z,rfl⟩
 ·exact .e4 (.v (.slt _ (.lst0)) (.e rfl (.z)))
 ·exact⟨trivial,hO⟩
 clear hx;rintro e l H ⟨t14,ht14,rfl,rfl,hO⟩;cbv;cases h;exact hK hO (.ro _ _)
theorem k166 (N n:Nat) (ih129:TF N n):Ak8 N (n+1):=by
 intro aW aC aF aG r h
 unfold DU at h
 refine I6 cf166 func166 call166 ntmps166 ?_;intro E H0 K hE hK hO;cbv;refine B9 hE eAp3 h fun x1 h=>?_;cbv;refine A4 hE h (ih129 x1 aC aF aG) (.refl _) fun r2 h=>?_;cbv;obtain⟨s4,hx,h⟩:=bind_some h;refine E6 cf166 hE L8 (fun s3=>[(0,.v (sr eAp4 aW)),(1,.v (sr eAp0 aC)),(2,.v (sr eAp1 aF)),fi 3 aG,(9,.v (sr eAp2 s3.1)),fi 10 s3.2]) (fun s3 H1=>C2 Eq H0 [] H1) (fun x e l H1=>e= .exit 0∧l=[(9,.v (sr eAp2 x))]∧C2 Eq H0 [] H1) (by kernel_rfl) ?_ hx ?_ hO ?_
 ·intro s3 H o hO h;clear hx;cbv;refine D5 hE ?_;cbv;refine A7 hE h (fun _ h=>?_) fun _ h=>?_
  ·cbv;refine B9 hE eAp3 h fun x5 h=>?_;cbv;refine A4 hE h (ih129 x5 aC aF aG) (.refl _) fun r6 h=>?_;cbv;replace hO:=hO.tl0 (t:=.nil) rfl;obtain⟨s9,hx,h⟩:=bind_some h;refine N0 cf166 hE L8 (γ:=D3) (fun s7 g=>[(0,.v (sr eAp4 aW)),(1,.v (sr eAp0 aC)),(2,.v (sr eAp1 aF)),fi 3 aG,(9,.v (sr eAp2 s3.1)),fi 10 s3.2,(11,.v (sr eAp2 r6)),(12,.v (.sl (lst eAp2 s7.1) g)),fi 13 s7.2]) (fun s7 g H1=>L6 g∧C2 Eq H0 [.tl g] H1) (fun x e l H1=>∃u1:D3,L6 u1∧e= .exit 2∧l=[(0,.v (sr eAp4 aW)),(1,.v (sr eAp0 aC)),(2,.v (sr eAp1 aF)),fi 3 aG,fi 10 s3.2,(12,.v (.sl (lst eAp2 x) u1))]∧C2 Eq H0 [.tl u1] H1) (by kernel_rfl) ?_ .nil hx ?_ ?_ ?_
   ·rintro s7 t8 H o ⟨ht8,hO⟩ h;clear hx;cbv;refine D5 hE ?_;cbv;refine A7 hE h (fun _ h=>?_) fun _ h=>?_
    ·cbv;obtain⟨s12,hx,h⟩:=bind_some h;refine N0 cf166 hE L8 (γ:=D3) (fun s10 g=>[(0,.v (sr eAp4 aW)),(1,.v (sr eAp0 aC)),(2,.v (sr eAp1 aF)),fi 3 aG,(9,.v (sr eAp2 s3.1)),fi 10 s3.2,(11,.v (sr eAp2 r6)),(12,.v (.sl (lst eAp2 s10.1) g)),fi 13 s7.2,fi 14 s10.2]) (fun s10 g H1=>L6 g∧C2 Eq H0 [.tl g] H1) (fun x e l H1=>∃u1:D3,L6 u1∧e= .exit 4∧l=[(0,.v (sr eAp4 aW)),(1,.v (sr eAp0 aC)),(2,.v (sr eAp1 aF)),fi 3 aG,(9,.v (sr eAp2 s3.1)),fi 10 s3.2,(11,.v (sr eAp2 r6)),(12,.v (.sl (lst eAp2 x) u1)),fi 13 s7.2]∧C2 Eq H0 [.tl u1] H1) (by kernel_rfl) ?_ t8 hx ?_ ?_ ?_
     ·rintro s10 t11 H o ⟨ht11,hO⟩ h;clear hx;cbv;refine D5 hE ?_;cbv;refine A7 hE h (fun _ h=>?_) fun _ h=>?_
      ·cbv;refine B9 hE eAq2 h fun x13 h=>?_;cbv;refine B9 hE eAq2 h fun x14 h=>?_;cbv;refine A4 hE h (c210 N x13 x14) (.refl _) fun r15 h=>?_;cbv;refine A7 hE h (fun _ h=>?_) fun _ h=>?_
       ·cbv;refine B9 hE eAq2 h fun x16 h=>?_;cbv;refine B9 hE eAq2 h fun x17 h=>?_;cbv;refine C9 hE (g:=fun r18=>sr eAp1 r18) h (c208 N x16 x17) (.refl _) fun r18 h=>?_;cbv;refine JF hE (f:=eAp2) hO 0 rfl ht11 h (c209 N s10.1 r18) (.refl _) (.refl _) fun l19 t21 H hO ht21 h=>?_;cbv;cases h;exact⟨_,t21,rfl,.e2 (.e4 (.e4 .z)),rfl,ht21,hO⟩
       cbv;cases h;exact⟨_,t11,rfl,.e2 (.e4 (.e4 .z)),rfl,ht11,hO⟩
      cbv;cases h;exact⟨_,_,rfl,⟨t11,ht11,rfl,rfl,hO⟩,.e rfl (.e4 (.e4 .z)),rfl⟩
     ·exact .e2 (.e4 (.e4 .z))
     ·exact⟨ht8,hO⟩
     clear hx;rintro e l H ⟨t22,ht22,rfl,rfl,hO⟩;cbv;cases h;exact⟨_,t22,rfl,.e rfl (.e4 (.e4 .z)),rfl,ht22,hO⟩
    cbv;cases h;exact⟨_,_,rfl,⟨t8,ht8,rfl,rfl,hO⟩,.e2 (.e4 .z),rfl⟩
   ·exact .e rfl (.e2 (.e4 (.v (.slt _ (.lst0)) (.e rfl (.z)))))
   ·exact⟨trivial,hO⟩
   clear hx;rintro e l H ⟨t23,ht23,rfl,rfl,hO⟩;cbv;cases h;exact⟨_,rfl,.e4 (.v (.ro _ _) (.e rfl (.z))),rfl,hO.tail⟩
  cbv;cases h;exact⟨_,_,rfl,⟨rfl,rfl,hO⟩,.e rfl .z,rfl⟩
 ·exact .e2 (.e4 .z)
 clear hx;rintro e l H ⟨rfl,rfl,hO⟩;cbv;cases h;exact hK hO (.refl _)
theorem k167 (N n:Nat) (ih129:TF N n) (ih167:Ab5 N n):Ab5 N (n+1):=by
 intro aA aC aF aG r h
 unfold V7 at h
 refine I6 cf167 func167 call167 ntmps167 ?_;intro E H0 K hE hK hO;cbv;refine B9 hE eAp3 h fun x1 h=>?_;cbv;refine A4 hE h (ih129 x1 aC aF aG) (.refl _) fun r2 h=>?_;cbv;replace hO:=hO.tl0 (t:=.nil) rfl;obtain⟨s5,hx,h⟩:=bind_some h;refine N0 cf167 hE L8 (γ:=D3) (fun s3 g=>[(1,.v (sr eAp0 aC)),(2,.v (sr eAp1 aF)),(4,.v (.eref (D6 aA) 0)),(9,.v (sr eAp2 r2)),(10,.v (.sl (lst eAp2 s3.1) g)),fi 11 s3.2]) (fun s3 g H1=>L6 g∧C2 Eq H0 [.tl g] H1) (fun x e l H1=>∃u1:D3,L6 u1∧e= .exit 0∧l=[(10,.v (.sl (lst eAp2 x) u1))]∧C2 Eq H0 [.tl u1] H1) (by kernel_rfl) ?_ .nil hx ?_ ?_ ?_
 ·rintro s3 t4 H o ⟨ht4,hO⟩ h;clear hx;cbv;refine D5 hE ?_;cbv;refine A7 hE h (fun _ h=>?_) fun _ h=>?_
  ·cbv;refine B9 hE eAq2 h fun x6 h=>?_;cbv;refine JF hE (f:=eAp2) hO 0 rfl ht4 h (c209 N s3.1 x6) (.refl _) (.refl _) fun l7 t9 H hO ht9 h=>?_;cbv;refine C9 hE (g:=fun r10=>sr eAp1 r10) h (c208 N aF x6) (.refl _) fun r10 h=>?_;cbv;refine D5 hE ?_;cbv;refine B9 hE eAq0 h fun x11 h=>?_;cbv;refine A4 hE h (ih167 aA aC r10 (ar .add .i64 x11.At 1)) (.refl _) fun r12 h=>?_;cbv;obtain⟨s15,hx,h⟩:=bind_some h;refine N0 cf167 hE L8 (γ:=D3) (fun s13 g=>[(1,.v (sr eAp0 aC)),(2,.v (sr eAp1 aF)),(4,.v (.eref (D6 aA) 0)),(9,.v (sr eAp2 r2)),(10,.v (.sl (lst eAp2 s13.1) g)),fi 11 s3.2,(12,.v (sr eAp1 x6)),(13,.v (sr eAp2 r12)),fi 14 s13.2]) (fun s13 g H1=>L6 g∧C2 Eq H0 [.tl g] H1) (fun x e l H1=>∃u1:D3,L6 u1∧e= .exit 2∧l=[(1,.v (sr eAp0 aC)),(2,.v (sr eAp1 aF)),(4,.v (.eref (D6 aA) 0)),(9,.v (sr eAp2 r2)),(10,.v (.sl (lst eAp2 x) u1)),fi 11 s3.2]∧C2 Eq H0 [.tl u1] H1) (by kernel_rfl) ?_ t9 hx ?_ ?_ ?_
   ·rintro s13 t14 H o ⟨ht14,hO⟩ h;clear hx;cbv;refine D5 hE ?_;cbv;refine A7 hE h (fun _ h=>?_) fun _ h=>?_
    ·cbv;refine B9 hE eAq2 h fun x16 h=>?_;cbv;refine A4 hE h (c208 N x6 x16) (.refl _) fun r17 h=>?_;cbv;refine JF hE (f:=eAp2) hO 0 rfl ht14 h (c209 N s13.1 r17) (.refl _) (.refl _) fun l18 t20 H hO ht20 h=>?_;cbv;cases h;exact⟨_,t20,rfl,.e rfl (.e4 (.e4 .z)),rfl,ht20,hO⟩
    cbv;cases h;exact⟨_,_,rfl,⟨t14,ht14,rfl,rfl,hO⟩,.e2 (.e4 .z),rfl⟩
   ·exact .e rfl (.e4 (.e4 .z))
   ·exact⟨ht9,hO⟩
   clear hx;rintro e l H ⟨t21,ht21,rfl,rfl,hO⟩;cbv;cases h;exact⟨_,t21,rfl,.e2 (.e4 .z),rfl,ht21,hO⟩
  cbv;cases h;exact⟨_,_,rfl,⟨t4,ht4,rfl,rfl,hO⟩,.e rfl .z,rfl⟩
 ·exact .e4 (.v (.slt _ (.lst0)) (.e rfl (.z)))
 ·exact⟨trivial,hO⟩
 clear hx;rintro e l H ⟨t22,ht22,rfl,rfl,hO⟩;cbv;cases h;exact hK hO (.ro _ _)
theorem Hp (N:Nat):∀n,TF N n∧Ab6 N n∧Ak9 N n∧Ak8 N n∧Ab5 N n:=by
 intro n
 induction n with
 |zero=>exact⟨(by intro aA aC aF aG r h;unfold K4 at h;cases h),(by intro aW aC aF aG r h;unfold Y7 at h;cases h),(by intro aW aC aF aG r h;unfold DT at h;cases h),(by intro aW aC aF aG r h;unfold DU at h;cases h),(by intro aA aC aF aG r h;unfold V7 at h;cases h)⟩
 |succ n ih=>
  obtain⟨ih129,ih164,ih165,ih166,ih167⟩:=ih;exact⟨k129 N n ih129 ih164 ih165 ih166 ih167,k164 N n ih129 ih164,k165 N n ih129,k166 N n ih129,k167 N n ih129 ih167⟩
theorem c129 (N n aA aC aF aG r)(h:K4 N n aA aC aF aG=some r):B4 prog 129 [(C3 aA),sr eAp0 aC,sr eAp1 aF,vi aG] (sr eAp2 r):=(Hp N n).1 aA aC aF aG r h
def cf130 :Cf:=⟨[4,5],[(5,18)],[],[],[],[]⟩
theorem c130 (N aC aI r) (h:Z5 N aC aI=some r):B4 prog 130 [sr eAp0 aC,sr eAp1 aI] ((W9 r)):=by
 unfold Z5 at h
 refine I6 cf130 func130 call130 ntmps130 ?_;intro E H0 K hE hK hO;cbv;refine C6 hE hO fun b1 H hO=>?_;cbv;refine C6 hE hO fun b2 H hO=>?_;cbv;replace hO:=hO.cast (L':=[cb b2 [.sl (lst eAq1 ([])) .nil],cb b1 [.sl [] .nil]]) (by simp only[ob,cb,sr,←E8]<;>rfl);replace hO:=hO.tl0 (t:=.nil) rfl;obtain⟨s5,hx,h⟩:=bind_some h;refine N0 cf130 hE L8 (γ:=D3) (fun s3 g=>[(0,.v (sr eAp0 aC)),(1,.v (sr eAp1 aI)),(4,.v (.ref b1 0)),(5,.v (.ref b2 0)),fi 6 s3.1]) (fun s3 g H1=>L6 g∧C2 Eq H0 [.tl g,cb b2 [.sl (lst eAq1 s3.2.cQ) g],cb b1 [.sl [] .nil]] H1) (fun x e l H1=>∃u1:D3,L6 u1∧e= .exit 0∧l=[(4,.v (.ref b1 0)),(5,.v (.ref b2 0))]∧C2 Eq H0 [.tl u1,cb b2 [.sl (lst eAq1 x.cQ) u1],cb b1 [.sl [] .nil]] H1) (by kernel_rfl) ?_ .nil hx ?_ ?_ ?_
 ·rintro s3 t4 H o ⟨ht4,hO⟩ h;clear hx;cbv;refine D5 hE ?_;cbv;refine A7 hE h (fun _ h=>?_) fun _ h=>?_
  ·cbv;refine B2 hE hO 1 rfl ?_;cbv;refine B9 hE eAq0 h fun x6 h=>?_;cbv;refine B9 hE eAq0 h fun x7 h=>?_;cbv;refine B9 hE eAp7 h fun x8 h=>?_;cbv;refine C9 hE (g:=fun r9=>(GQ r9)) h (c27 N x8) (.refl _) fun r9 h=>?_;cbv;refine AT (f:=eAq1) hE KR (by decide) hO 0 rfl ht4 (l:=s3.2.cQ) (m:=[(⟨x6.Var,r9⟩:D1)]) (.refl _) (.lstc (.eq (eAq5 (⟨x6.Var,r9⟩:D1)) (.refl _)) (.lst0)) h fun l11 t10 H hO ht10 h=>?_;cbv;refine B0 hE hO 1 rfl rfl fun H hO=>?_;cbv;cases h;exact⟨_,t10,rfl,.e rfl (.e4 .z),rfl,ht10,hO⟩
  cbv;cases h;exact⟨_,_,rfl,⟨t4,ht4,rfl,rfl,hO⟩,.e2 .z,rfl⟩
 ·exact .e rfl (.e4 .z)
 ·exact⟨trivial,hO⟩
 clear hx;rintro e l H ⟨t12,ht12,rfl,rfl,hO⟩;cbv;refine B2 hE hO 1 rfl ?_;cbv;refine B0 hE hO 2 rfl rfl fun H hO=>?_;cbv;refine B2 hE hO 2 rfl ?_;cbv;cases h;exact hK hO (.agg (.cons (.ro _ _) (.refl _)))
def cf71 :Cf:=⟨[46,6000006],[(8,9),(3000011,0),(3000011,1),(3000011,3),(3000011,6),(3000011,8)],[],[2000011],[],[]⟩
set_option maxHeartbeats 2000000 in
theorem c71 (N aA aC r) (h:CA N aA aC=some r):B4 prog 71 [(C3 aA),sr eAp0 aC] (sr eAp6 r):=by
 unfold CA at h
 refine HD (T:=TT) cf71 L8 func71 (by rfl) (by kernel_rfl) call71 ntmps71 (by rfl) (by rfl) ?_;intro E H0 K hE hK hF;have hO:C2 Eq H0 [] H0:=.start F9 rfl;cbv;refine A4 hE h (c129 N N aA aC ([]) 0) (.cons (.refl _) (.cons (.refl _) (.cons (.lit _ (E8)) (.refl _)))) fun r1 h=>?_;cbv;refine ST hE (f:=eAp6) hO fun q2 H hq2 hO=>?_;cbv;obtain⟨s5,hx,h⟩:=bind_some h;refine N0 cf71 hE L8 (γ:=OG) (fun s3 g=>[(1,.v (sr eAp0 aC)),(5,.v (sr eAp2 r1)),(6,.v (.own g.id g.lo g.n)),fi 7 s3.1]) (fun s3 g H1=>EG g (Ar.len s3.2)∧C2 Eq H0 [ob g 1 eAp6 s3.2] H1) (fun x e l H1=>∃u1:OG,EG u1 (Ar.len x)∧e= .exit 0∧l=[(6,.v (.own u1.id u1.lo u1.n))]∧C2 Eq H0 [ob u1 1 eAp6 x] H1) (by kernel_rfl) ?_ q2 hx ?_ ?_ ?_
 ·rintro s3 q4 H o ⟨hq4,hO⟩ h;clear hx;cbv;refine D5 hE ?_;cbv;refine A7 hE h (fun _ h=>?_) fun _ h=>?_
  ·cbv;refine B9 hE eAq2 h fun x6 h=>?_;cbv;refine A4 hE h (c130 N aC x6) (.refl _) fun r7 h=>?_;cbv;refine Ag4 hE hq4 ?_;cbv;obtain⟨s9,hx,h⟩:=bind_some h;refine E6 cf71 hE L8 (fun s8=>[(1,.v (sr eAp0 aC)),(5,.v (sr eAp2 r1)),(6,.v (.own q4.id q4.lo q4.n)),fi 7 s3.1,(8,.v (.eref (Bh r7) 0)),fi 9 s8]) (fun s8 H1=>C2 Eq H0 [ob q4 1 eAp6 s3.2] H1) (fun x e l H1=>e= .exit 2∧l=[(1,.v (sr eAp0 aC)),(5,.v (sr eAp2 r1)),(6,.v (.own q4.id q4.lo q4.n)),fi 7 s3.1,(8,.v (.eref (Bh r7) 0)),fi 9 x]∧C2 Eq H0 [ob q4 1 eAp6 s3.2] H1) (by kernel_rfl) ?_ hx ?_ hO ?_
   ·intro s8 H o hO h;clear hx;cbv;refine A7 hE h (fun _ h=>?_) fun _ h=>?_
    ·cbv;refine XA hE hO hq4 0 rfl h fun h=>?_;cbv;refine Uh hE eAq6 hO hq4 0 rfl h fun x10 h=>?_;cbv;refine A4 hE h (c33 N r7 x10) (.refl _) fun r11 h=>?_;cbv;refine A7 hE h (fun _ h=>?_) fun _ h=>?_
     ·cbv;cases h;exact⟨_,rfl,.e2 (.e4 .z),rfl,hO⟩
     cbv;cases h;exact⟨_,_,rfl,⟨rfl,rfl,hO⟩,.e2 (.e4 .z),rfl⟩
    cbv;cases h;exact⟨_,_,rfl,⟨rfl,rfl,hO⟩,.e2 (.e4 .z),rfl⟩
   ·exact .e2 (.e4 .z)
   clear hx;rintro e l H ⟨rfl,rfl,hO⟩;cbv;refine VK hE hO hq4 0 rfl h fun l13 q12 hq12 h=>?_;cbv;refine ZC (f:=eAp6) hE DR (by decide) hO (.inr rfl) (m:=l13) (hq12) h fun l15 q14 H hq14 hO h=>?_;cbv;obtain⟨s16,hx,h⟩:=bind_some h;refine S8 cf71 hE L8 (fun e l H1=>∃u1:OG,EG u1 (Ar.len s16)∧e= .normal∧l=[(1,.v (sr eAp0 aC)),(5,.v (sr eAp2 r1)),(6,.v (.own u1.id u1.lo u1.n)),fi 7 s3.1]∧C2 Eq H0 [ob q14 1 eAp6 l15,ob u1 1 eAp6 s16] H1) (by kernel_rfl) ?_ ?_
   ·clear h;have h:=hx;clear hx;cbv;obtain⟨l98,el98,h⟩:=bind_some h;obtain⟨l218,el218,h⟩:=bind_some h;obtain⟨l298,el298,h⟩:=bind_some h
    repeat' first|refine And.intro ?_ ?_|(refine Rd hE hO hq4 1 rfl (ED el98) fun l98 q97 hq97 hO hh=>?_;obtain rfl:=G4 hh;cbv)|(refine Gi (f:=eAp6) hE DR (by decide) hO hq97 1 rfl (m:=[r7]) (GU (f:=eAp6) hE DR (.lstc (.eq (eAq6 r7) (.refl _)) (.lst0))) (ED el218) fun l218 q217 H hq217 hO hh=>?_;obtain rfl:=G4 hh;cbv)|(refine Gi (f:=eAp6) hE DR (by decide) hO hq217 1 rfl (m:=l15) (OL hE hO hq14 0 rfl) (ED el298) fun l298 q297 H hq297 hO hh=>?_;obtain rfl:=G4 hh;cbv)|(have h:=G4 h;subst h;exact⟨_,⟨q297,hq297,rfl,rfl,hO⟩,.e4 .z,rfl⟩)
   clear hx;rintro e l H ⟨q417,hq417,rfl,rfl,hO⟩;cbv;cases h;exact⟨_,q417,rfl,.e4 .z,rfl,hq417,hO.tail⟩
  cbv;cases h;exact⟨_,_,rfl,⟨q4,hq4,rfl,rfl,hO⟩,.e rfl .z,rfl⟩
 ·exact .e4 .z
 ·exact⟨hq2,hO⟩
 clear hx;rintro e l H ⟨q418,hq418,rfl,rfl,hO⟩;cbv;cases h;exact hF q418 _ _ 0 _ _ hO rfl (HW hE hq418) (.refl _)
end Go.Ab
namespace Go.Ab
open Go.RowKit Go.Proofs Go.Proofs.Tryz H7
variable [Ar][H7]
set_option maxRecDepth 100000
end Go.Ab
namespace Go.Ab
variable [Ar]
def Dc (N:Nat) (aC:List D0) (aT:D0):Option Bool:=
 (loopN
  (fun(s1:Int)=>
   (
    if cmp .lss s1 (Ar.len aC)=true then
     (B6 aC s1).bind fun x3=>
     (M8 N x3 aT).bind fun r4=>
     if cmp .eql r4 0=true then
      some (.inr (.inr ()))
     else
      some (.inl (ar .add .i64 s1 1))
    else
     some (.inr (.inl ()))
    :Option ((Int) ⊕ (Unit ⊕ Unit))))
  N 0).bind fun s2=>
 match s2 with
 | .inl y5=>
  some false
 | .inr y6=>
  some true
def Ai (N:Nat)(aY:Int)(bK:Int):Option Bool:=
 some (Ar.an (cmp .geq aY 0) (cmp .leq aY bK))
def Dk (N : Nat) (aT:D0):Option Int:=
 if cmp .eql (Ar.len aT.cQ) 0=true then
  some 15
 else
  if cmp .gtr (Ar.len aT.cQ) 4096=true then
   some 5
  else
   (loopN
    (fun (s1 :Int)=>
     (
      if cmp .lss s1 (Ar.len aT.cQ)=true then
       (B6 aT.cQ s1).bind fun x3=>
       (Ai N x3.Var 15).bind fun r5=>
       if nt r5=true then
        some (.inr (.inr 2))
       else
        (Ai N x3.Ref.Time 1099511627776).bind fun r6=>
        if nt r6=true then
         some (.inr (.inr 2))
        else
         (Ai N x3.Ref.Source 7).bind fun r7=>
         if nt r7=true then
          some (.inr (.inr 2))
         else
          (Ai N x3.Ref.Seq 1099511627776).bind fun r8=>
          if nt r8=true then
           some (.inr (.inr 2))
          else
           if cmp .gtr s1 0=true then
            (B6 aT.cQ (ar .sub .i64 s1 1)).bind fun x9=>
            (BJ N x9.Ref x3.Ref).bind fun r10=>
            if cmp .geq r10 0=true then
             some (.inr (.inr 14))
            else
             some (.inl (ar .add .i64 s1 1))
           else
            some (.inl (ar .add .i64 s1 1))
      else
       some (.inr (.inl ()))
      :Option ((Int) ⊕ (Unit ⊕ Int))))
    N 0).bind fun s2=>
   match s2 with
   | .inl y11=>
    some 0
   | .inr y12=>
    some y12
def E2 (N:Nat) (aN:List D0) (bR:D0) (bO:D0→D0→Option Int):Option (Int×Bool):=
 (loopN
  (fun(s1:Int×Int)=>
   (
    if cmp .lss s1.1 s1.2=true then
     (B6 aN (wr .i64 (sh .shr .u64 (wr .u64 (ar .add .i64 s1.1 s1.2)) 1))).bind fun x3=>
     (bO x3 bR).bind fun r4=>
     if cmp .lss r4 0=true then
      some (.inl (ar .add .i64 (wr .i64 (sh .shr .u64 (wr .u64 (ar .add .i64 s1.1 s1.2)) 1)) 1,s1.2))
     else
      some (.inl (s1.1,wr .i64 (sh .shr .u64 (wr .u64 (ar .add .i64 s1.1 s1.2)) 1)))
    else
     some (.inr s1.1)
    :Option ((Int×Int) ⊕ (Int))))
  N (0,Ar.len aN)).bind fun s2=>
 if cmp .lss s2 (Ar.len aN)=true then
  (B6 aN s2).bind fun x5=>
  (bO x5 bR).bind fun r6=>
  some (s2,cmp .eql r6 0)
 else
  some (s2,false)
def BG (N:Nat) (aA:A1) (aC:List A8) (aT:D0):Option (Bool×Int):=
 (M4 N aA aC).bind fun r1=>
 if cmp .neq r1.2 0=true then
  some (false,r1.2)
 else
  (Dk N aT).bind fun r2=>
  if cmp .neq r2 0=true then
   some (false,r2)
  else
   (E2 N r1.1 aT (fun y1 y2=>N8 N y1 y2)).bind fun r3=>
   some (r3.2,0)
def Cg (N:Nat)(bS:Ds):Option Bool:=
 (Ba N (⟨bS.Source,bS.Seq,0,bS.Time,[]⟩:A8)).bind fun r1=>
 some r1
def De (N :Nat) (aT:D0):Option Int:=
 if cmp .eql (Ar.len aT.cQ) 0=true then
  some 15
 else
  if cmp .gtr (Ar.len aT.cQ) 4096=true then
   some 5
  else
   (loopN
    (fun (s1:Int)=>
     (
      if cmp .lss s1 (Ar.len aT.cQ)=true then
       (B6 aT.cQ s1).bind fun x3=>
       if Ar.or (cmp .lss x3.Var 0) (cmp .geq x3.Var 16)=true then
        some (.inr (.inr 2))
       else
        (Cg N x3.Ref).bind fun r4=>
        if nt r4=true then
         some (.inr (.inr 2))
        else
         if cmp .gtr s1 0=true then
          (B6 aT.cQ (ar .sub .i64 s1 1)).bind fun x5=>
          (Z8 N x5.Ref x3.Ref).bind fun r6=>
          if cmp .geq r6 0=true then
           some (.inr (.inr 14))
          else
           some (.inl (ar .add .i64 s1 1))
         else
          some (.inl (ar .add .i64 s1 1))
      else
       some (.inr (.inl ()))
      :Option ((Int) ⊕ (Unit ⊕ Int))))
    N 0).bind fun s2=>
   match s2 with
   | .inl y7=>
    some 0
   | .inr y8=>
    some y8
def ES (N:Nat) (aA:A1) (aC:List A8) (aT:D0):Option (Bool×Int):=
 (BS N aA aC).bind fun r1=>
 if cmp .neq r1 0=true then
  some (false,r1)
 else
  (De N aT).bind fun r2=>
  if cmp .neq r2 0=true then
   some (false,r2)
  else
   (CA N aA aC).bind fun r3=>
   (Dc N r3 aT).bind fun r4=>
   some (r4,0)
def X5 (N:Nat) (aA:A1) (aC:List A8) (aT:D0):Option Bool:=
 (Db N aA aC).bind fun r1=>
 if Ar.or (nt r1) (cmp .gtr (Ar.len aT.cQ) 20)=true then
  (BZ N).bind fun r2=>
  some r2
 else
  (BG N aA aC aT).bind fun r3=>
  (ES N aA aC aT).bind fun r4=>
  if Ar.an (Ar.beq r3.1 r4.1) (cmp .eql r3.2 r4.2)=true then
   (BZ N).bind fun r5=>
   some r5
  else
   some false
end Go.Ab
namespace Go.Ab
open Go.RowKit Go.Proofs Go.Proofs.Tryz H7
variable [Ar][H7]
set_option maxRecDepth 100000
def cf24 :Cf:=⟨[],[(4,5)],[],[],[],[]⟩
theorem c24 (N aC aT r) (h:Dc N aC aT=some r):B4 prog 24 [sr eAp6 aC,(W9 aT)] (.bool r):=by
 unfold Dc at h
 refine I6 cf24 func24 call24 ntmps24 ?_;intro E H0 K hE hK hO;cbv;obtain⟨s2,hx,h⟩:=bind_some h;refine E6 cf24 hE L8 (fun s1=>[(0,.v (sr eAp6 aC)),(3,.v (.eref (Bh aT) 0)),fi 5 s1]) (fun s1 H1=>C2 Eq H0 [] H1) (fun x e l H1=>match(generalizing:=false) x with| .inl y=>e= .exit 0∧l=[]∧C2 Eq H0 [] H1| .inr y=>e= .ret∧l=[(4,.b true)]∧C2 Eq H0 [] H1) (by kernel_rfl) ?_ hx ?_ hO ?_
 ·intro s1 H o hO h;clear hx;cbv;refine D5 hE ?_;cbv;refine A7 hE h (fun _ h=>?_) fun _ h=>?_
  ·cbv;refine B9 hE eAq6 h fun x3 h=>?_;cbv;refine A4 hE h (c33 N x3 aT) (.refl _) fun r4 h=>?_;cbv;refine A7 hE h (fun _ h=>?_) fun _ h=>?_
   ·cbv;cases h;exact⟨_,_,rfl,⟨rfl,rfl,hO⟩,.b rfl (.z),rfl⟩
   cbv;cases h;exact⟨_,rfl,.e rfl (.e2 .z),rfl,hO⟩
  cbv;cases h;exact⟨_,_,rfl,⟨rfl,rfl,hO⟩,.z,rfl⟩
 ·exact .e rfl (.e2 .z)
 clear hx
 rcases s2 with y5|y6
 ·rintro e l H ⟨rfl,rfl,hO⟩;cbv;cases h;exact hK hO (.refl _)
 rintro e l H ⟨rfl,rfl,hO⟩;cbv;cases h;exact hK hO (.refl _)
theorem c138 (N aY bK r)(h:Ai N aY bK=some r):B4 prog 138 [vi aY,vi bK] (.bool r):=by
 unfold Ai at h
 refine I6 cf0 func138 call138 ntmps138 ?_;intro E H0 K hE hK hO;cbv;cases h;exact hK hO (.refl _)
def cf100 :Cf:=⟨[4],[(10,12)],[],[],[],[]⟩
theorem c100 (N aT r) (h:Dk N aT=some r):B4 prog 100 [(W9 aT)] (vi r):=by
 unfold Dk at h
 refine I6 cf100 func100 call100 ntmps100 ?_;intro E H0 K hE hK hO;cbv;refine D5 hE ?_;cbv;refine A7 hE h (fun _ h=>?_) fun _ h=>?_
 ·cbv;cases h;exact hK hO (.refl _)
 cbv;refine D5 hE ?_;cbv;refine A7 hE h (fun _ h=>?_) fun _ h=>?_
 ·cbv;cases h;exact hK hO (.refl _)
 cbv;refine D5 hE ?_;cbv;obtain⟨s2,hx,h⟩:=bind_some h;refine E6 cf100 hE L8 (fun s1=>[(1,.v (.eref (Bh aT) 0)),(16,.v (sr eAq1 aT.cQ)),fi 17 (Ar.len aT.cQ),fi 18 s1]) (fun s1 H1=>C2 Eq H0 [] H1) (fun x e l H1=>match(generalizing:=false) x with| .inl y=>e= .exit 1∧l=[]∧C2 Eq H0 [] H1| .inr y=>e= .ret∧l=[fi 2 y]∧C2 Eq H0 [] H1) (by kernel_rfl) ?_ hx ?_ hO ?_
 ·intro s1 H o hO h;clear hx;cbv;refine A7 hE h (fun _ h=>?_) fun _ h=>?_
  ·cbv;refine B9 hE eAq5 h fun x3 h=>?_;cbv;refine C6 hE hO fun b4 H hO=>?_;cbv;refine B0 hE hO 0 rfl rfl fun H hO=>?_;cbv;refine B2 hE hO 0 rfl ?_;cbv;refine A4 hE h (c138 N x3.Var 15) (.refl _) fun r5 h=>?_;cbv;refine B2 hE hO 0 rfl ?_;cbv;refine A7 hE h (fun _ h=>?_) fun _ h=>?_
   ·cbv;cases h;exact⟨_,_,rfl,⟨rfl,rfl,hO.tail⟩,.e rfl .z,rfl⟩
   cbv;refine A4 hE h (c138 N x3.Ref.Time 1099511627776) (.refl _) fun r6 h=>?_;cbv;refine B2 hE hO 0 rfl ?_;cbv;refine A7 hE h (fun _ h=>?_) fun _ h=>?_
   ·cbv;cases h;exact⟨_,_,rfl,⟨rfl,rfl,hO.tail⟩,.e rfl .z,rfl⟩
   cbv;refine A4 hE h (c138 N x3.Ref.Source 7) (.refl _) fun r7 h=>?_;cbv;refine B2 hE hO 0 rfl ?_;cbv;refine A7 hE h (fun _ h=>?_) fun _ h=>?_
   ·cbv;cases h;exact⟨_,_,rfl,⟨rfl,rfl,hO.tail⟩,.e rfl .z,rfl⟩
   cbv;refine A4 hE h (c138 N x3.Ref.Seq 1099511627776) (.refl _) fun r8 h=>?_;cbv;refine A7 hE h (fun _ h=>?_) fun _ h=>?_
   ·cbv;cases h;exact⟨_,_,rfl,⟨rfl,rfl,hO.tail⟩,.e rfl .z,rfl⟩
   cbv;refine A7 hE h (fun _ h=>?_) fun _ h=>?_
   ·cbv;refine B9 hE eAq5 h fun x9 h=>?_;cbv;refine B2 hE hO 0 rfl ?_;cbv;refine A4 hE h (c139 N x9.Ref x3.Ref) (.refl _) fun r10 h=>?_;cbv;refine A7 hE h (fun _ h=>?_) fun _ h=>?_
    ·cbv;cases h;exact⟨_,_,rfl,⟨rfl,rfl,hO.tail⟩,.e rfl .z,rfl⟩
    cbv;cases h;exact⟨_,rfl,.e4 .z,rfl,hO.tail⟩
   cbv;cases h;exact⟨_,rfl,.e4 .z,rfl,hO.tail⟩
  cbv;cases h;exact⟨_,_,rfl,⟨rfl,rfl,hO⟩,.z,rfl⟩
 ·exact .e4 .z
 clear hx
 rcases s2 with y11|y12
 ·rintro e l H ⟨rfl,rfl,hO⟩;cbv;cases h;exact hK hO (.refl _)
 rintro e l H ⟨rfl,rfl,hO⟩;cbv;cases h;exact hK hO (.refl _)
def cf101 :Cf:=⟨[],[(5,6),(8,15)],[],[],[],[]⟩
theorem c101 (N:Nat) (aN:List D0) (bR:D0) (bV:V) (bO:D0→D0→Option Int) (cH:∀y1 y2 q,bO y1 y2=some q→W4 prog bV [(W9 y1),(W9 y2)] (vi q)) (r:(Int×Bool)) (h:E2 N aN bR bO=some r):B4 prog 101 [sr eAp6 aN,(W9 bR),bV] (.tup [vi r.1,.bool r.2]):=by
 unfold E2 at h
 refine I6 cf101 func101 call101 ntmps101 ?_;intro E H0 K hE hK hO;cbv;refine D5 hE ?_;cbv;obtain⟨s2,hx,h⟩:=bind_some h;refine E6 cf101 hE L8 (fun s1=>[(0,.v (sr eAp6 aN)),(2,.v (bV)),(4,.v (.eref (Bh bR) 0)),fi 8 (Ar.len aN),fi 9 s1.1,fi 10 s1.2]) (fun s1 H1=>C2 Eq H0 [] H1) (fun x e l H1=>e= .exit 0∧l=[(0,.v (sr eAp6 aN)),(2,.v (bV)),(4,.v (.eref (Bh bR) 0)),fi 8 (Ar.len aN),fi 9 x]∧C2 Eq H0 [] H1) (by kernel_rfl) ?_ hx ?_ hO ?_
 ·intro s1 H o hO h;clear hx;cbv;refine A7 hE h (fun _ h=>?_) fun _ h=>?_
  ·cbv;refine ZD hE (Yq hE rfl) ?_;cbv;refine B9 hE eAq6 h fun x3 h=>?_;cbv;refine AB hE (g:=fun r4=>vi r4) h (fun r4 hx=>cH x3 bR r4 hx) (.refl _) fun r4 h=>?_;cbv;refine A7 hE h (fun _ h=>?_) fun _ h=>?_
   ·cbv;cases h;exact⟨_,rfl,.e2 (.e4 .z),rfl,hO⟩
   cbv;cases h;exact⟨_,rfl,.e2 (.e4 .z),rfl,hO⟩
  cbv;cases h;exact⟨_,_,rfl,⟨rfl,rfl,hO⟩,.e rfl (.e4 .z),rfl⟩
 ·exact .e2 (.e4 .z)
 clear hx;rintro e l H ⟨rfl,rfl,hO⟩;cbv;refine A7 hE h (fun _ h=>?_) fun _ h=>?_
 ·cbv;refine B9 hE eAq6 h fun x5 h=>?_;cbv;refine Rc hE (g:=fun r6=>vi r6) h (fun r6 hx=>cH x5 bR r6 hx) (.refl _) fun r6 h=>?_;cbv;cases h;exact hK hO (.refl _)
 cbv;cases h;exact hK hO (.refl _)
theorem c46 (N aA aC aT r)(h:BG N aA aC aT=some r):B4 prog 46 [(C3 aA),sr eAp0 aC,(W9 aT)] (.tup [.bool r.1,vi r.2]):=by
 unfold BG at h
 refine I6 cf0 func46 call46 ntmps46 ?_;intro E H0 K hE hK hO;cbv;refine A4 hE h (c69 N aA aC) (.refl _) fun r1 h=>?_;cbv;refine A7 hE h (fun _ h=>?_) fun _ h=>?_
 ·cbv;cases h;exact hK hO (.refl _)
 cbv;refine A4 hE h (c100 N aT) (.refl _) fun r2 h=>?_;cbv;refine A7 hE h (fun _ h=>?_) fun _ h=>?_
 ·cbv;cases h;exact hK hO (.refl _)
 cbv;refine A4 hE (g:=fun r3=>.tup [vi r3.1,.bool r3.2]) h (fun r3 hx=>c101 N r1.1 aT (.func (.func 102) [] []) (fun y1 y2=>N8 N y1 y2) (fun y1 y2 r hx=>B4.value (F:=[]) (C:=[]) (c102 N y1 y2 r hx)) r3 hx) (.refl _) fun r3 h=>?_;cbv;cases h;exact hK hO (.refl _)
theorem c144 (N bS r)(h:Cg N bS=some r):B4 prog 144 [(GQ bS)] (.bool r):=by
 unfold Cg at h
 refine I6 cf0 func144 call144 ntmps144 ?_;intro E H0 K hE hK hO;cbv;refine A4 hE h (c87 N (⟨bS.Source,bS.Seq,0,bS.Time,[]⟩:A8)) (.cons (.agg (.cons (.refl _) (.cons (.refl _) (.cons (.refl _) (.cons (.refl _) (.cons (.lit _ (E8)) (.refl _))))))) (.refl _)) fun r1 h=>?_;cbv;cases h;exact hK hO (.refl _)
def cf103 :Cf:=⟨[],[(11,12)],[],[],[],[]⟩
theorem c103 (N aT r) (h:De N aT=some r):B4 prog 103 [(W9 aT)] (vi r):=by
 unfold De at h
 refine I6 cf103 func103 call103 ntmps103 ?_;intro E H0 K hE hK hO;cbv;refine D5 hE ?_;cbv;refine A7 hE h (fun _ h=>?_) fun _ h=>?_
 ·cbv;cases h;exact hK hO (.refl _)
 cbv;refine D5 hE ?_;cbv;refine A7 hE h (fun _ h=>?_) fun _ h=>?_
 ·cbv;cases h;exact hK hO (.refl _)
 cbv;obtain⟨s2,hx,h⟩:=bind_some h;refine E6 cf103 hE L8 (fun s1=>[(1,.v (.eref (Bh aT) 0)),fi 3 s1]) (fun s1 H1=>C2 Eq H0 [] H1) (fun x e l H1=>match(generalizing:=false) x with| .inl y=>e= .exit 0∧l=[]∧C2 Eq H0 [] H1| .inr y=>e= .ret∧l=[fi 2 y]∧C2 Eq H0 [] H1) (by kernel_rfl) ?_ hx ?_ hO ?_
 ·intro s1 H o hO h;clear hx;cbv;refine D5 hE ?_;cbv;refine A7 hE h (fun _ h=>?_) fun _ h=>?_
  ·cbv;refine B9 hE eAq5 h fun x3 h=>?_;cbv;refine A7 hE h (fun _ h=>?_) fun _ h=>?_
   ·cbv;cases h;exact⟨_,_,rfl,⟨rfl,rfl,hO⟩,.e rfl .z,rfl⟩
   cbv;refine A4 hE h (c144 N x3.Ref) (.refl _) fun r4 h=>?_;cbv;refine A7 hE h (fun _ h=>?_) fun _ h=>?_
   ·cbv;cases h;exact⟨_,_,rfl,⟨rfl,rfl,hO⟩,.e rfl .z,rfl⟩
   cbv;refine A7 hE h (fun _ h=>?_) fun _ h=>?_
   ·cbv;refine B9 hE eAq5 h fun x5 h=>?_;cbv;refine A4 hE h (c38 N x5.Ref x3.Ref) (.refl _) fun r6 h=>?_;cbv;refine A7 hE h (fun _ h=>?_) fun _ h=>?_
    ·cbv;cases h;exact⟨_,_,rfl,⟨rfl,rfl,hO⟩,.e rfl .z,rfl⟩
    cbv;cases h;exact⟨_,rfl,.e2 .z,rfl,hO⟩
   cbv;cases h;exact⟨_,rfl,.e2 .z,rfl,hO⟩
  cbv;cases h;exact⟨_,_,rfl,⟨rfl,rfl,hO⟩,.z,rfl⟩
 ·exact .e2 .z
 clear hx
 rcases s2 with y7|y8
 ·rintro e l H ⟨rfl,rfl,hO⟩;cbv;cases h;exact hK hO (.refl _)
 rintro e l H ⟨rfl,rfl,hO⟩;cbv;cases h;exact hK hO (.refl _)
def cf47 :Cf:=⟨[],[(7,4)],[],[],[],[]⟩
theorem c47 (N aA aC aT r)(h:ES N aA aC aT=some r):B4 prog 47 [(C3 aA),sr eAp0 aC,(W9 aT)] (.tup [.bool r.1,vi r.2]):=by
 unfold ES at h
 refine I6 cf47 func47 call47 ntmps47 ?_;intro E H0 K hE hK hO;cbv;refine A4 hE h (c70 N aA aC) (.refl _) fun r1 h=>?_;cbv;refine A7 hE h (fun _ h=>?_) fun _ h=>?_
 ·cbv;cases h;exact hK hO (.refl _)
 cbv;refine A4 hE h (c103 N aT) (.refl _) fun r2 h=>?_;cbv;refine A7 hE h (fun _ h=>?_) fun _ h=>?_
 ·cbv;cases h;exact hK hO (.refl _)
 cbv;refine C9 hE (g:=fun r3=>sr eAp6 r3) h (c71 N aA aC) (.refl _) fun r3 h=>?_;cbv;refine A4 hE h (c24 N r3 aT) (.refl _) fun r4 h=>?_;cbv;cases h;exact hK hO (.refl _)
theorem c10 (N aA aC aT r)(h:X5 N aA aC aT=some r):B4 prog 10 [(C3 aA),sr eAp0 aC,(W9 aT)] (.bool r):=by
 unfold X5 at h
 refine I6 cf0 func10 call10 ntmps10 ?_;intro E H0 K hE hK hO;cbv;refine A4 hE h (c12 N aA aC) (.refl _) fun r1 h=>?_;cbv;refine D5 hE ?_;cbv;refine A7 hE h (fun _ h=>?_) fun _ h=>?_
 ·cbv;refine A4 hE h (c13 N) (.refl _) fun r2 h=>?_;cbv;cases h;exact hK hO (.refl _)
 cbv;refine A4 hE h (c46 N aA aC aT) (.refl _) fun r3 h=>?_;cbv;refine A4 hE h (c47 N aA aC aT) (.refl _) fun r4 h=>?_;cbv;refine A7 hE h (fun _ h=>?_) fun _ h=>?_
 ·cbv;refine A4 hE h (c13 N) (.refl _) fun r5 h=>?_;cbv;cases h;exact hK hO (.refl _)
 cbv;cases h;exact hK hO (.refl _)
end Go.Ab
