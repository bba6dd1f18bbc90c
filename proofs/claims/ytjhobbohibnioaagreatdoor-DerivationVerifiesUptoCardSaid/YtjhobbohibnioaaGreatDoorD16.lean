/- GVCo7 GVCo8 -/
import Derived.Test.YtjhobbohibnioaaGreatDoorD15
set_option linter.all false
open Go.Ab.Ar (an cmp lst)
namespace Go.Ab
open Go.RowKit Go.Proofs Go.Proofs.Tryz I8
variable [Ar][I8]
set_option maxRecDepth 100000
def cf385 :Cf:=⟨[4],[],[],[],[],[]⟩
theorem c385 (N aC aX r)(h:Ee N aC aX=some r):B6 prog 385 [(G6 aC),(D7 aX)] (.tup [(D7 r.1),vi r.2]):=by
 unfold Ee at h
 refine J2 cf385 func385 call385 ntmps385 ?_;intro E H0 K hE hK hO;cbv;refine C9 hE hO fun b1 H hO=>?_;cbv;refine A4 hE h (c393 N aC) (.refl _) fun r2 h=>?_;cbv;refine A5 hE h (fun _ h=>?_) fun _ h=>?_
 ·cbv;refine B0 hE hO 0 rfl rfl fun H hO=>?_;cbv;refine B1 hE hO 0 rfl ?_;cbv;cases h;exact hK hO (.refl _)
 cbv;refine A4 hE h (c394 N aC.Kind aX) (.refl _) fun r3 h=>?_;cbv;refine A5 hE h (fun _ h=>?_) fun _ h=>?_
 ·cbv;refine B0 hE hO 0 rfl rfl fun H hO=>?_;cbv;refine B1 hE hO 0 rfl ?_;cbv;cases h;exact hK hO (.refl _)
 cbv;refine A5 hE h (fun _ h=>?_) fun _ h=>?_
 ·cbv;refine B0 hE hO 0 rfl rfl fun H hO=>?_;cbv;refine B1 hE hO 0 rfl ?_;cbv;cases h;exact hK hO (.refl _)
 cbv;refine A5 hE h (fun _ h=>?_) fun _ h=>?_
 ·cbv;refine B0 hE hO 0 rfl rfl fun H hO=>?_;cbv;refine B1 hE hO 0 rfl ?_;cbv;cases h;exact hK hO (.refl _)
 cbv;refine B0 hE hO 0 rfl rfl fun H hO=>?_;cbv;refine B1 hE hO 0 rfl ?_;cbv;cases h;exact hK hO (.refl _)
def cf360 :Cf:=⟨[6,8],[(9,11)],[],[],[],[]⟩
theorem c360 (N aW aI aX r) (h:Hy N aW aI aX=some r):B6 prog 360 [vi aW,sr eAv4 aI,(D7 aX)] (.tup [(D7 r.1),vi r.2]):=by
 unfold Hy at h
 refine J2 cf360 func360 call360 ntmps360 ?_;intro E H0 K hE hK hO;cbv;refine C9 hE hO fun b1 H hO=>?_;cbv;refine A4 hE h (c383 N aW) (.refl _) fun r2 h=>?_;cbv;refine A5 hE h (fun _ h=>?_) fun _ h=>?_
 ·cbv;refine B0 hE hO 0 rfl rfl fun H hO=>?_;cbv;refine B1 hE hO 0 rfl ?_;cbv;cases h;exact hK hO (.refl _)
 cbv;refine E0 hE ?_;cbv;refine A5 hE h (fun _ h=>?_) fun _ h=>?_
 ·cbv;refine B0 hE hO 0 rfl rfl fun H hO=>?_;cbv;refine B1 hE hO 0 rfl ?_;cbv;cases h;exact hK hO (.refl _)
 cbv;refine C9 hE hO fun b3 H hO=>?_;cbv;refine B0 hE hO 0 rfl rfl fun H hO=>?_;cbv;obtain⟨s5,hx,h⟩:=bind_some h;refine E6 cf360 hE L4 (fun s4=>[(1,.v (sr eAv4 aI)),(5,.v (.eref (O6 aX) 0)),(6,.v (.ref b1 0)),(8,.v (.ref b3 0)),fi 9 s4.1]) (fun(s4:Int×C2) H1=>C3 Eq H0 [cb b3 (AF s4.2),cb b1 [vi 0,vi 0,.str (⟨#[]⟩)]] H1) (fun x e l H1=>match(generalizing:=false) x with| .inl y=>e= .exit 0∧l=[(5,.v (.eref (O6 aX) 0)),(6,.v (.ref b1 0)),(8,.v (.ref b3 0))]∧C3 Eq H0 [cb b3 (AF y),cb b1 [vi 0,vi 0,.str (⟨#[]⟩)]] H1| .inr y=>e= .ret∧l=[(6,.v (.ref b1 0)),fi 7 y.1]∧C3 Eq H0 [cb b3 (AF y.2),cb b1 [vi 0,vi 0,.str (⟨#[]⟩)]] H1) (by kernel_rfl) ?_ hx ?_ hO ?_
 ·intro s4 H o hO h;clear hx;cbv;refine E0 hE ?_;cbv;refine A5 hE h (fun _ h=>?_) fun _ h=>?_
  ·cbv;refine B1 hE hO 0 rfl ?_;cbv;refine C1 hE eAu9 h fun x6 h=>?_;cbv;refine C7 hE (g:=fun r7=>.tup [(G6 r7.1),vi r7.2]) h (c384 N s4.2 x6) (.refl _) fun r7 h=>?_;cbv;refine A5 hE h (fun _ h=>?_) fun _ h=>?_
   ·cbv;refine B0 hE hO 1 rfl rfl fun H hO=>?_;cbv;cases h;exact⟨_,_,rfl,⟨rfl,rfl,hO⟩,.e2 .z,rfl⟩
   cbv;refine B0 hE hO 0 rfl rfl fun H hO=>?_;cbv;cases h;exact⟨_,rfl,.e rfl (.e4 .z),rfl,hO⟩
  cbv;cases h;exact⟨_,_,rfl,⟨rfl,rfl,hO⟩,.e rfl (.e2 .z),rfl⟩
 ·exact .e rfl (.e4 .z)
 clear hx
 rcases s5 with y8|y10
 ·rintro e l H ⟨rfl,rfl,hO⟩;cbv;refine B1 hE hO 0 rfl ?_;cbv;refine A4 hE h (c385 N y8 aX) (.refl _) fun r9 h=>?_;cbv;refine B0 hE hO 1 rfl rfl fun H hO=>?_;cbv;refine B1 hE hO 1 rfl ?_;cbv;cases h;exact hK hO (.refl _)
 rintro e l H ⟨rfl,rfl,hO⟩;cbv;refine B1 hE hO 1 rfl ?_;cbv;cases h;exact hK hO (.refl _)
def cf361 :Cf:=⟨[8],[],[],[],[],[]⟩
theorem c361 (N aN aJ aT aU r)(h:EC N aN aJ aT aU=some r):B6 prog 361 [(Ew aN),vi aJ,vi aT,(Q4 aU)] (.tup [(Q4 r.1),.bool r.2]):=by
 unfold EC at h
 refine J2 cf361 func361 call361 ntmps361 ?_;intro E H0 K hE hK hO;cbv;refine C9 hE hO fun b1 H hO=>?_;cbv;refine A5 hE h (fun _ h=>?_) fun _ h=>?_
 ·cbv;refine B0 hE hO 0 rfl rfl fun H hO=>?_;cbv;refine B1 hE hO 0 rfl ?_;cbv;cases h;exact hK hO (.refl _)
 cbv;refine A4 hE h (c359 N aN aJ) (.refl _) fun r2 h=>?_;cbv;refine E0 hE ?_;cbv;refine A5 hE h (fun _ h=>?_) fun _ h=>?_
 ·cbv;refine B0 hE hO 0 rfl rfl fun H hO=>?_;cbv;refine B1 hE hO 0 rfl ?_;cbv;cases h;exact hK hO (.tup (.cons (.agg (.cons (.refl _) (.cons (.refl _) (.cons (.refl _) (.cons (.refl _) (.cons (.lit _ (D5)) (.refl _))))))) (.refl _)))
 cbv;refine E0 hE ?_;cbv;refine C1 hE eAv0 h fun x3 h=>?_;cbv;refine B0 hE hO 0 rfl rfl fun H hO=>?_;cbv;refine B1 hE hO 0 rfl ?_;cbv;cases h;exact hK hO (.refl _)
def cf338 :Cf:=⟨[8],[(12,8),(14,11)],[],[],[],[]⟩
theorem c338 (N aB aN aT aU r) (h:EB N aB aN aT aU=some r):B6 prog 338 [(S2 aB),(Ew aN),vi aT,(Q4 aU)] (.tup [(D7 r.1),vi r.2]):=by
 unfold EB at h
 refine J2 cf338 func338 call338 ntmps338 ?_;intro E H0 K hE hK hO;cbv;refine C9 hE hO fun b1 H hO=>?_;cbv;refine A5 hE h (fun _ h=>?_) fun _ h=>?_
 ·cbv;refine B0 hE hO 0 rfl rfl fun H hO=>?_;cbv;refine B1 hE hO 0 rfl ?_;cbv;cases h;exact hK hO (.refl _)
 cbv;refine A5 hE h (fun _ h=>?_) fun _ h=>?_
 ·cbv;refine A4 hE h (c359 N aN aB.Var) (.refl _) fun r2 h=>?_;cbv;refine E0 hE ?_;cbv;refine B0 hE hO 0 rfl rfl fun H hO=>?_;cbv;refine B1 hE hO 0 rfl ?_;cbv;cases h;exact hK hO (.refl _)
 cbv;refine A5 hE h (fun _ h=>?_) fun _ h=>?_
 ·cbv;refine A4 hE h (c359 N aN aB.Var) (.refl _) fun r3 h=>?_;cbv;replace hO:=hO.tl0 (t:=.nil) rfl;obtain⟨s6,hx,h⟩:=bind_some h;refine P5 cf338 hE L4 (γ:=E4) (fun s4 g=>[(4,.v (.eref (Ay aB) 0)),(8,.v (.ref b1 0)),(10,.v (.sl (lst eAv4 s4.1) g)),(11,.v (sr eAu4 r3)),fi 12 s4.2]) (fun s4 g H1=>T8 g∧C3 Eq H0 [.tl g,cb b1 [vi 0,vi 0,.str (⟨#[]⟩)]] H1) (fun x e l H1=>match(generalizing:=false) x with| .inl y=>∃u1:E4,T8 u1∧e= .exit 1∧l=[(4,.v (.eref (Ay aB) 0)),(8,.v (.ref b1 0)),(10,.v (.sl (lst eAv4 y) u1))]∧C3 Eq H0 [.tl u1,cb b1 [vi 0,vi 0,.str (⟨#[]⟩)]] H1| .inr y=>∃u1:E4,T8 u1∧e= .ret∧l=[(8,.v (.ref b1 0)),fi 9 6]∧C3 Eq H0 [.tl u1,cb b1 [vi 0,vi 0,.str (⟨#[]⟩)]] H1) (by kernel_rfl) ?_ .nil hx ?_ ?_ ?_
  ·rintro s4 t5 H o ⟨ht5,hO⟩ h;clear hx;cbv;refine E0 hE ?_;cbv;refine A5 hE h (fun _ h=>?_) fun _ h=>?_
   ·cbv;refine C1 hE eAv0 h fun x7 h=>?_;cbv;refine E0 hE ?_;cbv;refine A5 hE h (fun _ h=>?_) fun _ h=>?_
    ·cbv;refine B0 hE hO 1 rfl rfl fun H hO=>?_;cbv;cases h;exact⟨_,_,rfl,⟨t5,ht5,rfl,rfl,hO⟩,.e2 .z,rfl⟩
    cbv;refine C1 hE eAv0 h fun x8 h=>?_;cbv;refine C1 hE eAu9 h fun x9 h=>?_;cbv;refine Y5 (f:=eAv4) hE Ir (by decide) hO 0 rfl ht5 (l:=s4.1) (m:=[x9]) (.refl _) (.lstc (.eq (eAu9 x9) (.refl _)) (.lst0)) h fun l11 t10 H hO ht10 h=>?_;cbv;cases h;exact⟨_,t10,rfl,.e rfl (.e4 .z),rfl,ht10,hO⟩
   cbv;cases h;exact⟨_,_,rfl,⟨t5,ht5,rfl,rfl,hO⟩,.e rfl (.e2 .z),rfl⟩
  ·exact .e2 (.v (.slt _ (.lst0)) (.e rfl (.e rfl (.z))))
  ·exact⟨trivial,hO⟩
  clear hx
  rcases s6 with y12|y15
  ·rintro e l H ⟨t13,ht13,rfl,rfl,hO⟩;cbv;refine A4 hE h (c360 N aB.Kind y12 aB.Value) (.cons (.refl _) (.cons (.ro _ _) (.refl _))) fun r14 h=>?_;cbv;refine B0 hE hO 1 rfl rfl fun H hO=>?_;cbv;refine B1 hE hO 1 rfl ?_;cbv;cases h;exact hK hO (.refl _)
  rintro e l H ⟨t16,ht16,rfl,rfl,hO⟩;cbv;refine B1 hE hO 1 rfl ?_;cbv;cases h;exact hK hO (.refl _)
 cbv;refine A4 hE h (c361 N aN aB.Var aT aU) (.refl _) fun r17 h=>?_;cbv;refine A5 hE h (fun _ h=>?_) fun _ h=>?_
 ·cbv;refine B0 hE hO 0 rfl rfl fun H hO=>?_;cbv;refine B1 hE hO 0 rfl ?_;cbv;cases h;exact hK hO (.refl _)
 cbv;refine A5 hE h (fun _ h=>?_) fun _ h=>?_
 ·cbv;refine B0 hE hO 0 rfl rfl fun H hO=>?_;cbv;refine B1 hE hO 0 rfl ?_;cbv;cases h;exact hK hO (.refl _)
 cbv;refine E0 hE ?_;cbv;refine A5 hE h (fun _ h=>?_) fun _ h=>?_
 ·cbv;refine B0 hE hO 0 rfl rfl fun H hO=>?_;cbv;refine B1 hE hO 0 rfl ?_;cbv;cases h;exact hK hO (.refl _)
 cbv;refine C1 hE eAu9 h fun x18 h=>?_;cbv;refine A4 hE h (c318 N x18) (.refl _) fun r19 h=>?_;cbv;refine A5 hE h (fun _ h=>?_) fun _ h=>?_
 ·cbv;refine B0 hE hO 0 rfl rfl fun H hO=>?_;cbv;refine B1 hE hO 0 rfl ?_;cbv;cases h;exact hK hO (.refl _)
 cbv;refine C1 hE eAu9 h fun x20 h=>?_;cbv;refine B0 hE hO 0 rfl rfl fun H hO=>?_;cbv;refine B1 hE hO 0 rfl ?_;cbv;cases h;exact hK hO (.refl _)
def cf362 :Cf:=⟨[],[],[(4,4)],[],[],[]⟩
theorem c362 (N aL r) (h:Bi N aL=some r):B6 prog 362 [vi aL] (vi r):=by
 unfold Bi at h
 refine J2 cf362 func362 call362 ntmps362 ?_;intro E H0 K hE hK hO;cbv;obtain⟨s1,hx,h⟩:=bind_some h;refine J4 cf362 hE L4 (fun e l H1=>e= .normal∧l=[fi 3 aL,(4,.v (.bool s1))]∧C3 Eq H0 [] H1) (by kernel_rfl) ?_ ?_
 ·clear h;have h:=hx;clear hx;cbv;refine A5 hE h (fun _ h=>?_) fun _ h=>?_
  ·cbv;cases h;exact⟨_,⟨rfl,rfl,hO⟩,.e2 .z,rfl⟩
  cbv;refine A5 hE h (fun _ h=>?_) fun _ h=>?_
  ·cbv;cases h;exact⟨_,⟨rfl,rfl,hO⟩,.e2 .z,rfl⟩
  cbv;refine A5 hE h (fun _ h=>?_) fun _ h=>?_
  ·cbv;cases h;exact⟨_,⟨rfl,rfl,hO⟩,.e2 .z,rfl⟩
  cbv;cases h;exact⟨_,⟨rfl,rfl,hO⟩,.e2 .z,rfl⟩
 clear hx;rintro e l H ⟨rfl,rfl,hO⟩;cbv;refine A5 hE h (fun _ h=>?_) fun _ h=>?_
 ·cbv;cases h;exact hK hO (.refl _)
 cbv;refine A5 hE h (fun _ h=>?_) fun _ h=>?_
 ·cbv;cases h;exact hK hO (.refl _)
 cbv;refine A5 hE h (fun _ h=>?_) fun _ h=>?_
 ·cbv;cases h;exact hK hO (.refl _)
 cbv;refine A5 hE h (fun _ h=>?_) fun _ h=>?_
 ·cbv;cases h;exact hK hO (.refl _)
 cbv;cases h;exact hK hO (.refl _)
def cf339 :Cf:=⟨[],[(5,21)],[],[],[],[]⟩
theorem c339 (N aL aZ r) (h:Bh N aL aZ=some r):B6 prog 339 [vi aL,sr (V.int .i64) aZ] (vi r):=by
 unfold Bh at h
 refine J2 cf339 func339 call339 ntmps339 ?_;intro E H0 K hE hK hO;cbv;obtain⟨s2,hx,h⟩:=bind_some h;refine E6 cf339 hE L4 (fun s1=>[fi 0 aL,(1,.v (sr (V.int .i64) aZ)),fi 5 s1]) (fun s1 H1=>C3 Eq H0 [] H1) (fun x e l H1=>match(generalizing:=false) x with| .inl y=>e= .exit 0∧l=[]∧C3 Eq H0 [] H1| .inr y=>e= .ret∧l=[fi 4 9]∧C3 Eq H0 [] H1) (by kernel_rfl) ?_ hx ?_ hO ?_
 ·intro s1 H o hO h;clear hx;cbv;refine E0 hE ?_;cbv;refine A5 hE h (fun _ h=>?_) fun _ h=>?_
  ·cbv;refine A4 hE h (c362 N aL) (.refl _) fun r3 h=>?_;cbv;refine A5 hE h (fun _ h=>?_) fun _ h=>?_
   ·cbv;refine C1 hE (fun _=>rfl) h fun x4 h=>?_;cbv;refine A5 hE h (fun _ h=>?_) fun _ h=>?_
    ·cbv;cases h;exact⟨_,_,rfl,⟨rfl,rfl,hO⟩,.e rfl .z,rfl⟩
    cbv;refine A5 hE h (fun _ h=>?_) fun _ h=>?_
    ·cbv;refine C1 hE (fun _=>rfl) h fun x5 h=>?_;cbv;refine C1 hE (fun _=>rfl) h fun x6 h=>?_;cbv;refine A5 hE h (fun _ h=>?_) fun _ h=>?_
     ·cbv;cases h;exact⟨_,_,rfl,⟨rfl,rfl,hO⟩,.e rfl .z,rfl⟩
     cbv;cases h;exact⟨_,rfl,.e rfl (.e2 .z),rfl,hO⟩
    cbv;cases h;exact⟨_,rfl,.e rfl (.e2 .z),rfl,hO⟩
   cbv;refine A5 hE h (fun _ h=>?_) fun _ h=>?_
   ·cbv;refine C1 hE (fun _=>rfl) h fun x7 h=>?_;cbv;refine C1 hE (fun _=>rfl) h fun x8 h=>?_;cbv;refine A5 hE h (fun _ h=>?_) fun _ h=>?_
    ·cbv;cases h;exact⟨_,_,rfl,⟨rfl,rfl,hO⟩,.e rfl .z,rfl⟩
    cbv;cases h;exact⟨_,rfl,.e rfl (.e2 .z),rfl,hO⟩
   cbv;cases h;exact⟨_,rfl,.e rfl (.e2 .z),rfl,hO⟩
  cbv;cases h;exact⟨_,_,rfl,⟨rfl,rfl,hO⟩,.z,rfl⟩
 ·exact .e rfl (.e2 .z)
 clear hx
 rcases s2 with y9|y10
 ·rintro e l H ⟨rfl,rfl,hO⟩;cbv;cases h;exact hK hO (.refl _)
 rintro e l H ⟨rfl,rfl,hO⟩;cbv;cases h;exact hK hO (.refl _)
def cf279 :Cf:=⟨[2],[],[],[],[],[]⟩
theorem c279 (N aD r)(h:R0 N aD=some r):B6 prog 279 [.bool aD] ((D7 r)):=by
 unfold R0 at h
 refine J2 cf279 func279 call279 ntmps279 ?_;intro E H0 K hE hK hO;cbv;refine C9 hE hO fun b1 H hO=>?_;cbv;refine A5 hE h (fun _ h=>?_) fun _ h=>?_
 ·cbv;refine B0 hE hO 0 rfl rfl fun H hO=>?_;cbv;refine B1 hE hO 0 rfl ?_;cbv;cases h;exact hK hO (.refl _)
 cbv;refine B0 hE hO 0 rfl rfl fun H hO=>?_;cbv;refine B1 hE hO 0 rfl ?_;cbv;cases h;exact hK hO (.refl _)
def cf340 :Cf:=⟨[4],[(3,8),(5,8),(7,8),(9,8),(11,6)],[],[],[],[]⟩
theorem c340 (N aL aI r) (h:Fk N aL aI=some r):B6 prog 340 [vi aL,sr eAv4 aI] ((D7 r)):=by
 unfold Fk at h
 refine J2 cf340 func340 call340 ntmps340 ?_;intro E H0 K hE hK hO;cbv;refine C9 hE hO fun b1 H hO=>?_;cbv;refine A5 hE h (fun _ h=>?_) fun _ h=>?_
 ·cbv;refine C1 hE eAu9 h fun x2 h=>?_;cbv;refine C1 hE eAu9 h fun x3 h=>?_;cbv;refine B0 hE hO 0 rfl rfl fun H hO=>?_;cbv;refine B1 hE hO 0 rfl ?_;cbv;cases h;exact hK hO (.refl _)
 cbv;refine A5 hE h (fun _ h=>?_) fun _ h=>?_
 ·cbv;refine C1 hE eAu9 h fun x4 h=>?_;cbv;refine C1 hE eAu9 h fun x5 h=>?_;cbv;refine B0 hE hO 0 rfl rfl fun H hO=>?_;cbv;refine B1 hE hO 0 rfl ?_;cbv;cases h;exact hK hO (.refl _)
 cbv;refine A5 hE h (fun _ h=>?_) fun _ h=>?_
 ·cbv;refine C1 hE eAu9 h fun x6 h=>?_;cbv;refine C1 hE eAu9 h fun x7 h=>?_;cbv;refine A4 hE h (c279 N (cmp .lss x6.Num x7.Num)) (.refl _) fun r8 h=>?_;cbv;refine B0 hE hO 0 rfl rfl fun H hO=>?_;cbv;refine B1 hE hO 0 rfl ?_;cbv;cases h;exact hK hO (.refl _)
 cbv;refine A5 hE h (fun _ h=>?_) fun _ h=>?_
 ·cbv;refine C1 hE eAu9 h fun x9 h=>?_;cbv;refine C1 hE eAu9 h fun x10 h=>?_;cbv;refine A4 hE h (c279 N (cmp .leq x9.Num x10.Num)) (.refl _) fun r11 h=>?_;cbv;refine B0 hE hO 0 rfl rfl fun H hO=>?_;cbv;refine B1 hE hO 0 rfl ?_;cbv;cases h;exact hK hO (.refl _)
 cbv;refine A5 hE h (fun _ h=>?_) fun _ h=>?_
 ·cbv;refine C1 hE eAu9 h fun x12 h=>?_;cbv;refine C1 hE eAu9 h fun x13 h=>?_;cbv;refine A4 hE h (c279 N (an (cmp .eql x12.Kind x13.Kind) (an (cmp .eql x12.Num x13.Num) (an (Ar.scmp .eql x12.Text x13.Text) true)))) (.refl _) fun r14 h=>?_;cbv;refine B0 hE hO 0 rfl rfl fun H hO=>?_;cbv;refine B1 hE hO 0 rfl ?_;cbv;cases h;exact hK hO (.refl _)
 cbv;refine A5 hE h (fun _ h=>?_) fun _ h=>?_
 ·cbv;refine C1 hE eAu9 h fun x15 h=>?_;cbv;refine A5 hE h (fun _ h=>?_) fun _ h=>?_
  ·cbv;refine C1 hE eAu9 h fun x16 h=>?_;cbv;refine A4 hE h (c279 N (cmp .eql x16.Num 1)) (.refl _) fun r17 h=>?_;cbv;refine B0 hE hO 0 rfl rfl fun H hO=>?_;cbv;refine B1 hE hO 0 rfl ?_;cbv;cases h;exact hK hO (.refl _)
  cbv;refine A4 hE h (c279 N false) (.refl _) fun r18 h=>?_;cbv;refine B0 hE hO 0 rfl rfl fun H hO=>?_;cbv;refine B1 hE hO 0 rfl ?_;cbv;cases h;exact hK hO (.refl _)
 cbv;refine A5 hE h (fun _ h=>?_) fun _ h=>?_
 ·cbv;refine C1 hE eAu9 h fun x19 h=>?_;cbv;refine A5 hE h (fun _ h=>?_) fun _ h=>?_
  ·cbv;refine A4 hE h (c279 N true) (.refl _) fun r20 h=>?_;cbv;refine B0 hE hO 0 rfl rfl fun H hO=>?_;cbv;refine B1 hE hO 0 rfl ?_;cbv;cases h;exact hK hO (.refl _)
  cbv;refine C1 hE eAu9 h fun x21 h=>?_;cbv;refine A4 hE h (c279 N (cmp .eql x21.Num 1)) (.refl _) fun r22 h=>?_;cbv;refine B0 hE hO 0 rfl rfl fun H hO=>?_;cbv;refine B1 hE hO 0 rfl ?_;cbv;cases h;exact hK hO (.refl _)
 cbv;refine C1 hE eAu9 h fun x23 h=>?_;cbv;refine A4 hE h (c279 N (cmp .neq x23.Num 1)) (.refl _) fun r24 h=>?_;cbv;refine B0 hE hO 0 rfl rfl fun H hO=>?_;cbv;refine B1 hE hO 0 rfl ?_;cbv;cases h;exact hK hO (.refl _)
def cf313 :Cf:=⟨[8,3000053,8000053,9000053],[(8,14),(11,8)],[],[],[],[]⟩
theorem c313 (N:Nat):∀n aB aN aT aU r,Aj N n aB aN aT aU=some r→B6 prog 313 [(S2 aB),(Ew aN),vi aT,(Q4 aU)] (.tup [(D7 r.1),vi r.2]):=by
 intro n
 induction n with
 |zero=>intro aB aN aT aU r h;cases h
 |succ n ih=>
 intro aB aN aT aU r h
 unfold Aj at h
 refine J2 cf313 func313 call313 ntmps313 ?_;intro E H0 K hE hK hO;cbv;refine C9 hE hO fun b1 H hO=>?_;cbv;refine E0 hE ?_;cbv;refine A5 hE h (fun _ h=>?_) fun _ h=>?_
 ·cbv;refine A4 hE h (c338 N aB aN aT aU) (.refl _) fun r2 h=>?_;cbv;refine B0 hE hO 0 rfl rfl fun H hO=>?_;cbv;refine B1 hE hO 0 rfl ?_;cbv;cases h;exact hK hO (.refl _)
 cbv;replace hO:=hO.tl0 (t:=.nil) rfl;replace hO:=hO.tl0 (t:=.nil) rfl;obtain⟨s6,hx,h⟩:=bind_some h;refine P5 cf313 hE L4 (γ:=E4×E4) (fun s3 g=>[fi 2 aT,(4,.v (.eref (Ay aB) 0)),(5,.v (.eref (Al7 aN) 0)),(7,.v (.eref (KO aU) 0)),(8,.v (.ref b1 0)),(10,.v (.sl (lst eAv4 s3.1) g.2)),(11,.v (.sl (lst (V.int .i64) s3.2.1) g.1)),fi 12 s3.2.2]) (fun s3 g H1=>T8 g.1∧T8 g.2∧C3 Eq H0 [.tl g.1,.tl g.2,cb b1 [vi 0,vi 0,.str (⟨#[]⟩)]] H1) (fun x e l H1=>match(generalizing:=false) x with| .inl y=>∃u1:E4,T8 u1∧∃u2:E4,T8 u2∧e= .exit 0∧l=[(4,.v (.eref (Ay aB) 0)),(8,.v (.ref b1 0)),(10,.v (.sl (lst eAv4 y.1) u2)),(11,.v (.sl (lst (V.int .i64) y.2) u1))]∧C3 Eq H0 [.tl u1,.tl u2,cb b1 [vi 0,vi 0,.str (⟨#[]⟩)]] H1| .inr y=>∃u1:E4,T8 u1∧∃u2:E4,T8 u2∧e= .ret∧l=[(8,.v (.ref b1 0)),fi 9 y]∧C3 Eq H0 [.tl u1,.tl u2,cb b1 [vi 0,vi 0,.str (⟨#[]⟩)]] H1) (by kernel_rfl) ?_ (⟨.nil,.nil⟩) hx ?_ ?_ ?_
 ·rintro s3 ⟨t4,t5⟩ H o ⟨ht4,ht5,hO⟩ h;clear hx;cbv;refine E0 hE ?_;cbv;refine A5 hE h (fun _ h=>?_) fun _ h=>?_
  ·cbv;refine C1 hE eAv9 h fun x7 h=>?_;cbv;refine C7 hE (g:=fun r8=>.tup [(D7 r8.1),vi r8.2]) h (ih x7 aN aT aU) (.refl _) fun r8 h=>?_;cbv;refine A5 hE h (fun _ h=>?_) fun _ h=>?_
   ·cbv;refine B0 hE hO 2 rfl rfl fun H hO=>?_;cbv;cases h;exact⟨_,_,rfl,⟨t4,ht4,t5,ht5,rfl,rfl,hO⟩,.e2 .z,rfl⟩
   cbv;refine Mw hE hO 1 rfl ht5 fun H hO=>?_;cbv;refine JI hE trivial ?_;cbv;refine Ns (f:=eAv4) hE Ir (by decide) (l:=s3.1) (m:=[r8.1]) (.refl _) (.lstc (.eq (eAu9 r8.1) (.refl _)) (.lst0)) h fun l9 h=>?_;cbv;refine My hE hO 1 rfl fun t10 H hO ht10=>?_;cbv;refine Y5 (f:=(V.int .i64)) hE (fun _=>rfl) (by decide) hO 0 rfl ht4 (l:=s3.2.1) (m:=[r8.1.Kind]) (.refl _) (.lstc (.refl _) (.lst0)) h fun l12 t11 H hO ht11 h=>?_;cbv;cases h;exact⟨_,⟨t11,t10⟩,rfl,.e4 (.e4 .z),rfl,ht11,ht10,hO⟩
  cbv;cases h;exact⟨_,_,rfl,⟨t4,ht4,t5,ht5,rfl,rfl,hO⟩,.e4 .z,rfl⟩
 ·exact .e rfl (.e4 (.v (.slt _ (.lst0)) (.v (.slt _ (.lst0)) (.e rfl (.z)))))
 ·exact⟨trivial,trivial,hO⟩
 clear hx
 rcases s6 with y13|y18
 ·rintro e l H ⟨t14,ht14,t15,ht15,rfl,rfl,hO⟩;cbv;refine A4 hE h (c339 N aB.Op y13.2) (.cons (.refl _) (.cons (.ro _ _) (.refl _))) fun r16 h=>?_;cbv;refine A5 hE h (fun _ h=>?_) fun _ h=>?_
  ·cbv;refine B0 hE hO 2 rfl rfl fun H hO=>?_;cbv;refine B1 hE hO 2 rfl ?_;cbv;cases h;exact hK hO (.refl _)
  cbv;refine A4 hE h (c340 N aB.Op y13.1) (.cons (.refl _) (.cons (.ro _ _) (.refl _))) fun r17 h=>?_;cbv;refine B0 hE hO 2 rfl rfl fun H hO=>?_;cbv;refine B1 hE hO 2 rfl ?_;cbv;cases h;exact hK hO (.refl _)
 rintro e l H ⟨t19,ht19,t20,ht20,rfl,rfl,hO⟩;cbv;refine B1 hE hO 2 rfl ?_;cbv;cases h;exact hK hO (.refl _)
def cf278 :Cf:=⟨[8],[],[],[],[],[]⟩
theorem c278 (N aB aN aT aU r)(h:ED N aB aN aT aU=some r):B6 prog 278 [(S2 aB),(Ew aN),vi aT,(Q4 aU)] (.tup [(D7 r.1),vi r.2]):=by
 unfold ED at h
 refine J2 cf278 func278 call278 ntmps278 ?_;intro E H0 K hE hK hO;cbv;refine C9 hE hO fun b1 H hO=>?_;cbv;refine A4 hE h (c197 N aB) (.refl _) fun r2 h=>?_;cbv;refine A5 hE h (fun _ h=>?_) fun _ h=>?_
 ·cbv;refine B0 hE hO 0 rfl rfl fun H hO=>?_;cbv;refine B1 hE hO 0 rfl ?_;cbv;cases h;exact hK hO (.refl _)
 cbv;refine A4 hE h (c313 N N aB aN aT aU) (.refl _) fun r3 h=>?_;cbv;refine B0 hE hO 0 rfl rfl fun H hO=>?_;cbv;refine B1 hE hO 0 rfl ?_;cbv;cases h;exact hK hO (.refl _)
def cf233 :Cf:=⟨[],[(2,5)],[],[],[],[]⟩
theorem c233 (N aB aN aT aU r)(h:Bj N aB aN aT aU=some r):B6 prog 233 [(S2 aB),(Ew aN),vi aT,(Q4 aU)] (.bool r):=by
 unfold Bj at h
 refine J2 cf233 func233 call233 ntmps233 ?_;intro E H0 K hE hK hO;cbv;refine A4 hE h (c278 N aB aN aT aU) (.refl _) fun r1 h=>?_;cbv;refine A5 hE h (fun _ h=>?_) fun _ h=>?_
 ·cbv;refine C7 hE (g:=fun r2=>(D7 r2)) h (c279 N true) (.refl _) fun r2 h=>?_;cbv;cases h;exact hK hO (.refl _)
 cbv;cases h;exact hK hO (.refl _)
def cf234 :Cf:=⟨[6,7,3000049,8000049,9000049],[(6,26)],[],[],[(51,1000007)],[]⟩
theorem c234 (N aI aF bA r) (h:CW N aI aF bA=some r):B6 prog 234 [sr eAu4 aI,sr eAu6 aF,vi bA] ((Ew r)):=by
 unfold CW at h
 refine J2 cf234 func234 call234 ntmps234 ?_;intro E H0 K hE hK hO;cbv;refine C9 hE hO fun b1 H hO=>?_;cbv;refine Ak8 hE (f:=eAu4) (by decide) hO 1 h fun l3 w2 H hw2 h hO=>?_;have hO:C3 Eq H0 (.blk w2.q.id (.arr 1 (w2.q.pre++lst (AC eAu4) w2.row++w2.q.rest))::cb b1 [.sl [] .nil]::(FU w2++[])) H:=hO;cbv;refine C9 hE hO fun b4 H hO=>?_;cbv;refine B0 hE hO 0 rfl rfl fun H hO=>?_;cbv;obtain⟨s7,hx,h⟩:=bind_some h;refine P5 cf234 hE L4 (γ:=Rw A9) (fun s5 g=>[(0,.v (sr eAu4 aI)),(1,.v (sr eAu6 aF)),fi 2 bA,(6,.v (.ref b1 0)),(7,.v (.ref b4 0)),fi 8 s5.1]) (fun s5 g H1=>BP g s5.2∧C3 Eq H0 (cb b4 [.own g.q.id g.q.lo g.q.n]:: .blk g.q.id (.arr 1 (g.q.pre++lst (AC eAu4) g.row++g.q.rest))::cb b1 [.sl [] .nil]::(FU g++[])) H1) (fun x e l H1=>∃u1:Rw A9,BP u1 x∧e= .exit 0∧l=[(6,.v (.ref b1 0)),(7,.v (.ref b4 0))]∧C3 Eq H0 (cb b4 [.own u1.q.id u1.q.lo u1.q.n]:: .blk u1.q.id (.arr 1 (u1.q.pre++lst (AC eAu4) u1.row++u1.q.rest))::cb b1 [.sl [] .nil]::(FU u1++[])) H1) (by kernel_rfl) ?_ w2 hx ?_ ?_ ?_
 ·rintro s5 w6 H o ⟨hw6,hO⟩ h;clear hx;cbv;refine E0 hE ?_;cbv;refine A5 hE h (fun _ h=>?_) fun _ h=>?_
  ·cbv;refine C1 hE eAv3 h fun x8 h=>?_;cbv;refine A5 hE h (fun _ h=>?_) fun _ h=>?_
   ·cbv;obtain⟨x9,ex9,h⟩:=bind_some h;obtain⟨x10,hxx10,h⟩:=bind_some h
    obtain⟨hjx10,t11,hrx10,hax10⟩:=hw6.at hxx10
    obtain⟨Rx10,hO,hbx10⟩:=hO.rtake (w:=w6) (T1:=[]) (T2:=[]) 3 rfl hrx10;refine Mw hE hO 0 rfl hax10 fun H hO=>?_;cbv;refine B1 hE hO 1 rfl ?_;cbv;refine ZA hE eAv3 ex9 ?_;cbv;refine B1 hE hO 1 rfl ?_;cbv;refine ZA hE eAv3 ex9 ?_;cbv;refine QJ hE (f:=AC eAu4) hO hw6.ok 2 rfl hjx10 ?_;cbv;refine Wd hE (f:=AC eAu4) (fun _=>rfl) hO hw6.ok 2 rfl hjx10.1 hrx10 ?_;cbv;refine ZA hE eAv3 ex9 ?_;cbv;refine C1 hE eAv0 h fun x15 h=>?_;cbv;refine JI hE trivial ?_;cbv;refine Ns (f:=eAu4) hE Le (by decide) (l:=x10) (m:=[x15]) (.refl _) (.lstc (.eq (eAv0 x15) (.refl _)) (.lst0)) h fun l16 h=>?_;cbv;refine My hE hO 0 rfl fun t12 H hO htt12=>?_;cbv;refine QJ hE (f:=AC eAu4) hO hw6.ok 2 rfl hjx10 ?_;cbv;refine SX hE (f:=AC eAu4) (tz:=1) (x':=(l16,t12)) (fun _=>⟨.sl (lst eAu4 l16) t12,.refl _,rfl,rfl,rfl⟩) (by decide) hO hw6.ok 2 rfl hjx10 fun H hO=>?_;cbv;obtain⟨l14,hu,h⟩:=bind_some h;obtain⟨w13,hqw13,hw13,hO⟩:∃w0:Rw A9,w0.q=w6.q∧BP w0 l14∧C3 Eq H0 (cb b4 [.own w0.q.id w0.q.lo w0.q.n]:: .blk w0.q.id (.arr 1 (w0.q.pre++lst (AC eAu4) w0.row++w0.q.rest))::cb b1 [.sl [] .nil]::(FU w0++[])) H:=⟨(⟨w6.q,w6.row.set (x9.Var).toNat (l16,t12)⟩:Rw A9),rfl,by rw[Rr hu];exact hw6.put _ htt12,(by have e:=hbx10 (l16,t12) H [cb b4 [.own w6.q.id w6.q.lo w6.q.n],.blk w6.q.id (.arr 1 (w6.q.pre++lst (AC eAu4) (w6.row.set (x9.Var).toNat (l16,t12))++w6.q.rest)),cb b1 [.sl [] .nil]] hO;simp only[List.cons_append,List.nil_append,List.append_nil]at e ⊢;exact e)⟩
    try rw[←hqw13]
    cases h;exact⟨_,w13,rfl,.e2 (.e4 .z),rfl,hw13,hO⟩
   cbv;cases h;exact⟨_,w6,rfl,.e2 (.e4 .z),rfl,hw6,hO⟩
  cbv;cases h;exact⟨_,_,rfl,⟨w6,hw6,rfl,rfl,hO⟩,.e2 .z,rfl⟩
 ·exact .e2 (.e4 .z)
 ·exact⟨hw2,hO⟩
 clear hx;rintro e l H ⟨w17,hw17,rfl,rfl,hO⟩;cbv;refine Sx hE (e:=eAw2) eAw9 hO hw17 0 1 rfl rfl rfl (by decide) fun H hO=>?_;have hO:C3 Eq H0 [cb b4 [sr eAw2 s7],cb b1 [.sl [] .nil]] H:=hO.rdrop (w:=w17) (T1:=[]) (T2:=[]) 2 rfl;cbv;refine B1 hE hO 0 rfl ?_;cbv;refine B0 hE hO 1 rfl rfl fun H hO=>?_;cbv;refine B1 hE hO 1 rfl ?_;cbv;cases h;exact hK hO (.refl _)
def cf186 :Cf:=⟨[],[(1,21)],[],[],[],[]⟩
theorem c186 (N aA aI aD bA r)(h:Ez N aA aI aD bA=some r):B6 prog 186 [(C0 aA),sr eAu4 aI,sr eAu6 aD,vi bA] (.bool r):=by
 unfold Ez at h
 refine J2 cf186 func186 call186 ntmps186 ?_;intro E H0 K hE hK hO;cbv;refine C1 hE eAv0 h fun x1 h=>?_;cbv;refine A5 hE h (fun _ h=>?_) fun _ h=>?_
 ·cbv;refine C7 hE (g:=fun r2=>(Ew r2)) h (c234 N aI aD bA) (.refl _) fun r2 h=>?_;cbv;refine C1 hE eAv0 h fun x3 h=>?_;cbv;refine A4 hE h (c233 N aA.cL r2 aA.Var x3) (.refl _) fun r4 h=>?_;cbv;cases h;exact hK hO (.refl _)
 cbv;cases h;exact hK hO (.refl _)
def cf187 :Cf:=⟨[],[(3,17),(5,16),(3000006,0),(3000006,1),(3000006,3),(3000006,6),(3000006,8),(3000006,9),(3000007,0),(3000007,1),(3000007,3),(3000007,6),(3000007,8),(3000007,9)],[],[2000006,2000007],[],[]⟩
set_option maxHeartbeats 2000000 in
theorem c187 (N aC aD r) (h:U6 N aC aD=some r):B6 prog 187 [sr eAu6 aC,sr eAu6 aD] (.tup [sr eAu6 r.1,.bool r.2]):=by
 unfold U6 at h
 refine J2 cf187 func187 call187 ntmps187 ?_;intro E H0 K hE hK hO;cbv;replace hO:=hO.tl0 (t:=.nil) rfl;obtain⟨s3,hx,h⟩:=bind_some h;refine P5 cf187 hE L4 (γ:=E4) (fun s1 g=>[(0,.v (sr eAu6 s1.1)),(1,.v (sr eAu6 s1.2.1)),(6,.v (.sl (lst eAu6 s1.2.2) g))]) (fun s1 g H1=>T8 g∧C3 Eq H0 [.tl g] H1) (fun x e l H1=>match(generalizing:=false) x with| .inl y=>∃u1:E4,T8 u1∧e= .exit 0∧l=[(6,.v (.sl (lst eAu6 y) u1))]∧C3 Eq H0 [.tl u1] H1| .inr y=>∃u1:E4,T8 u1∧e= .ret∧l=[(4,.v (.sl [] .nil)),(5,.b false)]∧C3 Eq H0 [.tl u1] H1) (by kernel_rfl) ?_ .nil hx ?_ ?_ ?_
 ·rintro s1 t2 H o ⟨ht2,hO⟩ h;clear hx;cbv;refine E0 hE ?_;cbv;refine E0 hE ?_;cbv;refine A5 hE h (fun _ h=>?_) fun _ h=>?_
  ·cbv;refine E0 hE ?_;cbv;refine E0 hE ?_;cbv;refine A5 hE h (fun _ h=>?_) fun _ h=>?_
   ·cbv;refine C1 hE eAv3 h fun x4 h=>?_;cbv;refine C1 hE eAv3 h fun x5 h=>?_;cbv;refine A5 hE h (fun _ h=>?_) fun _ h=>?_
    ·cbv;cases h;exact⟨_,_,rfl,⟨t2,ht2,rfl,rfl,hO⟩,.e rfl (.b rfl (.z)),rfl⟩
    cbv;refine E0 hE ?_;cbv;refine E0 hE ?_;cbv;refine A5 hE h (fun _ h=>?_) fun _ h=>?_
    ·cbv;obtain⟨s6,hx,h⟩:=bind_some h;refine J4 cf187 hE L4 (fun e l H1=>∃u1:E4,T8 u1∧e= .normal∧l=[(0,.v (sr eAu6 s6.1)),(1,.v (sr eAu6 s1.2.1)),(6,.v (.sl (lst eAu6 s6.2) u1))]∧C3 Eq H0 [.tl u1] H1) (by kernel_rfl) ?_ ?_
     ·clear h;have h:=hx;clear hx;cbv;obtain⟨x87,ex87,h⟩:=bind_some h;obtain⟨l208,el208,h⟩:=bind_some h;obtain⟨l287,el287,h⟩:=bind_some h
      repeat' first|refine And.intro ?_ ?_|(refine C1 hE eAv3 (K7 ex87) fun x87 hh=>?_;obtain rfl:=D3 hh;cbv)|(refine Y5 (f:=eAu6) hE D8 (by decide) hO 0 rfl ht2 (l:=s1.2.2) (m:=[x87]) (.refl _) (.lstc (.eq (eAv3 x87) (.refl _)) (.lst0)) (K7 el208) fun l208 t207 H hO ht207 hh=>?_;obtain rfl:=D3 hh;cbv)|(refine Cd hE (f:=eAu6) D8 (K7 el287) fun l287 t288 hh=>?_;obtain rfl:=D3 hh;cbv)|(have h:=D3 h;subst h;exact⟨_,⟨t207,ht207,rfl,rfl,hO⟩,.v (.ro _ _) (.e2 .z),rfl⟩)
     clear hx;rintro e l H ⟨t447,ht447,rfl,rfl,hO⟩;cbv;cases h;exact⟨_,t447,rfl,.e rfl (.e2 .z),rfl,ht447,hO⟩
    cbv;refine A5 hE h (fun _ h=>?_) fun _ h=>?_
    ·cbv;refine C1 hE eAv3 h fun x448 h=>?_;cbv;refine C1 hE eAv3 h fun x449 h=>?_;cbv;refine A5 hE h (fun _ h=>?_) fun _ h=>?_
     ·cbv;obtain⟨s450,hx,h⟩:=bind_some h;refine J4 cf187 hE L4 (fun e l H1=>∃u1:E4,T8 u1∧e= .normal∧l=[(0,.v (sr eAu6 s450.1)),(1,.v (sr eAu6 s1.2.1)),(6,.v (.sl (lst eAu6 s450.2) u1))]∧C3 Eq H0 [.tl u1] H1) (by kernel_rfl) ?_ ?_
      ·clear h;have h:=hx;clear hx;cbv;obtain⟨x531,ex531,h⟩:=bind_some h;obtain⟨l652,el652,h⟩:=bind_some h;obtain⟨l731,el731,h⟩:=bind_some h
       repeat' first|refine And.intro ?_ ?_|(refine C1 hE eAv3 (K7 ex531) fun x531 hh=>?_;obtain rfl:=D3 hh;cbv)|(refine Y5 (f:=eAu6) hE D8 (by decide) hO 0 rfl ht2 (l:=s1.2.2) (m:=[x531]) (.refl _) (.lstc (.eq (eAv3 x531) (.refl _)) (.lst0)) (K7 el652) fun l652 t651 H hO ht651 hh=>?_;obtain rfl:=D3 hh;cbv)|(refine Cd hE (f:=eAu6) D8 (K7 el731) fun l731 t732 hh=>?_;obtain rfl:=D3 hh;cbv)|(have h:=D3 h;subst h;exact⟨_,⟨t651,ht651,rfl,rfl,hO⟩,.v (.ro _ _) (.e2 .z),rfl⟩)
      clear hx;rintro e l H ⟨t891,ht891,rfl,rfl,hO⟩;cbv;cases h;exact⟨_,t891,rfl,.e rfl (.e2 .z),rfl,ht891,hO⟩
     cbv;obtain⟨s892,hx,h⟩:=bind_some h;refine J4 cf187 hE L4 (fun e l H1=>∃u1:E4,T8 u1∧e= .normal∧l=[(0,.v (sr eAu6 s1.1)),(1,.v (sr eAu6 s892.1)),(6,.v (.sl (lst eAu6 s892.2) u1))]∧C3 Eq H0 [.tl u1] H1) (by kernel_rfl) ?_ ?_
     ·clear h;have h:=hx;clear hx;cbv;obtain⟨x973,ex973,h⟩:=bind_some h;obtain⟨l1094,el1094,h⟩:=bind_some h;obtain⟨l1173,el1173,h⟩:=bind_some h
      repeat' first|refine And.intro ?_ ?_|(refine C1 hE eAv3 (K7 ex973) fun x973 hh=>?_;obtain rfl:=D3 hh;cbv)|(refine Y5 (f:=eAu6) hE D8 (by decide) hO 0 rfl ht2 (l:=s1.2.2) (m:=[x973]) (.refl _) (.lstc (.eq (eAv3 x973) (.refl _)) (.lst0)) (K7 el1094) fun l1094 t1093 H hO ht1093 hh=>?_;obtain rfl:=D3 hh;cbv)|(refine Cd hE (f:=eAu6) D8 (K7 el1173) fun l1173 t1174 hh=>?_;obtain rfl:=D3 hh;cbv)|(have h:=D3 h;subst h;exact⟨_,⟨t1093,ht1093,rfl,rfl,hO⟩,.e rfl (.v (.ro _ _) (.e rfl (.z))),rfl⟩)
     clear hx;rintro e l H ⟨t1333,ht1333,rfl,rfl,hO⟩;cbv;cases h;exact⟨_,t1333,rfl,.e rfl (.e2 .z),rfl,ht1333,hO⟩
    cbv;obtain⟨s1334,hx,h⟩:=bind_some h;refine J4 cf187 hE L4 (fun e l H1=>∃u1:E4,T8 u1∧e= .normal∧l=[(0,.v (sr eAu6 s1.1)),(1,.v (sr eAu6 s1334.1)),(6,.v (.sl (lst eAu6 s1334.2) u1))]∧C3 Eq H0 [.tl u1] H1) (by kernel_rfl) ?_ ?_
    ·clear h;have h:=hx;clear hx;cbv;obtain⟨x1415,ex1415,h⟩:=bind_some h;obtain⟨l1536,el1536,h⟩:=bind_some h;obtain⟨l1615,el1615,h⟩:=bind_some h
     repeat' first|refine And.intro ?_ ?_|(refine C1 hE eAv3 (K7 ex1415) fun x1415 hh=>?_;obtain rfl:=D3 hh;cbv)|(refine Y5 (f:=eAu6) hE D8 (by decide) hO 0 rfl ht2 (l:=s1.2.2) (m:=[x1415]) (.refl _) (.lstc (.eq (eAv3 x1415) (.refl _)) (.lst0)) (K7 el1536) fun l1536 t1535 H hO ht1535 hh=>?_;obtain rfl:=D3 hh;cbv)|(refine Cd hE (f:=eAu6) D8 (K7 el1615) fun l1615 t1616 hh=>?_;obtain rfl:=D3 hh;cbv)|(have h:=D3 h;subst h;exact⟨_,⟨t1535,ht1535,rfl,rfl,hO⟩,.e rfl (.v (.ro _ _) (.e rfl (.z))),rfl⟩)
    clear hx;rintro e l H ⟨t1775,ht1775,rfl,rfl,hO⟩;cbv;cases h;exact⟨_,t1775,rfl,.e rfl (.e2 .z),rfl,ht1775,hO⟩
   cbv;refine E0 hE ?_;cbv;refine E0 hE ?_;cbv;refine A5 hE h (fun _ h=>?_) fun _ h=>?_
   ·cbv;obtain⟨s1776,hx,h⟩:=bind_some h;refine J4 cf187 hE L4 (fun e l H1=>∃u1:E4,T8 u1∧e= .normal∧l=[(0,.v (sr eAu6 s1776.1)),(1,.v (sr eAu6 s1.2.1)),(6,.v (.sl (lst eAu6 s1776.2) u1))]∧C3 Eq H0 [.tl u1] H1) (by kernel_rfl) ?_ ?_
    ·clear h;have h:=hx;clear hx;cbv;obtain⟨x1857,ex1857,h⟩:=bind_some h;obtain⟨l1978,el1978,h⟩:=bind_some h;obtain⟨l2057,el2057,h⟩:=bind_some h
     repeat' first|refine And.intro ?_ ?_|(refine C1 hE eAv3 (K7 ex1857) fun x1857 hh=>?_;obtain rfl:=D3 hh;cbv)|(refine Y5 (f:=eAu6) hE D8 (by decide) hO 0 rfl ht2 (l:=s1.2.2) (m:=[x1857]) (.refl _) (.lstc (.eq (eAv3 x1857) (.refl _)) (.lst0)) (K7 el1978) fun l1978 t1977 H hO ht1977 hh=>?_;obtain rfl:=D3 hh;cbv)|(refine Cd hE (f:=eAu6) D8 (K7 el2057) fun l2057 t2058 hh=>?_;obtain rfl:=D3 hh;cbv)|(have h:=D3 h;subst h;exact⟨_,⟨t1977,ht1977,rfl,rfl,hO⟩,.v (.ro _ _) (.e2 .z),rfl⟩)
    clear hx;rintro e l H ⟨t2217,ht2217,rfl,rfl,hO⟩;cbv;cases h;exact⟨_,t2217,rfl,.e rfl (.e2 .z),rfl,ht2217,hO⟩
   cbv;refine A5 hE h (fun _ h=>?_) fun _ h=>?_
   ·cbv;refine C1 hE eAv3 h fun x2218 h=>?_;cbv;refine C1 hE eAv3 h fun x2219 h=>?_;cbv;refine A5 hE h (fun _ h=>?_) fun _ h=>?_
    ·cbv;obtain⟨s2220,hx,h⟩:=bind_some h;refine J4 cf187 hE L4 (fun e l H1=>∃u1:E4,T8 u1∧e= .normal∧l=[(0,.v (sr eAu6 s2220.1)),(1,.v (sr eAu6 s1.2.1)),(6,.v (.sl (lst eAu6 s2220.2) u1))]∧C3 Eq H0 [.tl u1] H1) (by kernel_rfl) ?_ ?_
     ·clear h;have h:=hx;clear hx;cbv;obtain⟨x2301,ex2301,h⟩:=bind_some h;obtain⟨l2422,el2422,h⟩:=bind_some h;obtain⟨l2501,el2501,h⟩:=bind_some h
      repeat' first|refine And.intro ?_ ?_|(refine C1 hE eAv3 (K7 ex2301) fun x2301 hh=>?_;obtain rfl:=D3 hh;cbv)|(refine Y5 (f:=eAu6) hE D8 (by decide) hO 0 rfl ht2 (l:=s1.2.2) (m:=[x2301]) (.refl _) (.lstc (.eq (eAv3 x2301) (.refl _)) (.lst0)) (K7 el2422) fun l2422 t2421 H hO ht2421 hh=>?_;obtain rfl:=D3 hh;cbv)|(refine Cd hE (f:=eAu6) D8 (K7 el2501) fun l2501 t2502 hh=>?_;obtain rfl:=D3 hh;cbv)|(have h:=D3 h;subst h;exact⟨_,⟨t2421,ht2421,rfl,rfl,hO⟩,.v (.ro _ _) (.e2 .z),rfl⟩)
     clear hx;rintro e l H ⟨t2661,ht2661,rfl,rfl,hO⟩;cbv;cases h;exact⟨_,t2661,rfl,.e rfl (.e2 .z),rfl,ht2661,hO⟩
    cbv;obtain⟨s2662,hx,h⟩:=bind_some h;refine J4 cf187 hE L4 (fun e l H1=>∃u1:E4,T8 u1∧e= .normal∧l=[(0,.v (sr eAu6 s1.1)),(1,.v (sr eAu6 s2662.1)),(6,.v (.sl (lst eAu6 s2662.2) u1))]∧C3 Eq H0 [.tl u1] H1) (by kernel_rfl) ?_ ?_
    ·clear h;have h:=hx;clear hx;cbv;obtain⟨x2743,ex2743,h⟩:=bind_some h;obtain⟨l2864,el2864,h⟩:=bind_some h;obtain⟨l2943,el2943,h⟩:=bind_some h
     repeat' first|refine And.intro ?_ ?_|(refine C1 hE eAv3 (K7 ex2743) fun x2743 hh=>?_;obtain rfl:=D3 hh;cbv)|(refine Y5 (f:=eAu6) hE D8 (by decide) hO 0 rfl ht2 (l:=s1.2.2) (m:=[x2743]) (.refl _) (.lstc (.eq (eAv3 x2743) (.refl _)) (.lst0)) (K7 el2864) fun l2864 t2863 H hO ht2863 hh=>?_;obtain rfl:=D3 hh;cbv)|(refine Cd hE (f:=eAu6) D8 (K7 el2943) fun l2943 t2944 hh=>?_;obtain rfl:=D3 hh;cbv)|(have h:=D3 h;subst h;exact⟨_,⟨t2863,ht2863,rfl,rfl,hO⟩,.e rfl (.v (.ro _ _) (.e rfl (.z))),rfl⟩)
    clear hx;rintro e l H ⟨t3103,ht3103,rfl,rfl,hO⟩;cbv;cases h;exact⟨_,t3103,rfl,.e rfl (.e2 .z),rfl,ht3103,hO⟩
   cbv;obtain⟨s3104,hx,h⟩:=bind_some h;refine J4 cf187 hE L4 (fun e l H1=>∃u1:E4,T8 u1∧e= .normal∧l=[(0,.v (sr eAu6 s1.1)),(1,.v (sr eAu6 s3104.1)),(6,.v (.sl (lst eAu6 s3104.2) u1))]∧C3 Eq H0 [.tl u1] H1) (by kernel_rfl) ?_ ?_
   ·clear h;have h:=hx;clear hx;cbv;obtain⟨x3185,ex3185,h⟩:=bind_some h;obtain⟨l3306,el3306,h⟩:=bind_some h;obtain⟨l3385,el3385,h⟩:=bind_some h
    repeat' first|refine And.intro ?_ ?_|(refine C1 hE eAv3 (K7 ex3185) fun x3185 hh=>?_;obtain rfl:=D3 hh;cbv)|(refine Y5 (f:=eAu6) hE D8 (by decide) hO 0 rfl ht2 (l:=s1.2.2) (m:=[x3185]) (.refl _) (.lstc (.eq (eAv3 x3185) (.refl _)) (.lst0)) (K7 el3306) fun l3306 t3305 H hO ht3305 hh=>?_;obtain rfl:=D3 hh;cbv)|(refine Cd hE (f:=eAu6) D8 (K7 el3385) fun l3385 t3386 hh=>?_;obtain rfl:=D3 hh;cbv)|(have h:=D3 h;subst h;exact⟨_,⟨t3305,ht3305,rfl,rfl,hO⟩,.e rfl (.v (.ro _ _) (.e rfl (.z))),rfl⟩)
   clear hx;rintro e l H ⟨t3545,ht3545,rfl,rfl,hO⟩;cbv;cases h;exact⟨_,t3545,rfl,.e rfl (.e2 .z),rfl,ht3545,hO⟩
  cbv;cases h;exact⟨_,_,rfl,⟨t2,ht2,rfl,rfl,hO⟩,.e rfl .z,rfl⟩
 ·exact .e2 (.v (.slt _ (.lst0)) (.z))
 ·exact⟨trivial,hO⟩
 clear hx
 rcases s3 with y3546|y3548
 ·rintro e l H ⟨t3547,ht3547,rfl,rfl,hO⟩;cbv;cases h;exact hK hO (.tup (.cons (.ro _ _) (.refl _)))
 rintro e l H ⟨t3549,ht3549,rfl,rfl,hO⟩;cbv;cases h;exact hK hO (.tup (.cons (.lit _ (D5)) (.refl _)))
theorem c235 (N aF bA r) (h:CC N aF bA=some r):B6 prog 235 [sr eAu6 aF,vi bA] (.bool r):=by
 unfold CC at h
 refine J2 cf0 func235 call235 ntmps235 ?_;intro E H0 K hE hK hO;cbv;obtain⟨s2,hx,h⟩:=bind_some h;refine E6 cf0 hE L4 (fun s1=>[(0,.v (sr eAu6 aF)),fi 1 bA,fi 5 s1]) (fun s1 H1=>C3 Eq H0 [] H1) (fun x e l H1=>match(generalizing:=false) x with| .inl y=>e= .exit 0∧l=[]∧C3 Eq H0 [] H1| .inr y=>e= .ret∧l=[(4,.b true)]∧C3 Eq H0 [] H1) (by kernel_rfl) ?_ hx ?_ hO ?_
 ·intro s1 H o hO h;clear hx;cbv;refine E0 hE ?_;cbv;refine A5 hE h (fun _ h=>?_) fun _ h=>?_
  ·cbv;refine C1 hE eAv3 h fun x3 h=>?_;cbv;refine A5 hE h (fun _ h=>?_) fun _ h=>?_
   ·cbv;cases h;exact⟨_,_,rfl,⟨rfl,rfl,hO⟩,.b rfl (.z),rfl⟩
   cbv;cases h;exact⟨_,rfl,.e rfl (.e2 .z),rfl,hO⟩
  cbv;cases h;exact⟨_,_,rfl,⟨rfl,rfl,hO⟩,.z,rfl⟩
 ·exact .e rfl (.e2 .z)
 clear hx
 rcases s2 with y4|y5
 ·rintro e l H ⟨rfl,rfl,hO⟩;cbv;cases h;exact hK hO (.refl _)
 rintro e l H ⟨rfl,rfl,hO⟩;cbv;cases h;exact hK hO (.refl _)
def cf188 :Cf:=⟨[],[(2,12),(4,13),(6,8),(10,27)],[],[],[],[]⟩
theorem c188 (N aA aI aD aF r) (h:Ac N aA aI aD aF=some r):B6 prog 188 [(C0 aA),sr eAu4 aI,sr eAu6 aD,sr eAu6 aF] (.bool r):=by
 unfold Ac at h
 refine J2 cf188 func188 call188 ntmps188 ?_;intro E H0 K hE hK hO;cbv;refine A4 hE h (c187 N aD aF) (.refl _) fun r1 h=>?_;cbv;refine C1 hE eAv3 h fun x2 h=>?_;cbv;refine E0 hE ?_;cbv;refine C1 hE eAv3 h fun x3 h=>?_;cbv;refine A5 hE h (fun _ h=>?_) fun _ h=>?_
 ·cbv;refine C1 hE eAv0 h fun x4 h=>?_;cbv;refine C1 hE eAv0 h fun x5 h=>?_;cbv;cases h;exact hK hO (.refl _)
 cbv;refine A5 hE h (fun _ h=>?_) fun _ h=>?_
 ·cbv;refine E0 hE ?_;cbv;refine C7 hE (g:=fun r6=>(Ew r6)) h (c234 N aI r1.1 (Ar.len aI)) (.refl _) fun r6 h=>?_;cbv;refine A4 hE h (c233 N aA.cL r6 (-1) (⟨0,0,0,0,[]⟩:A9)) (.cons (.refl _) (.cons (.refl _) (.cons (.refl _) (.cons (.agg (.cons (.refl _) (.cons (.refl _) (.cons (.refl _) (.cons (.refl _) (.cons (.lit _ (D5)) (.refl _))))))) (.refl _))))) fun r7 h=>?_;cbv;cases h;exact hK hO (.refl _)
 cbv;obtain⟨s9,hx,h⟩:=bind_some h;refine E6 cf188 hE L4 (fun s8=>[(1,.v (sr eAu4 aI)),(3,.v (sr eAu6 aF)),(4,.v (.eref (D6 aA) 0)),(9,.v (sr eAu6 r1.1)),fi 12 x3.At,fi 13 s8]) (fun s8 H1=>C3 Eq H0 [] H1) (fun x e l H1=>match(generalizing:=false) x with| .inl y=>e= .exit 0∧l=[]∧C3 Eq H0 [] H1| .inr y=>e= .ret∧l=[(8,.b false)]∧C3 Eq H0 [] H1) (by kernel_rfl) ?_ hx ?_ hO ?_
 ·intro s8 H o hO h;clear hx;cbv;refine A5 hE h (fun _ h=>?_) fun _ h=>?_
  ·cbv;refine C7 hE (g:=fun r10=>.bool r10) h (c235 N aF s8) (.refl _) fun r10 h=>?_;cbv;refine A5 hE h (fun _ h=>?_) fun _ h=>?_
   ·cbv;refine C1 hE eAv0 h fun x11 h=>?_;cbv;refine A5 hE h (fun _ h=>?_) fun _ h=>?_
    ·cbv;refine C7 hE (g:=fun r12=>(Ew r12)) h (c234 N aI r1.1 s8) (.refl _) fun r12 h=>?_;cbv;refine C1 hE eAv0 h fun x13 h=>?_;cbv;refine A4 hE h (c233 N aA.cL r12 aA.Var x13) (.refl _) fun r14 h=>?_;cbv;refine A5 hE h (fun _ h=>?_) fun _ h=>?_
     ·cbv;cases h;exact⟨_,_,rfl,⟨rfl,rfl,hO⟩,.b rfl (.z),rfl⟩
     cbv;cases h;exact⟨_,rfl,.e2 (.e4 .z),rfl,hO⟩
    cbv;cases h;exact⟨_,rfl,.e2 (.e4 .z),rfl,hO⟩
   cbv;cases h;exact⟨_,rfl,.e2 (.e4 .z),rfl,hO⟩
  cbv;cases h;exact⟨_,_,rfl,⟨rfl,rfl,hO⟩,.z,rfl⟩
 ·exact .e2 (.e4 .z)
 clear hx
 rcases s9 with y15|y16
 ·rintro e l H ⟨rfl,rfl,hO⟩;cbv;cases h;exact hK hO (.refl _)
 rintro e l H ⟨rfl,rfl,hO⟩;cbv;cases h;exact hK hO (.refl _)
def cf144 :Cf:=⟨[],[(3,10),(9,16),(13,18)],[],[],[],[]⟩
theorem c144 (N:Nat):∀n aA aI aD aH r,Bf N n aA aI aD aH=some r→B6 prog 144 [(C0 aA),sr eAu4 aI,sr eAu6 aD,(C8 aH)] (.tup [sr eAu6 r.1,.bool r.2]):=by
 intro n
 induction n with
 |zero=>intro aA aI aD aH r h;cases h
 |succ n ih=>
 intro aA aI aD aH r h
 unfold Bf at h
 refine J2 cf144 func144 call144 ntmps144 ?_;intro E H0 K hE hK hO;cbv;refine A5 hE h (fun _ h=>?_) fun _ h=>?_
 ·cbv;refine A4 hE h (c87 N aI aH.Ref) (.refl _) fun r1 h=>?_;cbv;refine C7 hE (g:=fun r2=>.bool r2) h (c186 N aA aI aD r1) (.refl _) fun r2 h=>?_;cbv;cases h;exact hK hO (.tup (.cons (.lit _ (E5 ((eAv3 (⟨aA.Var,r1⟩:B2)).symm) (D5))) (.refl _)))
 cbv;replace hO:=hO.tl0 (t:=.nil) rfl;obtain⟨s4,hx,h⟩:=bind_some h;refine E6 cf144 hE L4 (fun s3=>[(1,.v (sr eAu4 aI)),(2,.v (sr eAu6 aD)),(4,.v (.eref (D6 aA) 0)),(7,.v (.eref (J1 aH) 0)),(11,.v (sr eAu6 s3.1)),(12,.v (sr eAu6 s3.2.1)),fi 13 s3.2.2]) (fun s3 H1=>C3 Eq H0 [.tl .nil] H1) (fun x e l H1=>match(generalizing:=false) x with| .inl y=>e= .exit 0∧l=[(1,.v (sr eAu4 aI)),(2,.v (sr eAu6 aD)),(4,.v (.eref (D6 aA) 0)),(11,.v (sr eAu6 y))]∧C3 Eq H0 [.tl .nil] H1| .inr y=>e= .ret∧l=[(8,.v (.sl [] .nil)),(9,.b false)]∧C3 Eq H0 [.tl .nil] H1) (by kernel_rfl) ?_ hx ?_ hO ?_
 ·intro s3 H o hO h;clear hx;cbv;refine E0 hE ?_;cbv;refine A5 hE h (fun _ h=>?_) fun _ h=>?_
  ·cbv;refine C7 hE (g:=fun r5=>(C0 r5)) h (c136 N aA aH s3.2.2) (.refl _) fun r5 h=>?_;cbv;refine C1 hE eAu7 h fun x6 h=>?_;cbv;refine C7 hE (g:=fun r7=>.tup [sr eAu6 r7.1,.bool r7.2]) h (ih r5 aI s3.2.1 x6) (.refl _) fun r7 h=>?_;cbv;refine A5 hE h (fun _ h=>?_) fun _ h=>?_
   ·cbv;cases h;exact⟨_,_,rfl,⟨rfl,rfl,hO⟩,.e rfl (.b rfl (.z)),rfl⟩
   cbv;refine E0 hE ?_;cbv;refine A5 hE h (fun _ h=>?_) fun _ h=>?_
   ·cbv;refine C1 hE eAv3 h fun x8 h=>?_;cbv;refine E0 hE ?_;cbv;refine C1 hE eAv3 h fun x9 h=>?_;cbv;refine A5 hE h (fun _ h=>?_) fun _ h=>?_
    ·cbv;cases h;exact⟨_,_,rfl,⟨rfl,rfl,hO⟩,.e rfl (.b rfl (.z)),rfl⟩
    cbv;refine A4 hE h (c187 N s3.1 r7.1) (.refl _) fun r10 h=>?_;cbv;refine A5 hE h (fun _ h=>?_) fun _ h=>?_
    ·cbv;cases h;exact⟨_,_,rfl,⟨rfl,rfl,hO⟩,.e rfl (.b rfl (.z)),rfl⟩
    cbv;refine A5 hE h (fun _ h=>?_) fun _ h=>?_
    ·cbv;refine A4 hE h (c187 N aD r10.1) (.refl _) fun r11 h=>?_;cbv;refine A5 hE h (fun _ h=>?_) fun _ h=>?_
     ·cbv;cases h;exact⟨_,_,rfl,⟨rfl,rfl,hO⟩,.e rfl (.b rfl (.z)),rfl⟩
     cbv;cases h;exact⟨_,rfl,.e rfl (.e2 (.e4 .z)),rfl,hO⟩
    cbv;cases h;exact⟨_,rfl,.e rfl (.e2 (.e4 .z)),rfl,hO⟩
   cbv;refine A4 hE h (c187 N s3.1 r7.1) (.refl _) fun r12 h=>?_;cbv;refine A5 hE h (fun _ h=>?_) fun _ h=>?_
   ·cbv;cases h;exact⟨_,_,rfl,⟨rfl,rfl,hO⟩,.e rfl (.b rfl (.z)),rfl⟩
   cbv;refine A5 hE h (fun _ h=>?_) fun _ h=>?_
   ·cbv;refine A4 hE h (c187 N aD r12.1) (.refl _) fun r13 h=>?_;cbv;refine A5 hE h (fun _ h=>?_) fun _ h=>?_
    ·cbv;cases h;exact⟨_,_,rfl,⟨rfl,rfl,hO⟩,.e rfl (.b rfl (.z)),rfl⟩
    cbv;cases h;exact⟨_,rfl,.e rfl (.e2 (.e4 .z)),rfl,hO⟩
   cbv;cases h;exact⟨_,rfl,.e rfl (.e2 (.e4 .z)),rfl,hO⟩
  cbv;cases h;exact⟨_,_,rfl,⟨rfl,rfl,hO⟩,.e4 .z,rfl⟩
 ·exact .e4 (.v (.lit _ (D5)) (.e rfl (.e rfl (.z))))
 clear hx
 rcases s4 with y14|y16
 ·rintro e l H ⟨rfl,rfl,hO⟩;cbv;refine A4 hE h (c188 N aA aI aD y14) (.refl _) fun r15 h=>?_;cbv;cases h;exact hK hO (.refl _)
 rintro e l H ⟨rfl,rfl,hO⟩;cbv;cases h;exact hK hO (.tup (.cons (.lit _ (D5)) (.refl _)))
theorem c88 (N aA aI aH r)(h:Fj N aA aI aH=some r):B6 prog 88 [(C0 aA),sr eAu4 aI,(C8 aH)] (.bool r):=by
 unfold Fj at h
 refine J2 cf0 func88 call88 ntmps88 ?_;intro E H0 K hE hK hO;cbv;refine A4 hE h (c144 N N aA aI ([]) aH) (.cons (.refl _) (.cons (.refl _) (.cons (.lit _ (D5)) (.refl _)))) fun r1 h=>?_;cbv;cases h;exact hK hO (.refl _)
theorem c32 (N aA aF aH r) (h:Bv N aA aF aH=some r):B6 prog 32 [(C0 aA),sr eAu4 aF,(C8 aH)] (vi r):=by
 unfold Bv at h
 refine J2 cf0 func32 call32 ntmps32 ?_;intro E H0 K hE hK hO;cbv;refine A4 hE h (c27 N aA aH) (.refl _) fun r1 h=>?_;cbv;refine A5 hE h (fun _ h=>?_) fun _ h=>?_
 ·cbv;cases h;exact hK hO (.refl _)
 cbv;refine A4 hE h (c42 N aF) (.refl _) fun r2 h=>?_;cbv;refine A5 hE h (fun _ h=>?_) fun _ h=>?_
 ·cbv;cases h;exact hK hO (.refl _)
 cbv;refine A4 hE h (c81 N N aA aH) (.refl _) fun r3 h=>?_;cbv;obtain⟨s5,hx,h⟩:=bind_some h;refine E6 cf0 hE L4 (fun s4=>[(1,.v (sr eAu4 aF)),(3,.v (.eref (D6 aA) 0)),(5,.v (.eref (J1 aH) 0)),(9,.v (sr eAu8 r3)),fi 10 s4]) (fun s4 H1=>C3 Eq H0 [] H1) (fun x e l H1=>match(generalizing:=false) x with| .inl y=>e= .exit 0∧l=[(1,.v (sr eAu4 aF)),(3,.v (.eref (D6 aA) 0)),(5,.v (.eref (J1 aH) 0))]∧C3 Eq H0 [] H1| .inr y=>e= .ret∧l=[fi 6 6]∧C3 Eq H0 [] H1) (by kernel_rfl) ?_ hx ?_ hO ?_
 ·intro s4 H o hO h;clear hx;cbv;refine E0 hE ?_;cbv;refine A5 hE h (fun _ h=>?_) fun _ h=>?_
  ·cbv;refine C1 hE eAv5 h fun x6 h=>?_;cbv;refine A4 hE h (c87 N aF x6.Ref) (.refl _) fun r7 h=>?_;cbv;refine A5 hE h (fun _ h=>?_) fun _ h=>?_
   ·cbv;cases h;exact⟨_,_,rfl,⟨rfl,rfl,hO⟩,.e rfl .z,rfl⟩
   cbv;cases h;exact⟨_,rfl,.e rfl (.e4 .z),rfl,hO⟩
  cbv;cases h;exact⟨_,_,rfl,⟨rfl,rfl,hO⟩,.e rfl (.e2 .z),rfl⟩
 ·exact .e rfl (.e4 .z)
 clear hx
 rcases s5 with y8|y10
 ·rintro e l H ⟨rfl,rfl,hO⟩;cbv;refine A4 hE h (c88 N aA aF aH) (.refl _) fun r9 h=>?_;cbv;refine A5 hE h (fun _ h=>?_) fun _ h=>?_
  ·cbv;cases h;exact hK hO (.refl _)
  cbv;cases h;exact hK hO (.refl _)
 rintro e l H ⟨rfl,rfl,hO⟩;cbv;cases h;exact hK hO (.refl _)
end Go.Ab
namespace Go.Ab
open Go.RowKit Go.Proofs Go.Proofs.Tryz I8
variable [Ar][I8]
set_option maxRecDepth 100000
def cf5 :Cf:=⟨[],[(3,9)],[],[],[],[]⟩
theorem c5 (N aA aF aH r) (h:R7 N aA aF aH=some r):B6 prog 5 [(C0 aA),sr eAu4 aF,(C8 aH)] (.bool r):=by
 unfold R7 at h
 refine J2 cf5 func5 call5 ntmps5 ?_;intro E H0 K hE hK hO;cbv;refine A4 hE h (c23 N aA aF aH) (.refl _) fun r1 h=>?_;cbv;refine A5 hE h (fun _ h=>?_) fun _ h=>?_
 ·cbv;refine A4 hE h (c24 N) (.refl _) fun r2 h=>?_;cbv;cases h;exact hK hO (.refl _)
 cbv;refine A4 hE h (c30 N N aH) (.refl _) fun r3 h=>?_;cbv;refine A5 hE h (fun _ h=>?_) fun _ h=>?_
 ·cbv;refine A4 hE h (c30 N N aH) (.refl _) fun r4 h=>?_;cbv;refine A5 hE h (fun _ h=>?_) fun _ h=>?_
  ·cbv;refine A4 hE h (c24 N) (.refl _) fun r5 h=>?_;cbv;cases h;exact hK hO (.refl _)
  cbv;refine C7 hE (g:=fun r6=>.bool r6) h (c24 N) (.refl _) fun r6 h=>?_;cbv;refine A5 hE h (fun _ h=>?_) fun _ h=>?_
  ·cbv;refine C7 hE (g:=fun r7=>vi r7) h (c31 N aA aF aH) (.refl _) fun r7 h=>?_;cbv;refine A4 hE h (c32 N aA aF aH) (.refl _) fun r8 h=>?_;cbv;cases h;exact hK hO (.refl _)
  cbv;cases h;exact hK hO (.refl _)
 cbv;refine C7 hE (g:=fun r9=>.bool r9) h (c24 N) (.refl _) fun r9 h=>?_;cbv;refine A5 hE h (fun _ h=>?_) fun _ h=>?_
 ·cbv;refine C7 hE (g:=fun r10=>vi r10) h (c31 N aA aF aH) (.refl _) fun r10 h=>?_;cbv;refine A4 hE h (c32 N aA aF aH) (.refl _) fun r11 h=>?_;cbv;cases h;exact hK hO (.refl _)
 cbv;cases h;exact hK hO (.refl _)
end Go.Ab
