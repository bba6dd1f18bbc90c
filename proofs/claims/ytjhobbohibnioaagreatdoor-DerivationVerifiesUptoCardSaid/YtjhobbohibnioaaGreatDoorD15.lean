/- GVCo6 -/
import Derived.Test.YtjhobbohibnioaaGreatDoorD14
set_option linter.all false
open Go.Ab.Ar (lst)
namespace Go.Ab
open Go.RowKit Go.Proofs Go.Proofs.Tryz I8
variable [Ar][I8]
set_option maxRecDepth 100000
theorem c63 (N:Nat)(aG:List C6)(bB:V)(aY:C6→C6→Option Int)(bQ:∀y1 y2 q,aY y1 y2=some q→W3 prog bB [(AE y1),(AE y2)] (vi q))(r:(List C6))(h:L9 N aG aY=some r):TF prog 63 (fun q=>[.own q.id q.lo q.n,bB]) 4 (lst eAu8 aG) (lst eAu8 r):=by
 unfold L9 at h
 refine LA (T:=TT) (m:=2) cf0 L4 func63 (by rfl) (by kernel_rfl) call63 ntmps63 (by rfl) (fun _=>rfl) (by rfl) ?_;intro E H0 q0 K hE hq0 hO hK;cbv;refine Nr hE hq0 ?_;cbv;refine Qt hE hO hq0 0 rfl h (c130 N aG (Ar.len aG) bB aY bQ) (.refl _) fun l1 H hq0 hO h=>?_;cbv;cases h;exact hK _ 0 _ hq0 rfl hO
theorem c65 (N aC aD r)(h:Dj N aC aD=some r):B6 prog 65 [(Bb aC),(Bb aD)] (vi r):=by
 unfold Dj at h
 refine J2 cf0 func65 call65 ntmps65 ?_;intro E H0 K hE hK hO;cbv;refine A4 hE h (c72 N (⟨aC.Source,aC.Seq,0,aC.Time,[]⟩:A9) (⟨aD.Source,aD.Seq,0,aD.Time,[]⟩:A9)) (.cons (.agg (.cons (.refl _) (.cons (.refl _) (.cons (.refl _) (.cons (.refl _) (.cons (.lit _ (D5)) (.refl _))))))) (.cons (.agg (.cons (.refl _) (.cons (.refl _) (.cons (.refl _) (.cons (.refl _) (.cons (.lit _ (D5)) (.refl _))))))) (.refl _))) fun r1 h=>?_;cbv;cases h;exact hK hO (.refl _)
theorem c64 (N aC aD r)(h:Ax N aC aD=some r):B6 prog 64 [(AE aC),(AE aD)] (vi r):=by
 unfold Ax at h
 refine J2 cf0 func64 call64 ntmps64 ?_;intro E H0 K hE hK hO;cbv;refine A4 hE h (c65 N aC.Ref aD.Ref) (.refl _) fun r1 h=>?_;cbv;cases h;exact hK hO (.refl _)
def cfo62 :Cf:=⟨[7,6000004,6000005,6000017],[(5,10),(10,12)],[],[],[],[]⟩
theorem o62 (N:Nat):∀n aA aH r,W8 N n aA aH=some r→PJ prog 62 [(C0 aA),(C8 aH)] 4 (lst eAu8 r):=by
 intro n
 induction n with
 |zero=>intro aA aH r h;cases h
 |succ n ih=>
 intro aA aH r h
 unfold W8 at h
 intro H0;refine IL (T:=TT) (F:=H0) cfo62 L4 func62 (by rfl) (by kernel_rfl) call62 ntmps62 (by rfl) (by rfl) ?_;intro E K hE hK hN;have hO:C3 Eq H0 [] H0:=.start H5 rfl;cbv;refine Uz hE (f:=eAu8) hO fun q1 H hq1 hO=>?_;cbv;refine A5 hE h (fun _ h=>?_) fun _ h=>?_
 ·cbv;refine YT hE (f:=eAu8) (l:=([(⟨aA.Var,aH.Ref⟩:C6)]:List C6)) (.lstc (.eq (eAv5 (⟨aA.Var,aH.Ref⟩:C6)) (.refl _)) (.lst0)) hO fun q2 H hq2 hO=>?_;cbv;cases h;exact hK q2 _ _ (Dw hE hq2) (hO)
 cbv;refine A5 hE h (fun _ h=>?_) fun _ h=>?_
 ·cbv;refine C1 hE eAv2 h fun x3 h=>?_;cbv;refine C1 hE eAu7 h fun x4 h=>?_;cbv;refine Mz hE (f:=eAu8) h (ih x3 x4) (.refl _) hO fun l5 q6 H hq6 hO h=>?_;cbv;cases h;exact hK q6 _ _ (Dw hE hq6) (hO)
 cbv;refine Uz hE (f:=eAu8) hO fun q7 H hq7 hO=>?_;cbv;refine E0 hE ?_;cbv;obtain⟨s10,hx,h⟩:=bind_some h;refine P5 cfo62 hE L4 (γ:=OG) (fun s8 g=>[(2,.v (.eref (D6 aA) 0)),(5,.v (.own g.id g.lo g.n)),(32,.v (sr eAu5 aH.Kids)),fi 33 (Ar.len aH.Kids),fi 34 s8.1]) (fun s8 g H1=>Aa g (Ar.len s8.2)∧C3 Eq H0 [ob g 4 eAu8 s8.2,ob q1 4 eAu8 ([]:List C6)] H1) (fun x e l H1=>∃u1:OG,Aa u1 (Ar.len x)∧e= .exit 1∧l=[(5,.v (.own u1.id u1.lo u1.n))]∧C3 Eq H0 [ob u1 4 eAu8 x,ob q1 4 eAu8 ([]:List C6)] H1) (by kernel_rfl) ?_ q7 hx ?_ ?_ ?_
 ·rintro s8 q9 H o ⟨hq9,hO⟩ h;clear hx;cbv;refine A5 hE h (fun _ h=>?_) fun _ h=>?_
  ·cbv;refine C1 hE eAu7 h fun x11 h=>?_;cbv;refine C9 hE hO fun b12 H hO=>?_;cbv;refine B0 hE hO 0 rfl rfl fun H hO=>?_;cbv;refine E0 hE ?_;cbv;refine Mx hE h fun h=>?_;cbv;refine C1 hE eAv2 h fun x13 h=>?_;cbv;refine B1 hE hO 0 rfl ?_;cbv;refine C7 hE (g:=fun r14=>sr eAu8 r14) h (c62 N n x13 x11) (.refl _) fun r14 h=>?_;cbv;refine Qq (f:=eAu8) hE Cn (by decide) hO hq9 1 rfl (m:=r14) (Lg (f:=eAu8) hE Cn (.refl _)) h fun l16 q15 H hq15 hO h=>?_;cbv;cases h;exact⟨_,q15,rfl,.e rfl (.e4 .z),rfl,hq15,hO.tail⟩
  cbv;cases h;exact⟨_,_,rfl,⟨q9,hq9,rfl,rfl,hO⟩,.e rfl .z,rfl⟩
 ·exact .e rfl (.e4 .z)
 ·exact⟨hq7,hO⟩
 clear hx;rintro e l H ⟨q17,hq17,rfl,rfl,hO⟩;cbv;cases h;exact hK q17 _ _ (Dw hE hq17) (hO)
def cf17 :Cf:=⟨[4],[(9,11)],[],[],[(42,7)],[]⟩
theorem c17 (N aA aH r) (h:BD N aA aH=some r):B6 prog 17 [(C0 aA),(C8 aH)] (.tup [(Gx r.1),vi r.2]):=by
 unfold BD at h
 refine J2 cf17 func17 call17 ntmps17 ?_;intro E H0 K hE hK hO;cbv;refine C9 hE hO fun b1 H hO=>?_;cbv;refine A4 hE h (c26 N aA aH) (.refl _) fun r2 h=>?_;cbv;refine A5 hE h (fun _ h=>?_) fun _ h=>?_
 ·cbv;cases h
 cbv;refine Mz hE (f:=eAu8) h (o62 N N aA aH) (.refl _) hO fun l3 q4 H hq4 hO h=>?_;cbv;refine Qt hE hO hq4 0 rfl h (fun l5 hx=>c63 N l3 (.func (.func 64) [] []) (fun y1 y2=>Ax N y1 y2) (fun y1 y2 r hx=>B6.value (F:=[]) (C:=[]) (c64 N y1 y2 r hx)) l5 hx) (.refl _) fun l5 H hq4 hO h=>?_;cbv;obtain⟨s7,hx,h⟩:=bind_some h;refine E6 cf17 hE L4 (fun s6=>[(4,.v (.ref b1 0)),(7,.v (.own q4.id q4.lo q4.n)),fi 8 s6]) (fun s6 H1=>C3 Eq H0 [ob q4 4 eAu8 l5,cb b1 [.sl [] .nil]] H1) (fun x e l H1=>e= .exit 0∧l=[(4,.v (.ref b1 0)),(7,.v (.own q4.id q4.lo q4.n))]∧C3 Eq H0 [ob q4 4 eAu8 l5,cb b1 [.sl [] .nil]] H1) (by kernel_rfl) ?_ hx ?_ hO ?_
 ·intro s6 H o hO h;clear hx;cbv;refine Nr hE hq4 ?_;cbv;refine A5 hE h (fun _ h=>?_) fun _ h=>?_
  ·cbv;refine Ap hE hO hq4 0 rfl h fun h=>?_;cbv;refine Bx hE eAv5 hO hq4 0 rfl h fun x8 h=>?_;cbv;refine Ap hE hO hq4 0 rfl h fun h=>?_;cbv;refine Bx hE eAv5 hO hq4 0 rfl h fun x9 h=>?_;cbv;refine A5 hE h (fun _ h=>?_) fun _ h=>?_
   ·cbv;cases h
   cbv;cases h;exact⟨_,rfl,.e rfl (.e2 .z),rfl,hO⟩
  cbv;cases h;exact⟨_,_,rfl,⟨rfl,rfl,hO⟩,.e2 .z,rfl⟩
 ·exact .e rfl (.e2 .z)
 clear hx;rintro e l H ⟨rfl,rfl,hO⟩;cbv;refine An2 hE hO hq4 0 rfl fun H hO=>?_;cbv;refine A4 hE h (c59 N (⟨l5⟩:DV)) (.refl _) fun r10 h=>?_;cbv;refine A5 hE h (fun _ h=>?_) fun _ h=>?_
 ·cbv;cases h
 cbv;refine B0 hE hO 0 rfl rfl fun H hO=>?_;cbv;refine B1 hE hO 0 rfl ?_;cbv;cases h;exact hK hO (.refl _)
theorem c30 (N:Nat):∀n aH r,V8 N n aH=some r→B6 prog 30 [(C8 aH)] (vi r):=by
 intro n
 induction n with
 |zero=>intro aH r h;cases h
 |succ n ih=>
 intro aH r h
 unfold V8 at h
 refine J2 cf0 func30 call30 ntmps30 ?_;intro E H0 K hE hK hO;cbv;obtain⟨s2,hx,h⟩:=bind_some h;refine E6 cf0 hE L4 (fun s1=>[(1,.v (.eref (J1 aH) 0)),fi 3 s1.1,fi 4 s1.2]) (fun s1 H1=>C3 Eq H0 [] H1) (fun x e l H1=>e= .exit 0∧l=[fi 3 x]∧C3 Eq H0 [] H1) (by kernel_rfl) ?_ hx ?_ hO ?_
 ·intro s1 H o hO h;clear hx;cbv;refine E0 hE ?_;cbv;refine A5 hE h (fun _ h=>?_) fun _ h=>?_
  ·cbv;refine C1 hE eAu7 h fun x3 h=>?_;cbv;refine A4 hE h (ih x3) (.refl _) fun r4 h=>?_;cbv;cases h;exact⟨_,rfl,.e rfl (.e2 .z),rfl,hO⟩
  cbv;cases h;exact⟨_,_,rfl,⟨rfl,rfl,hO⟩,.e rfl .z,rfl⟩
 ·exact .e rfl (.e2 .z)
 clear hx;rintro e l H ⟨rfl,rfl,hO⟩;cbv;cases h;exact hK hO (.refl _)
theorem c89 (N:Nat):∀n aH r,Ad N n aH=some r→B6 prog 89 [(C8 aH)] (vi r):=by
 intro n
 induction n with
 |zero=>intro aH r h;cases h
 |succ n ih=>
 intro aH r h
 unfold Ad at h
 refine J2 cf0 func89 call89 ntmps89 ?_;intro E H0 K hE hK hO;cbv;obtain⟨s2,hx,h⟩:=bind_some h;refine E6 cf0 hE L4 (fun s1=>[(1,.v (.eref (J1 aH) 0)),fi 3 s1.1,fi 4 s1.2]) (fun s1 H1=>C3 Eq H0 [] H1) (fun x e l H1=>e= .exit 0∧l=[fi 3 x]∧C3 Eq H0 [] H1) (by kernel_rfl) ?_ hx ?_ hO ?_
 ·intro s1 H o hO h;clear hx;cbv;refine E0 hE ?_;cbv;refine A5 hE h (fun _ h=>?_) fun _ h=>?_
  ·cbv;refine C1 hE eAu7 h fun x3 h=>?_;cbv;refine A4 hE h (ih x3) (.refl _) fun r4 h=>?_;cbv;cases h;exact⟨_,rfl,.e rfl (.e2 .z),rfl,hO⟩
  cbv;cases h;exact⟨_,_,rfl,⟨rfl,rfl,hO⟩,.e rfl .z,rfl⟩
 ·exact .e rfl (.e2 .z)
 clear hx;rintro e l H ⟨rfl,rfl,hO⟩;cbv;cases h;exact hK hO (.refl _)
theorem c33 (N aH r)(h:FV N aH=some r):B6 prog 33 [(C8 aH)] (.bool r):=by
 unfold FV at h
 refine J2 cf0 func33 call33 ntmps33 ?_;intro E H0 K hE hK hO;cbv;refine A4 hE h (c89 N N aH) (.refl _) fun r1 h=>?_;cbv;refine A5 hE h (fun _ h=>?_) fun _ h=>?_
 ·cbv;refine A4 hE h (c30 N N aH) (.refl _) fun r2 h=>?_;cbv;cases h;exact hK hO (.refl _)
 cbv;cases h;exact hK hO (.refl _)
theorem c23 (N aA aF aH r) (h:Gj N aA aF aH=some r):B6 prog 23 [(C0 aA),sr eAu4 aF,(C8 aH)] (.bool r):=by
 unfold Gj at h
 refine J2 cf0 func23 call23 ntmps23 ?_;intro E H0 K hE hK hO;cbv;refine A4 hE h (c75 N aA) (.refl _) fun r1 h=>?_;cbv;refine A5 hE h (fun _ h=>?_) fun _ h=>?_
 ·cbv;refine A4 hE h (c36 N aF) (.refl _) fun r2 h=>?_;cbv;refine A5 hE h (fun _ h=>?_) fun _ h=>?_
  ·cbv;refine A4 hE h (c33 N aH) (.refl _) fun r3 h=>?_;cbv;cases h;exact hK hO (.refl _)
  cbv;cases h;exact hK hO (.refl _)
 cbv;cases h;exact hK hO (.refl _)
theorem c84 (N aC aD r)(h:Hx N aC aD=some r):B6 prog 84 [(AE aC),(AE aD)] (vi r):=by
 unfold Hx at h
 refine J2 cf0 func84 call84 ntmps84 ?_;intro E H0 K hE hK hO;cbv;refine A4 hE h (c106 N aC.Ref aD.Ref) (.refl _) fun r1 h=>?_;cbv;refine A5 hE h (fun _ h=>?_) fun _ h=>?_
 ·cbv;cases h
 cbv;refine A5 hE h (fun _ h=>?_) fun _ h=>?_
 ·cbv;cases h
 cbv;refine A5 hE h (fun _ h=>?_) fun _ h=>?_
 ·cbv;cases h
 cbv;cases h;exact hK hO (.refl _)
def cf28 :Cf:=⟨[],[(4,10)],[],[],[],[]⟩
theorem c28 (N aC aD r) (h:FF N aC aD=some r):B6 prog 28 [(Gx aC),(Gx aD)] (vi r):=by
 unfold FF at h
 refine J2 cf28 func28 call28 ntmps28 ?_;intro E H0 K hE hK hO;cbv;obtain⟨s2,hx,h⟩:=bind_some h;refine E6 cf28 hE L4 (fun s1=>[(2,.v (.eref (IM aC) 0)),(3,.v (.eref (IM aD) 0)),fi 5 s1]) (fun s1 H1=>C3 Eq H0 [] H1) (fun x e l H1=>e= .exit 0∧l=[(2,.v (.eref (IM aC) 0)),(3,.v (.eref (IM aD) 0))]∧C3 Eq H0 [] H1) (by kernel_rfl) ?_ hx ?_ hO ?_
 ·intro s1 H o hO h;clear hx;cbv;refine E0 hE ?_;cbv;refine E0 hE ?_;cbv;refine A5 hE h (fun _ h=>?_) fun _ h=>?_
  ·cbv;refine C1 hE eAv5 h fun x3 h=>?_;cbv;refine C1 hE eAv5 h fun x4 h=>?_;cbv;refine A4 hE h (c84 N x3 x4) (.refl _) fun r5 h=>?_;cbv;refine A5 hE h (fun _ h=>?_) fun _ h=>?_
   ·cbv;cases h
   cbv;cases h;exact⟨_,rfl,.e rfl (.e2 .z),rfl,hO⟩
  cbv;cases h;exact⟨_,_,rfl,⟨rfl,rfl,hO⟩,.e2 .z,rfl⟩
 ·exact .e rfl (.e2 .z)
 clear hx;rintro e l H ⟨rfl,rfl,hO⟩;cbv;refine E0 hE ?_;cbv;refine E0 hE ?_;cbv;refine A5 hE h (fun _ h=>?_) fun _ h=>?_
 ·cbv;cases h
 cbv;refine E0 hE ?_;cbv;refine E0 hE ?_;cbv;refine A5 hE h (fun _ h=>?_) fun _ h=>?_
 ·cbv;cases h
 cbv;cases h;exact hK hO (.refl _)
theorem c85 (N aA aH r) (h:AB N aA aH=some r):B6 prog 85 [(C0 aA),(C8 aH)] (sr eAw3 r):=by
 unfold AB at h
 refine J2 cf0 func85 call85 ntmps85 ?_;intro E H0 K hE hK hO;cbv;refine A4 hE h (c62 N N aA aH) (.refl _) fun r1 h=>?_;cbv;refine E0 hE ?_;cbv;replace hO:=hO.tl0 (t:=.nil) rfl;obtain⟨s4,hx,h⟩:=bind_some h;refine P5 cf0 hE L4 (γ:=E4) (fun s2 g=>[(5,.v (.sl (lst eAw3 s2.1) g)),(10,.v (sr eAu8 r1)),fi 11 (Ar.len r1),fi 12 s2.2]) (fun s2 g H1=>T8 g∧C3 Eq H0 [.tl g] H1) (fun x e l H1=>∃u1:E4,T8 u1∧e= .exit 0∧l=[(5,.v (.sl (lst eAw3 x) u1))]∧C3 Eq H0 [.tl u1] H1) (by kernel_rfl) ?_ .nil hx ?_ ?_ ?_
 ·rintro s2 t3 H o ⟨ht3,hO⟩ h;clear hx;cbv;refine A5 hE h (fun _ h=>?_) fun _ h=>?_
  ·cbv;refine C1 hE eAv5 h fun x5 h=>?_;cbv;refine Y5 (f:=eAw3) hE Ab1 (by decide) hO 0 rfl ht3 (l:=s2.1) (m:=[x5.Ref]) (.refl _) (.lstc (.eq (eAw7 x5.Ref) (.refl _)) (.lst0)) h fun l7 t6 H hO ht6 h=>?_;cbv;cases h;exact⟨_,t6,rfl,.e4 .z,rfl,ht6,hO⟩
  cbv;cases h;exact⟨_,_,rfl,⟨t3,ht3,rfl,rfl,hO⟩,.e rfl .z,rfl⟩
 ·exact .v (.slt _ (.lst0)) (.e rfl (.e2 .z))
 ·exact⟨trivial,hO⟩
 clear hx;rintro e l H ⟨t8,ht8,rfl,rfl,hO⟩;cbv;cases h;exact hK hO (.ro _ _)
def cf86 :Cf:=⟨[17],[(3,13),(4,19),(6,16),(14,18)],[(89,14)],[],[],[]⟩
theorem c86 (N:Nat):∀n aG aA aH aK aV r,I6 N n aG aA aH aK aV=some r→B6 prog 86 [.eref (D1 aG) 0,(C0 aA),(C8 aH),sr eAu3 aK,vi aV] (.tup [sr eAu3 r.1,.bool r.2]):=by
 intro n
 induction n with
 |zero=>intro aG aA aH aK aV r h;cases h
 |succ n ih=>
 intro aG aA aH aK aV r h
 unfold I6 at h
 refine J2 cf86 func86 call86 ntmps86 ?_;intro E H0 K hE hK hO;cbv;refine A5 hE h (fun _ h=>?_) fun _ h=>?_
 ·cbv;refine C7 hE (g:=fun r1=>.tup [vi r1.1,.bool r1.2.1,vi r1.2.2]) h (c60 N aG.cP aH.Ref) (.refl _) fun r1 h=>?_;cbv;refine A5 hE h (fun _ h=>?_) fun _ h=>?_
  ·cbv;refine C7 hE (g:=fun r2=>.bool r2) h (c139 N aG aA aK r1.1) (.refl _) fun r2 h=>?_;cbv;cases h;exact hK hO (.tup (.cons (.lit _ (E5 ((eAv6 (⟨aA.Var,r1.1⟩:A3)).symm) (D5))) (.refl _)))
  cbv;cases h;exact hK hO (.tup (.cons (.lit _ (E5 ((eAv6 (⟨aA.Var,r1.1⟩:A3)).symm) (D5))) (.refl _)))
 cbv;refine A5 hE h (fun _ h=>?_) fun _ h=>?_
 ·cbv;refine C1 hE eAv2 h fun x3 h=>?_;cbv;refine C1 hE eAu7 h fun x4 h=>?_;cbv;refine C7 hE (g:=fun r5=>.tup [sr eAu3 r5.1,.bool r5.2]) h (ih aG x3 x4 aK aV) (.refl _) fun r5 h=>?_;cbv;cases h;exact hK hO (.refl _)
 cbv;refine E0 hE ?_;cbv;replace hO:=hO.tl0 (t:=.nil) rfl;obtain⟨s7,hx,h⟩:=bind_some h;refine E6 cf86 hE L4 (fun s6=>[(0,.v (.eref (D1 aG) 0)),(3,.v (sr eAu3 aK)),fi 4 s6.1,(6,.v (.eref (D6 aA) 0)),(15,.v (sr eAu3 s6.2.1)),(74,.v (sr eAu5 aH.Kids)),fi 75 (Ar.len aH.Kids),fi 76 s6.2.2]) (fun s6 H1=>C3 Eq H0 [.tl .nil] H1) (fun x e l H1=>match(generalizing:=false) x with| .inl y=>e= .exit 1∧l=[(0,.v (.eref (D1 aG) 0)),(3,.v (sr eAu3 aK)),(6,.v (.eref (D6 aA) 0)),(15,.v (sr eAu3 y))]∧C3 Eq H0 [.tl .nil] H1| .inr y=>e= .ret∧l=[(10,.v (.sl [] .nil)),(11,.b false)]∧C3 Eq H0 [.tl .nil] H1) (by kernel_rfl) ?_ hx ?_ hO ?_
 ·intro s6 H o hO h;clear hx;cbv;refine A5 hE h (fun _ h=>?_) fun _ h=>?_
  ·cbv;refine C1 hE eAu7 h fun x8 h=>?_;cbv;refine C9 hE hO fun b9 H hO=>?_;cbv;refine B0 hE hO 0 rfl rfl fun H hO=>?_;cbv;obtain⟨s10,hx,h⟩:=bind_some h;refine J4 cf86 hE L4 (fun e l H1=>e= .normal∧l=[(0,.v (.eref (D1 aG) 0)),(3,.v (sr eAu3 aK)),fi 4 s6.1,(6,.v (.eref (D6 aA) 0)),(15,.v (sr eAu3 s6.2.1)),fi 16 s6.2.2,(17,.v (.ref b9 0)),(18,.v (sr eAu3 s10)),(74,.v (sr eAu5 aH.Kids)),fi 75 (Ar.len aH.Kids),fi 76 s6.2.2]∧C3 Eq H0 [cb b9 (J1 x8),.tl .nil] H1) (by kernel_rfl) ?_ ?_
   ·clear h;have h:=hx;clear hx;cbv;refine A5 hE h (fun _ h=>?_) fun _ h=>?_
    ·cbv;refine A4 hE h (c140 N aK s6.2.1) (.refl _) fun r11 h=>?_;cbv;cases h;exact⟨_,⟨rfl,rfl,hO⟩,.e rfl (.e2 (.e4 (.e4 .z))),rfl⟩
    cbv;cases h;exact⟨_,⟨rfl,rfl,hO⟩,.e rfl (.e2 (.e4 (.e4 .z))),rfl⟩
   clear hx;rintro e l H ⟨rfl,rfl,hO⟩;cbv;refine E0 hE ?_;cbv;refine Mx hE h fun h=>?_;cbv;refine C1 hE eAv2 h fun x12 h=>?_;cbv;refine B1 hE hO 0 rfl ?_;cbv;refine C7 hE (g:=fun r13=>.tup [sr eAu3 r13.1,.bool r13.2]) h (ih aG x12 x8 s10 s6.1) (.refl _) fun r13 h=>?_;cbv;refine A5 hE h (fun _ h=>?_) fun _ h=>?_
   ·cbv;cases h;exact⟨_,_,rfl,⟨rfl,rfl,hO.tail⟩,.e rfl (.b rfl (.z)),rfl⟩
   cbv;refine A4 hE h (c141 N s6.2.1 r13.1) (.refl _) fun r14 h=>?_;cbv;refine A5 hE h (fun _ h=>?_) fun _ h=>?_
   ·cbv;cases h;exact⟨_,_,rfl,⟨rfl,rfl,hO.tail⟩,.e rfl (.b rfl (.z)),rfl⟩
   cbv;refine A5 hE h (fun _ h=>?_) fun _ h=>?_
   ·cbv;refine A4 hE h (c142 N r13.1) (.refl _) fun r15 h=>?_;cbv;refine A4 hE h (c140 N s6.2.1 r13.1) (.refl _) fun r16 h=>?_;cbv;cases h;exact⟨_,rfl,.e4 (.e4 .z),rfl,hO.tail⟩
   cbv;refine A4 hE h (c140 N s6.2.1 r13.1) (.refl _) fun r17 h=>?_;cbv;cases h;exact⟨_,rfl,.e4 (.e4 .z),rfl,hO.tail⟩
  cbv;cases h;exact⟨_,_,rfl,⟨rfl,rfl,hO⟩,.e4 .z,rfl⟩
 ·exact .e4 (.v (.lit _ (D5)) (.e rfl (.e rfl (.e rfl (.z)))))
 clear hx
 rcases s7 with y18|y20
 ·rintro e l H ⟨rfl,rfl,hO⟩;cbv;refine A5 hE h (fun _ h=>?_) fun _ h=>?_
  ·cbv;cases h;exact hK hO (.refl _)
  cbv;refine A4 hE h (c143 N aG aA aK y18) (.refl _) fun r19 h=>?_;cbv;cases h;exact hK hO (.refl _)
 rintro e l H ⟨rfl,rfl,hO⟩;cbv;cases h;exact hK hO (.tup (.cons (.lit _ (D5)) (.refl _)))
theorem c31 (N aA aF aH r) (h:K4 N aA aF aH=some r):B6 prog 31 [(C0 aA),sr eAu4 aF,(C8 aH)] (vi r):=by
 unfold K4 at h
 refine J2 cf0 func31 call31 ntmps31 ?_;intro E H0 K hE hK hO;cbv;refine A4 hE h (c26 N aA aH) (.refl _) fun r1 h=>?_;cbv;refine A5 hE h (fun _ h=>?_) fun _ h=>?_
 ·cbv;cases h;exact hK hO (.refl _)
 cbv;refine A4 hE h (c56 N aF) (.refl _) fun r2 h=>?_;cbv;refine A5 hE h (fun _ h=>?_) fun _ h=>?_
 ·cbv;cases h;exact hK hO (.refl _)
 cbv;refine A4 hE h (c85 N aA aH) (.refl _) fun r3 h=>?_;cbv;refine E0 hE ?_;cbv;obtain⟨s5,hx,h⟩:=bind_some h;refine E6 cf0 hE L4 (fun s4=>[(1,.v (sr eAu4 aF)),(3,.v (.eref (D6 aA) 0)),(5,.v (.eref (J1 aH) 0)),(30,.v (sr eAw3 r3)),fi 31 (Ar.len r3),fi 32 s4]) (fun s4 H1=>C3 Eq H0 [] H1) (fun x e l H1=>match(generalizing:=false) x with| .inl y=>e= .exit 0∧l=[(1,.v (sr eAu4 aF)),(3,.v (.eref (D6 aA) 0)),(5,.v (.eref (J1 aH) 0))]∧C3 Eq H0 [] H1| .inr y=>e= .ret∧l=[fi 6 6]∧C3 Eq H0 [] H1) (by kernel_rfl) ?_ hx ?_ hO ?_
 ·intro s4 H o hO h;clear hx;cbv;refine A5 hE h (fun _ h=>?_) fun _ h=>?_
  ·cbv;refine C1 hE eAw7 h fun x6 h=>?_;cbv;refine A4 hE h (c60 N aF x6) (.refl _) fun r7 h=>?_;cbv;refine A5 hE h (fun _ h=>?_) fun _ h=>?_
   ·cbv;cases h;exact⟨_,_,rfl,⟨rfl,rfl,hO⟩,.e rfl .z,rfl⟩
   cbv;cases h;exact⟨_,rfl,.e2 (.e4 .z),rfl,hO⟩
  cbv;cases h;exact⟨_,_,rfl,⟨rfl,rfl,hO⟩,.e rfl (.e2 .z),rfl⟩
 ·exact .e2 (.e4 .z)
 clear hx
 rcases s5 with y8|y10
 ·rintro e l H ⟨rfl,rfl,hO⟩;cbv;refine A4 hE h (c86 N N (⟨aF,0⟩:D4) aA aH ([]) 0) (.cons (.refl _) (.cons (.refl _) (.cons (.refl _) (.cons (.lit _ (D5)) (.refl _))))) fun r9 h=>?_;cbv;refine A5 hE h (fun _ h=>?_) fun _ h=>?_
  ·cbv;cases h;exact hK hO (.refl _)
  cbv;cases h;exact hK hO (.refl _)
 rintro e l H ⟨rfl,rfl,hO⟩;cbv;cases h;exact hK hO (.refl _)
theorem c145 (N aC aD r)(h:CE N aC aD=some r):B6 prog 145 [vi aC,vi aD] (vi r):=by
 unfold CE at h
 refine J2 cf0 func145 call145 ntmps145 ?_;intro E H0 K hE hK hO;cbv;refine A5 hE h (fun _ h=>?_) fun _ h=>?_
 ·cbv;cases h;exact hK hO (.refl _)
 cbv;refine A5 hE h (fun _ h=>?_) fun _ h=>?_
 ·cbv;cases h;exact hK hO (.refl _)
 cbv;cases h;exact hK hO (.refl _)
theorem c90 (N aC aD r)(h:CG N aC aD=some r):B6 prog 90 [(Bb aC),(Bb aD)] (vi r):=by
 unfold CG at h
 refine J2 cf0 func90 call90 ntmps90 ?_;intro E H0 K hE hK hO;cbv;refine A5 hE h (fun _ h=>?_) fun _ h=>?_
 ·cbv;refine A4 hE h (c145 N aC.Time aD.Time) (.refl _) fun r1 h=>?_;cbv;cases h;exact hK hO (.refl _)
 cbv;refine A5 hE h (fun _ h=>?_) fun _ h=>?_
 ·cbv;refine A4 hE h (c145 N aC.Source aD.Source) (.refl _) fun r2 h=>?_;cbv;cases h;exact hK hO (.refl _)
 cbv;refine A4 hE h (c145 N aC.Seq aD.Seq) (.refl _) fun r3 h=>?_;cbv;cases h;exact hK hO (.refl _)
def cf34 :Cf:=⟨[],[(11,10)],[],[],[],[]⟩
theorem c34 (N:Nat):∀n aC aD r,Du N n aC aD=some r→B6 prog 34 [(C8 aC),(C8 aD)] (vi r):=by
 intro n
 induction n with
 |zero=>intro aC aD r h;cases h
 |succ n ih=>
 intro aC aD r h
 unfold Du at h
 refine J2 cf34 func34 call34 ntmps34 ?_;intro E H0 K hE hK hO;cbv;refine A4 hE h (c90 N aC.Ref aD.Ref) (.refl _) fun r1 h=>?_;cbv;refine A5 hE h (fun _ h=>?_) fun _ h=>?_
 ·cbv;cases h
 cbv;refine A5 hE h (fun _ h=>?_) fun _ h=>?_
 ·cbv;cases h
 cbv;obtain⟨s3,hx,h⟩:=bind_some h;refine E6 cf34 hE L4 (fun s2=>[(2,.v (.eref (J1 aC) 0)),(3,.v (.eref (J1 aD) 0)),fi 6 s2]) (fun s2 H1=>C3 Eq H0 [] H1) (fun x e l H1=>e= .exit 0∧l=[(2,.v (.eref (J1 aC) 0)),(3,.v (.eref (J1 aD) 0))]∧C3 Eq H0 [] H1) (by kernel_rfl) ?_ hx ?_ hO ?_
 ·intro s2 H o hO h;clear hx;cbv;refine E0 hE ?_;cbv;refine E0 hE ?_;cbv;refine A5 hE h (fun _ h=>?_) fun _ h=>?_
  ·cbv;refine C1 hE eAu7 h fun x4 h=>?_;cbv;refine C1 hE eAu7 h fun x5 h=>?_;cbv;refine A4 hE h (ih x4 x5) (.refl _) fun r6 h=>?_;cbv;refine A5 hE h (fun _ h=>?_) fun _ h=>?_
   ·cbv;cases h
   cbv;cases h;exact⟨_,rfl,.e rfl (.e2 .z),rfl,hO⟩
  cbv;cases h;exact⟨_,_,rfl,⟨rfl,rfl,hO⟩,.e2 .z,rfl⟩
 ·exact .e rfl (.e2 .z)
 clear hx;rintro e l H ⟨rfl,rfl,hO⟩;cbv;refine E0 hE ?_;cbv;refine E0 hE ?_;cbv;refine A5 hE h (fun _ h=>?_) fun _ h=>?_
 ·cbv;cases h
 cbv;refine E0 hE ?_;cbv;refine E0 hE ?_;cbv;refine A5 hE h (fun _ h=>?_) fun _ h=>?_
 ·cbv;cases h
 cbv;cases h;exact hK hO (.refl _)
def cf40 :Cf:=⟨[],[(6,8)],[],[],[],[]⟩
theorem c40 (N aC aD r) (h:Jy N aC aD=some r):B6 prog 40 [sr eAu5 aC,sr eAu5 aD] (.bool r):=by
 unfold Jy at h
 refine J2 cf40 func40 call40 ntmps40 ?_;intro E H0 K hE hK hO;cbv;refine E0 hE ?_;cbv;refine E0 hE ?_;cbv;refine A5 hE h (fun _ h=>?_) fun _ h=>?_
 ·cbv;cases h
 cbv;obtain⟨s2,hx,h⟩:=bind_some h;refine E6 cf40 hE L4 (fun s1=>[(0,.v (sr eAu5 aC)),(1,.v (sr eAu5 aD)),fi 5 s1]) (fun s1 H1=>C3 Eq H0 [] H1) (fun x e l H1=>e= .exit 0∧l=[]∧C3 Eq H0 [] H1) (by kernel_rfl) ?_ hx ?_ hO ?_
 ·intro s1 H o hO h;clear hx;cbv;refine E0 hE ?_;cbv;refine A5 hE h (fun _ h=>?_) fun _ h=>?_
  ·cbv;refine C1 hE eAu7 h fun x3 h=>?_;cbv;refine C1 hE eAu7 h fun x4 h=>?_;cbv;refine A4 hE h (c34 N N x3 x4) (.refl _) fun r5 h=>?_;cbv;refine A5 hE h (fun _ h=>?_) fun _ h=>?_
   ·cbv;cases h
   cbv;cases h;exact⟨_,rfl,.e rfl (.e2 .z),rfl,hO⟩
  cbv;cases h;exact⟨_,_,rfl,⟨rfl,rfl,hO⟩,.z,rfl⟩
 ·exact .e rfl (.e2 .z)
 clear hx;rintro e l H ⟨rfl,rfl,hO⟩;cbv;cases h;exact hK hO (.refl _)
def cf76 :Cf:=⟨[4],[],[],[],[],[]⟩
theorem c76 (N cD cE r)(h:EL N cD cE=some r):B6 prog 76 [vi cD,vi cE] ((C8 r)):=by
 unfold EL at h
 refine J2 cf76 func76 call76 ntmps76 ?_;intro E H0 K hE hK hO;cbv;refine C9 hE hO fun b1 H hO=>?_;cbv;refine B0 hE hO 0 rfl rfl fun H hO=>?_;cbv;refine B1 hE hO 0 rfl ?_;cbv;cases h;exact hK hO (.agg (.cons (.refl _) (.cons (.refl _) (.cons (.refl _) (.cons (.refl _) (.cons (.lit _ (D5)) (.refl _)))))))
def cf135 :Cf:=⟨[0],[],[],[],[],[]⟩
theorem c135 (N r)(h:IG N=some r):B6 prog 135 [] ((S2 r)):=by
 unfold IG at h
 refine J2 cf135 func135 call135 ntmps135 ?_;intro E H0 K hE hK hO;cbv;refine C9 hE hO fun b1 H hO=>?_;cbv;refine B0 hE hO 0 rfl rfl fun H hO=>?_;cbv;refine B1 hE hO 0 rfl ?_;cbv;cases h;exact hK hO (.agg (.cons (.refl _) (.cons (.lit _ (D5)) (.refl _))))
def cf77 :Cf:=⟨[2],[],[],[],[],[]⟩
theorem c77 (N aM r)(h:O9 N aM=some r):B6 prog 77 [vi aM] ((C0 r)):=by
 unfold O9 at h
 refine J2 cf77 func77 call77 ntmps77 ?_;intro E H0 K hE hK hO;cbv;refine C9 hE hO fun b1 H hO=>?_;cbv;refine A4 hE h (c135 N) (.refl _) fun r2 h=>?_;cbv;refine A4 hE h (c135 N) (.refl _) fun r3 h=>?_;cbv;refine B0 hE hO 0 rfl rfl fun H hO=>?_;cbv;refine B1 hE hO 0 rfl ?_;cbv;cases h;exact hK hO (.agg (.cons (.refl _) (.cons (.sl _ (.lstc (.eq (eAv2 (⟨0,[],0,0,0,0,r2⟩:A0)) (.agg (.cons (.refl _) (.cons (.lit _ (D5)) (.refl _))))) (.lstc (.eq (eAv2 (⟨4,[(⟨0,[],aM,1,0,0,r3⟩:A0)],0,0,0,0,(⟨0,[],0,0,0,(⟨0,0,⟨#[]⟩⟩:A6)⟩:B4)⟩:A0)) (.agg (.cons (.refl _) (.cons (.sl _ (.lstc (.eq (eAv2 (⟨0,[],aM,1,0,0,r3⟩:A0)) (.agg (.cons (.refl _) (.cons (.lit _ (D5)) (.refl _))))) (.lst0))) (.cons (.refl _) (.cons (.refl _) (.cons (.refl _) (.cons (.refl _) (.cons (.refl _) (.cons (.lit _ (D5)) (.refl _))))))))))) (.lst0)))) (.cons (.refl _) (.cons (.refl _) (.cons (.refl _) (.cons (.refl _) (.cons (.refl _) (.cons (.lit _ (D5)) (.refl _))))))))))
def cf78 :Cf:=⟨[6000011],[(3000003,0),(3000003,1),(3000003,2),(3000003,4),(3000003,5),(3000003,7)],[],[2000003],[],[]⟩
theorem c78 (N aS bN r)(h:X5 N aS bN=some r):B6 prog 78 [vi aS,vi bN] (sr eAu4 r):=by
 unfold X5 at h
 refine CN (T:=TT) cf78 L4 func78 (by rfl) (by kernel_rfl) call78 ntmps78 (by rfl) (by rfl) ?_;intro E H0 K hE hK hF;have hO:C3 Eq H0 [] H0:=.start H5 rfl;cbv;refine YT hE (f:=eAu4) (l:=([(⟨0,0,0,1,[]⟩:A9),(⟨0,1,1,aS,[]⟩:A9),(⟨0,2,1,bN,[]⟩:A9)]:List A9)) (.lstc (.eq (eAv0 (⟨0,0,0,1,[]⟩:A9)) (.agg (.cons (.refl _) (.cons (.refl _) (.cons (.refl _) (.cons (.refl _) (.cons (.lit _ (D5)) (.refl _)))))))) (.lstc (.eq (eAv0 (⟨0,1,1,aS,[]⟩:A9)) (.agg (.cons (.refl _) (.cons (.refl _) (.cons (.refl _) (.cons (.refl _) (.cons (.lit _ (D5)) (.refl _)))))))) (.lstc (.eq (eAv0 (⟨0,2,1,bN,[]⟩:A9)) (.agg (.cons (.refl _) (.cons (.refl _) (.cons (.refl _) (.cons (.refl _) (.cons (.lit _ (D5)) (.refl _)))))))) (.lst0)))) hO fun q1 H hq1 hO=>?_;cbv;refine A5 hE h (fun _ h=>?_) fun _ h=>?_
 ·cbv;cases h
 cbv;cases h;exact hF q1 _ _ 0 _ _ hO rfl (Dw hE hq1) (.refl _)
def cf79 :Cf:=⟨[2],[],[],[],[],[]⟩
theorem c79 (N aI r)(h:R3 N aI=some r):B6 prog 79 [sr eAu5 aI] ((C8 r)):=by
 unfold R3 at h
 refine J2 cf79 func79 call79 ntmps79 ?_;intro E H0 K hE hK hO;cbv;refine C9 hE hO fun b1 H hO=>?_;cbv;refine A4 hE h (c76 N 1 0) (.refl _) fun r2 h=>?_;cbv;refine B0 hE hO 0 rfl rfl fun H hO=>?_;cbv;refine B1 hE hO 0 rfl ?_;cbv;cases h;exact hK hO (.agg (.cons (.refl _) (.cons (.refl _) (.cons (.refl _) (.cons (.refl _) (.cons (.lit _ (E5 ((eAu7 r2).symm) (E5 ((eAu7 (⟨(⟨0,0,0⟩:O7),0,aI⟩:A1)).symm) (D5)))) (.refl _)))))))
def cf24 :Cf:=⟨[1,2],[(3,21),(5,11),(6,9),(7,11),(8,65)],[],[],[],[]⟩
theorem c24 (N r) (h:Ag N=some r):B6 prog 24 [] (.bool r):=by
 unfold Ag at h
 refine J2 cf24 func24 call24 ntmps24 ?_;intro E H0 K hE hK hO;cbv;refine A4 hE h (c76 N 2 1) (.refl _) fun r1 h=>?_;cbv;refine A4 hE h (c76 N 3 2) (.refl _) fun r2 h=>?_;cbv;refine C9 hE hO fun b3 H hO=>?_;cbv;refine C9 hE hO fun b4 H hO=>?_;cbv;refine B0 hE hO 1 rfl rfl fun H hO=>?_;cbv;refine B0 hE hO 0 rfl rfl fun H hO=>?_;cbv;refine A4 hE h (c77 N 1) (.refl _) fun r5 h=>?_;cbv;refine A4 hE h (c78 N 2 3) (.refl _) fun r6 h=>?_;cbv;refine A4 hE h (c15 N r5 r6) (.refl _) fun r7 h=>?_;cbv;refine B1 hE hO 1 rfl ?_;cbv;refine A5 hE h (fun _ h=>?_) fun _ h=>?_
 ·cbv;cases h;exact hK hO (.refl _)
 cbv;refine C7 hE (g:=fun r8=>(C8 r8)) h (c79 N ([r1])) (.cons (.lit _ (E5 ((eAu7 r1).symm) (D5))) (.refl _)) fun r8 h=>?_;cbv;refine B1 hE hO 1 rfl ?_;cbv;refine B1 hE hO 0 rfl ?_;cbv;refine C7 hE (g:=fun r9=>(C8 r9)) h (c79 N ([r1,r2])) (.cons (.lit _ (E5 ((eAu7 r1).symm) (E5 ((eAu7 r2).symm) (D5)))) (.refl _)) fun r9 h=>?_;cbv;refine B1 hE hO 0 rfl ?_;cbv;refine C7 hE (g:=fun r10=>(C8 r10)) h (c79 N ([r2])) (.cons (.lit _ (E5 ((eAu7 r2).symm) (D5))) (.refl _)) fun r10 h=>?_;cbv;refine C7 hE (g:=fun r11=>.bool r11) h (c40 N r7.1 ([r8,r9,r10])) (.cons (.refl _) (.cons (.lit _ (E5 ((eAu7 r8).symm) (E5 ((eAu7 r9).symm) (E5 ((eAu7 r10).symm) (D5))))) (.refl _))) fun r11 h=>?_;cbv;refine B1 hE hO 1 rfl ?_;cbv;refine B1 hE hO 0 rfl ?_;cbv;refine A5 hE h (fun _ h=>?_) fun _ h=>?_
 ·cbv;cases h;exact hK hO (.refl _)
 cbv;refine A4 hE h (c79 N ([r1,r2])) (.cons (.lit _ (E5 ((eAu7 r1).symm) (E5 ((eAu7 r2).symm) (D5)))) (.refl _)) fun r12 h=>?_;cbv;refine A4 hE h (c29 N N r12) (.refl _) fun r13 h=>?_;cbv;refine A5 hE h (fun _ h=>?_) fun _ h=>?_
 ·cbv;cases h;exact hK hO (.refl _)
 cbv;refine C7 hE (g:=fun r14=>(C0 r14)) h (c77 N 1) (.refl _) fun r14 h=>?_;cbv;refine B1 hE hO 1 rfl ?_;cbv;refine B1 hE hO 0 rfl ?_;cbv;refine C7 hE (g:=fun r15=>(C8 r15)) h (c79 N ([r1,r2])) (.cons (.lit _ (E5 ((eAu7 r1).symm) (E5 ((eAu7 r2).symm) (D5)))) (.refl _)) fun r15 h=>?_;cbv;refine C7 hE (g:=fun r16=>.tup [(Gx r16.1),vi r16.2]) h (c17 N r14 r15) (.refl _) fun r16 h=>?_;cbv;refine C7 hE (g:=fun r17=>(C0 r17)) h (c77 N 1) (.refl _) fun r17 h=>?_;cbv;refine C7 hE (g:=fun r18=>sr eAu4 r18) h (c78 N 2 3) (.refl _) fun r18 h=>?_;cbv;refine C7 hE (g:=fun r19=>.tup [(C8 r19.1),vi r19.2]) h (c16 N r17 r18 r16.1) (.refl _) fun r19 h=>?_;cbv;refine C7 hE (g:=fun r20=>(C0 r20)) h (c77 N 1) (.refl _) fun r20 h=>?_;cbv;refine B1 hE hO 0 rfl ?_;cbv;refine B1 hE hO 1 rfl ?_;cbv;refine C7 hE (g:=fun r21=>(C8 r21)) h (c79 N ([r2,r1])) (.cons (.lit _ (E5 ((eAu7 r2).symm) (E5 ((eAu7 r1).symm) (D5)))) (.refl _)) fun r21 h=>?_;cbv;refine C7 hE (g:=fun r22=>.tup [(Gx r22.1),vi r22.2]) h (c17 N r20 r21) (.refl _) fun r22 h=>?_;cbv;refine B1 hE hO 1 rfl ?_;cbv;refine B1 hE hO 0 rfl ?_;cbv;refine A5 hE h (fun _ h=>?_) fun _ h=>?_
 ·cbv;refine C7 hE (g:=fun r23=>(C8 r23)) h (c79 N ([r1,r2])) (.cons (.lit _ (E5 ((eAu7 r1).symm) (E5 ((eAu7 r2).symm) (D5)))) (.refl _)) fun r23 h=>?_;cbv;refine C7 hE (g:=fun r24=>vi r24) h (c21 N N r19.1 r23) (.refl _) fun r24 h=>?_;cbv;refine E0 hE ?_;cbv;refine A5 hE h (fun _ h=>?_) fun _ h=>?_
  ·cbv;refine C7 hE (g:=fun r25=>(C0 r25)) h (c77 N 1) (.refl _) fun r25 h=>?_;cbv;refine C7 hE (g:=fun r26=>sr eAu4 r26) h (c78 N 2 3) (.refl _) fun r26 h=>?_;cbv;refine B1 hE hO 1 rfl ?_;cbv;refine B1 hE hO 0 rfl ?_;cbv;refine C7 hE (g:=fun r27=>(C8 r27)) h (c79 N ([r1,r2])) (.cons (.lit _ (E5 ((eAu7 r1).symm) (E5 ((eAu7 r2).symm) (D5)))) (.refl _)) fun r27 h=>?_;cbv;refine C7 hE (g:=fun r28=>vi r28) h (c31 N r25 r26 r27) (.refl _) fun r28 h=>?_;cbv;refine A5 hE h (fun _ h=>?_) fun _ h=>?_
   ·cbv;refine C7 hE (g:=fun r29=>(C0 r29)) h (c77 N 1) (.refl _) fun r29 h=>?_;cbv;refine C7 hE (g:=fun r30=>sr eAu4 r30) h (c78 N 2 3) (.refl _) fun r30 h=>?_;cbv;refine Cd hE (f:=eAu4) Le h fun l31 t32 h=>?_;cbv;refine B1 hE hO 1 rfl ?_;cbv;refine B1 hE hO 0 rfl ?_;cbv;refine C7 hE (g:=fun r33=>(C8 r33)) h (c79 N ([r1,r2])) (.cons (.lit _ (E5 ((eAu7 r1).symm) (E5 ((eAu7 r2).symm) (D5)))) (.refl _)) fun r33 h=>?_;cbv;refine C7 hE (g:=fun r34=>vi r34) h (c31 N r29 l31 r33) (.cons (.refl _) (.cons (.ro _ _) (.refl _))) fun r34 h=>?_;cbv;refine A5 hE h (fun _ h=>?_) fun _ h=>?_
    ·cbv;refine C7 hE (g:=fun r35=>(C0 r35)) h (c77 N 0) (.refl _) fun r35 h=>?_;cbv;refine C7 hE (g:=fun r36=>sr eAu4 r36) h (c78 N 2 3) (.refl _) fun r36 h=>?_;cbv;refine B1 hE hO 1 rfl ?_;cbv;refine B1 hE hO 0 rfl ?_;cbv;refine C7 hE (g:=fun r37=>(C8 r37)) h (c79 N ([r1,r2])) (.cons (.lit _ (E5 ((eAu7 r1).symm) (E5 ((eAu7 r2).symm) (D5)))) (.refl _)) fun r37 h=>?_;cbv;refine C7 hE (g:=fun r38=>vi r38) h (c31 N r35 r36 r37) (.refl _) fun r38 h=>?_;cbv;refine A5 hE h (fun _ h=>?_) fun _ h=>?_
     ·cbv;refine C7 hE (g:=fun r39=>(C0 r39)) h (c77 N 1) (.refl _) fun r39 h=>?_;cbv;refine C7 hE (g:=fun r40=>sr eAu4 r40) h (c78 N 2 3) (.refl _) fun r40 h=>?_;cbv;refine B1 hE hO 0 rfl ?_;cbv;refine B1 hE hO 1 rfl ?_;cbv;refine C7 hE (g:=fun r41=>(C8 r41)) h (c79 N ([r2,r1])) (.cons (.lit _ (E5 ((eAu7 r2).symm) (E5 ((eAu7 r1).symm) (D5)))) (.refl _)) fun r41 h=>?_;cbv;refine C7 hE (g:=fun r42=>vi r42) h (c31 N r39 r40 r41) (.refl _) fun r42 h=>?_;cbv;refine A5 hE h (fun _ h=>?_) fun _ h=>?_
      ·cbv;refine A4 hE h (c28 N r16.1 r22.1) (.refl _) fun r43 h=>?_;cbv;cases h;exact hK hO (.refl _)
      cbv;cases h;exact hK hO (.refl _)
     cbv;cases h;exact hK hO (.refl _)
    cbv;cases h;exact hK hO (.refl _)
   cbv;cases h;exact hK hO (.refl _)
  cbv;cases h;exact hK hO (.refl _)
 cbv;cases h;exact hK hO (.refl _)
def cf136 :Cf:=⟨[6],[],[],[],[],[]⟩
theorem c136 (N aA aH cF r)(h:Cr N aA aH cF=some r):B6 prog 136 [(C0 aA),(C8 aH),vi cF] ((C0 r)):=by
 unfold Cr at h
 refine J2 cf136 func136 call136 ntmps136 ?_;intro E H0 K hE hK hO;cbv;refine C9 hE hO fun b1 H hO=>?_;cbv;refine A5 hE h (fun _ h=>?_) fun _ h=>?_
 ·cbv;refine C1 hE eAv2 h fun x2 h=>?_;cbv;refine B0 hE hO 0 rfl rfl fun H hO=>?_;cbv;refine B1 hE hO 0 rfl ?_;cbv;cases h;exact hK hO (.refl _)
 cbv;refine A5 hE h (fun _ h=>?_) fun _ h=>?_
 ·cbv;refine C1 hE eAv2 h fun x3 h=>?_;cbv;refine B0 hE hO 0 rfl rfl fun H hO=>?_;cbv;refine B1 hE hO 0 rfl ?_;cbv;cases h;exact hK hO (.refl _)
 cbv;refine C1 hE eAv2 h fun x4 h=>?_;cbv;refine B0 hE hO 0 rfl rfl fun H hO=>?_;cbv;refine B1 hE hO 0 rfl ?_;cbv;cases h;exact hK hO (.refl _)
def cf138 :Cf:=⟨[],[(4,7)],[],[],[],[]⟩
theorem c138 (N aA r)(h:Bg N aA=some r):B6 prog 138 [(C0 aA)] (.tup [vi r.1,vi r.2]):=by
 unfold Bg at h
 refine J2 cf138 func138 call138 ntmps138 ?_;intro E H0 K hE hK hO;cbv;refine A5 hE h (fun _ h=>?_) fun _ h=>?_
 ·cbv;cases h;exact hK hO (.refl _)
 cbv;refine A5 hE h (fun _ h=>?_) fun _ h=>?_
 ·cbv;refine E0 hE ?_;cbv;refine E0 hE ?_;cbv;cases h;exact hK hO (.refl _)
 cbv;refine A5 hE h (fun _ h=>?_) fun _ h=>?_
 ·cbv;cases h;exact hK hO (.refl _)
 cbv;cases h;exact hK hO (.refl _)
def cf83 :Cf:=⟨[],[(11,9)],[],[],[],[]⟩
theorem c83 (N:Nat):∀n aA aH r,Cp N n aA aH=some r→B6 prog 83 [(C0 aA),(C8 aH)] (vi r):=by
 intro n
 induction n with
 |zero=>intro aA aH r h;cases h
 |succ n ih=>
 intro aA aH r h
 unfold Cp at h
 refine J2 cf83 func83 call83 ntmps83 ?_;intro E H0 K hE hK hO;cbv;refine A5 hE h (fun _ h=>?_) fun _ h=>?_
 ·cbv;cases h;exact hK hO (.refl _)
 cbv;refine E0 hE ?_;cbv;refine A5 hE h (fun _ h=>?_) fun _ h=>?_
 ·cbv;cases h;exact hK hO (.refl _)
 cbv;refine A4 hE h (c138 N aA) (.refl _) fun r1 h=>?_;cbv;refine E0 hE ?_;cbv;refine E0 hE ?_;cbv;refine A5 hE h (fun _ h=>?_) fun _ h=>?_
 ·cbv;cases h;exact hK hO (.refl _)
 cbv;obtain⟨s3,hx,h⟩:=bind_some h;refine E6 cf83 hE L4 (fun s2=>[(2,.v (.eref (D6 aA) 0)),(3,.v (.eref (J1 aH) 0)),fi 7 s2]) (fun s2 H1=>C3 Eq H0 [] H1) (fun x e l H1=>match(generalizing:=false) x with| .inl y=>e= .exit 0∧l=[]∧C3 Eq H0 [] H1| .inr y=>e= .ret∧l=[fi 4 y]∧C3 Eq H0 [] H1) (by kernel_rfl) ?_ hx ?_ hO ?_
 ·intro s2 H o hO h;clear hx;cbv;refine E0 hE ?_;cbv;refine A5 hE h (fun _ h=>?_) fun _ h=>?_
  ·cbv;refine C7 hE (g:=fun r4=>(C0 r4)) h (c136 N aA aH s2) (.refl _) fun r4 h=>?_;cbv;refine C1 hE eAu7 h fun x5 h=>?_;cbv;refine A4 hE h (ih r4 x5) (.refl _) fun r6 h=>?_;cbv;refine A5 hE h (fun _ h=>?_) fun _ h=>?_
   ·cbv;cases h;exact⟨_,_,rfl,⟨rfl,rfl,hO⟩,.e rfl .z,rfl⟩
   cbv;cases h;exact⟨_,rfl,.e rfl (.e2 .z),rfl,hO⟩
  cbv;cases h;exact⟨_,_,rfl,⟨rfl,rfl,hO⟩,.z,rfl⟩
 ·exact .e rfl (.e2 .z)
 clear hx
 rcases s3 with y7|y8
 ·rintro e l H ⟨rfl,rfl,hO⟩;cbv;cases h;exact hK hO (.refl _)
 rintro e l H ⟨rfl,rfl,hO⟩;cbv;cases h;exact hK hO (.refl _)
theorem c27 (N aA aH r)(h:DD N aA aH=some r):B6 prog 27 [(C0 aA),(C8 aH)] (vi r):=by
 unfold DD at h
 refine J2 cf0 func27 call27 ntmps27 ?_;intro E H0 K hE hK hO;cbv;refine A4 hE h (c41 N aA) (.refl _) fun r1 h=>?_;cbv;refine A5 hE h (fun _ h=>?_) fun _ h=>?_
 ·cbv;cases h;exact hK hO (.refl _)
 cbv;refine A4 hE h (c30 N N aH) (.refl _) fun r2 h=>?_;cbv;refine A5 hE h (fun _ h=>?_) fun _ h=>?_
 ·cbv;cases h;exact hK hO (.refl _)
 cbv;refine A4 hE h (c83 N N aA aH) (.refl _) fun r3 h=>?_;cbv;cases h;exact hK hO (.refl _)
def cf81 :Cf:=⟨[],[(7,11)],[],[],[],[]⟩
theorem c81 (N:Nat):∀n aA aH r,Z2 N n aA aH=some r→B6 prog 81 [(C0 aA),(C8 aH)] (sr eAu8 r):=by
 intro n
 induction n with
 |zero=>intro aA aH r h;cases h
 |succ n ih=>
 intro aA aH r h
 unfold Z2 at h
 refine J2 cf81 func81 call81 ntmps81 ?_;intro E H0 K hE hK hO;cbv;refine A5 hE h (fun _ h=>?_) fun _ h=>?_
 ·cbv;cases h;exact hK hO (.lit _ (E5 ((eAv5 (⟨aA.Var,aH.Ref⟩:C6)).symm) (D5)))
 cbv;replace hO:=hO.tl0 (t:=.nil) rfl;obtain⟨s3,hx,h⟩:=bind_some h;refine P5 cf81 hE L4 (γ:=E4) (fun s1 g=>[(2,.v (.eref (D6 aA) 0)),(3,.v (.eref (J1 aH) 0)),(5,.v (.sl (lst eAu8 s1.1) g)),fi 6 s1.2]) (fun s1 g H1=>T8 g∧C3 Eq H0 [.tl g] H1) (fun x e l H1=>∃u1:E4,T8 u1∧e= .exit 0∧l=[(5,.v (.sl (lst eAu8 x) u1))]∧C3 Eq H0 [.tl u1] H1) (by kernel_rfl) ?_ .nil hx ?_ ?_ ?_
 ·rintro s1 t2 H o ⟨ht2,hO⟩ h;clear hx;cbv;refine E0 hE ?_;cbv;refine A5 hE h (fun _ h=>?_) fun _ h=>?_
  ·cbv;refine C7 hE (g:=fun r4=>(C0 r4)) h (c136 N aA aH s1.2) (.refl _) fun r4 h=>?_;cbv;refine C1 hE eAu7 h fun x5 h=>?_;cbv;refine C7 hE (g:=fun r6=>sr eAu8 r6) h (ih r4 x5) (.refl _) fun r6 h=>?_;cbv;refine Y5 (f:=eAu8) hE Cn (by decide) hO 0 rfl ht2 (l:=s1.1) (m:=r6) (.refl _) (.refl _) h fun l8 t7 H hO ht7 h=>?_;cbv;cases h;exact⟨_,t7,rfl,.e4 .z,rfl,ht7,hO⟩
  cbv;cases h;exact⟨_,_,rfl,⟨t2,ht2,rfl,rfl,hO⟩,.e rfl .z,rfl⟩
 ·exact .e2 (.v (.slt _ (.lst0)) (.e rfl (.z)))
 ·exact⟨trivial,hO⟩
 clear hx;rintro e l H ⟨t9,ht9,rfl,rfl,hO⟩;cbv;cases h;exact hK hO (.ro _ _)
def cf47 :Cf:=⟨[2],[],[],[],[],[]⟩
theorem c47 (N aB r)(h:FY N aB=some r):B6 prog 47 [(Q4 aB)] ((Bb r)):=by
 unfold FY at h
 refine J2 cf47 func47 call47 ntmps47 ?_;intro E H0 K hE hK hO;cbv;refine C9 hE hO fun b1 H hO=>?_;cbv;refine B0 hE hO 0 rfl rfl fun H hO=>?_;cbv;refine B1 hE hO 0 rfl ?_;cbv;cases h;exact hK hO (.refl _)
def cf87 :Cf:=⟨[],[(4,6)],[],[],[],[]⟩
theorem c87 (N aI bE r) (h:Cq N aI bE=some r):B6 prog 87 [sr eAu4 aI,(Bb bE)] (vi r):=by
 unfold Cq at h
 refine J2 cf87 func87 call87 ntmps87 ?_;intro E H0 K hE hK hO;cbv;obtain⟨s2,hx,h⟩:=bind_some h;refine E6 cf87 hE L4 (fun s1=>[(0,.v (sr eAu4 aI)),(3,.v (.eref (Wj bE) 0)),fi 5 s1]) (fun s1 H1=>C3 Eq H0 [] H1) (fun x e l H1=>match(generalizing:=false) x with| .inl y=>e= .exit 0∧l=[]∧C3 Eq H0 [] H1| .inr y=>e= .ret∧l=[fi 4 y]∧C3 Eq H0 [] H1) (by kernel_rfl) ?_ hx ?_ hO ?_
 ·intro s1 H o hO h;clear hx;cbv;refine E0 hE ?_;cbv;refine A5 hE h (fun _ h=>?_) fun _ h=>?_
  ·cbv;refine C1 hE eAv0 h fun x3 h=>?_;cbv;refine C7 hE (g:=fun r4=>(Bb r4)) h (c47 N x3) (.refl _) fun r4 h=>?_;cbv;refine A5 hE h (fun _ h=>?_) fun _ h=>?_
   ·cbv;cases h;exact⟨_,_,rfl,⟨rfl,rfl,hO⟩,.e rfl .z,rfl⟩
   cbv;cases h;exact⟨_,rfl,.e rfl (.e2 .z),rfl,hO⟩
  cbv;cases h;exact⟨_,_,rfl,⟨rfl,rfl,hO⟩,.z,rfl⟩
 ·exact .e rfl (.e2 .z)
 clear hx
 rcases s2 with y5|y6
 ·rintro e l H ⟨rfl,rfl,hO⟩;cbv;cases h;exact hK hO (.refl _)
 rintro e l H ⟨rfl,rfl,hO⟩;cbv;cases h;exact hK hO (.refl _)
theorem c359 (N aN aJ r)(h:Ak N aN aJ=some r):B6 prog 359 [(Ew aN),vi aJ] (sr eAu4 r):=by
 unfold Ak at h
 refine J2 cf0 func359 call359 ntmps359 ?_;intro E H0 K hE hK hO;cbv;refine E0 hE ?_;cbv;refine A5 hE h (fun _ h=>?_) fun _ h=>?_
 ·cbv;cases h;exact hK hO (.lit _ (D5))
 cbv;refine C1 hE eAw9 h fun x1 h=>?_;cbv;cases h;exact hK hO (.refl _)
theorem c383 (N aW r)(h:EE N aW=some r):B6 prog 383 [vi aW] (.bool r):=by
 unfold EE at h
 refine J2 cf0 func383 call383 ntmps383 ?_;intro E H0 K hE hK hO;cbv;cases h;exact hK hO (.refl _)
theorem c393 (N aC r) (h:Ct N aC=some r):B6 prog 393 [(G6 aC)] (vi r):=by
 unfold Ct at h
 refine J2 cf0 func393 call393 ntmps393 ?_;intro E H0 K hE hK hO;cbv;refine A4 hE h (c383 N aC.Kind) (.refl _) fun r1 h=>?_;cbv;refine A5 hE h (fun _ h=>?_) fun _ h=>?_
 ·cbv;cases h;exact hK hO (.refl _)
 cbv;refine A5 hE h (fun _ h=>?_) fun _ h=>?_
 ·cbv;cases h;exact hK hO (.refl _)
 cbv;refine A5 hE h (fun _ h=>?_) fun _ h=>?_
 ·cbv;refine A5 hE h (fun _ h=>?_) fun _ h=>?_
  ·cbv;cases h;exact hK hO (.refl _)
  cbv;cases h;exact hK hO (.refl _)
 cbv;refine A5 hE h (fun _ h=>?_) fun _ h=>?_
 ·cbv;refine A5 hE h (fun _ h=>?_) fun _ h=>?_
  ·cbv;cases h;exact hK hO (.refl _)
  cbv;cases h;exact hK hO (.refl _)
 cbv;refine A4 hE h (c318 N aC.Value) (.refl _) fun r2 h=>?_;cbv;refine A5 hE h (fun _ h=>?_) fun _ h=>?_
 ·cbv;cases h;exact hK hO (.refl _)
 cbv;refine A4 hE h (c319 N aC.Kind aC.Value) (.refl _) fun r3 h=>?_;cbv;refine A5 hE h (fun _ h=>?_) fun _ h=>?_
 ·cbv;cases h;exact hK hO (.refl _)
 cbv;cases h;exact hK hO (.refl _)
theorem c394 (N aW aJ r)(h:Af N aW aJ=some r):B6 prog 394 [vi aW,(D7 aJ)] (vi r):=by
 unfold Af at h
 refine J2 cf0 func394 call394 ntmps394 ?_;intro E H0 K hE hK hO;cbv;refine A4 hE h (c318 N aJ) (.refl _) fun r1 h=>?_;cbv;refine A5 hE h (fun _ h=>?_) fun _ h=>?_
 ·cbv;cases h;exact hK hO (.refl _)
 cbv;refine A4 hE h (c319 N aW aJ) (.refl _) fun r2 h=>?_;cbv;refine A5 hE h (fun _ h=>?_) fun _ h=>?_
 ·cbv;cases h;exact hK hO (.refl _)
 cbv;cases h;exact hK hO (.refl _)
def cf395 :Cf:=⟨[6],[],[],[],[],[]⟩
theorem c395 (N aW aJ bY r)(h:BT N aW aJ bY=some r):B6 prog 395 [vi aW,(D7 aJ),(D7 bY)] ((D7 r)):=by
 unfold BT at h
 refine J2 cf395 func395 call395 ntmps395 ?_;intro E H0 K hE hK hO;cbv;refine C9 hE hO fun b1 H hO=>?_;cbv;refine A5 hE h (fun _ h=>?_) fun _ h=>?_
 ·cbv;refine B0 hE hO 0 rfl rfl fun H hO=>?_;cbv;refine B1 hE hO 0 rfl ?_;cbv;cases h;exact hK hO (.refl _)
 cbv;refine A5 hE h (fun _ h=>?_) fun _ h=>?_
 ·cbv;refine B0 hE hO 0 rfl rfl fun H hO=>?_;cbv;refine B1 hE hO 0 rfl ?_;cbv;cases h;exact hK hO (.refl _)
 cbv;refine A5 hE h (fun _ h=>?_) fun _ h=>?_
 ·cbv;refine B0 hE hO 0 rfl rfl fun H hO=>?_;cbv;refine B1 hE hO 0 rfl ?_;cbv;cases h;exact hK hO (.refl _)
 cbv;refine A5 hE h (fun _ h=>?_) fun _ h=>?_
 ·cbv;refine B0 hE hO 0 rfl rfl fun H hO=>?_;cbv;refine B1 hE hO 0 rfl ?_;cbv;cases h;exact hK hO (.refl _)
 cbv;refine A5 hE h (fun _ h=>?_) fun _ h=>?_
 ·cbv;refine B0 hE hO 0 rfl rfl fun H hO=>?_;cbv;refine B1 hE hO 0 rfl ?_;cbv;cases h;exact hK hO (.refl _)
 cbv;refine B0 hE hO 0 rfl rfl fun H hO=>?_;cbv;refine B1 hE hO 0 rfl ?_;cbv;cases h;exact hK hO (.refl _)
def cf384 :Cf:=⟨[4,8],[],[],[],[],[]⟩
theorem c384 (N aC aJ r)(h:Cu N aC aJ=some r):B6 prog 384 [(G6 aC),(D7 aJ)] (.tup [(G6 r.1),vi r.2]):=by
 unfold Cu at h
 refine J2 cf384 func384 call384 ntmps384 ?_;intro E H0 K hE hK hO;cbv;refine C9 hE hO fun b1 H hO=>?_;cbv;refine A4 hE h (c393 N aC) (.refl _) fun r2 h=>?_;cbv;refine A5 hE h (fun _ h=>?_) fun _ h=>?_
 ·cbv;refine B0 hE hO 0 rfl rfl fun H hO=>?_;cbv;refine B1 hE hO 0 rfl ?_;cbv;cases h;exact hK hO (.refl _)
 cbv;refine A4 hE h (c394 N aC.Kind aJ) (.refl _) fun r3 h=>?_;cbv;refine A5 hE h (fun _ h=>?_) fun _ h=>?_
 ·cbv;refine B0 hE hO 0 rfl rfl fun H hO=>?_;cbv;refine B1 hE hO 0 rfl ?_;cbv;cases h;exact hK hO (.refl _)
 cbv;refine A5 hE h (fun _ h=>?_) fun _ h=>?_
 ·cbv;refine B0 hE hO 0 rfl rfl fun H hO=>?_;cbv;refine B1 hE hO 0 rfl ?_;cbv;cases h;exact hK hO (.refl _)
 cbv;refine C9 hE hO fun b4 H hO=>?_;cbv;refine B0 hE hO 0 rfl rfl fun H hO=>?_;cbv;refine A5 hE h (fun _ h=>?_) fun _ h=>?_
 ·cbv;refine B0 hE hO 0 rfl rfl fun H hO=>?_;cbv;refine B1 hE hO 0 rfl ?_;cbv;refine B0 hE hO 1 rfl rfl fun H hO=>?_;cbv;refine B1 hE hO 1 rfl ?_;cbv;cases h;exact hK hO (.refl _)
 cbv;refine A5 hE h (fun _ h=>?_) fun _ h=>?_
 ·cbv;refine A4 hE h (c395 N aC.Kind aC.Value aJ) (.refl _) fun r5 h=>?_;cbv;refine B0 hE hO 0 rfl rfl fun H hO=>?_;cbv;refine B1 hE hO 0 rfl ?_;cbv;refine B0 hE hO 1 rfl rfl fun H hO=>?_;cbv;refine B1 hE hO 1 rfl ?_;cbv;cases h;exact hK hO (.refl _)
 cbv;refine B1 hE hO 0 rfl ?_;cbv;refine B0 hE hO 1 rfl rfl fun H hO=>?_;cbv;refine B1 hE hO 1 rfl ?_;cbv;cases h;exact hK hO (.refl _)
end Go.Ab
