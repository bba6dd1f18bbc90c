/- GVCo6 -/
import Derived.Test.YtjhobbohibnioaaGreatDoorE14
set_option linter.all false
open Go.Ab.Ar (lst)
namespace Go.Ab
open Go.RowKit Go.Proofs Go.Proofs.Tryz I8
variable [Ar][I8]
set_option maxRecDepth 100000
theorem c63 (N:Nat)(aF:List A4)(aQ:V)(aO:A4→A4→Option Int)(aX:∀y1 y2 q,aO y1 y2=some q→S0 prog aQ [(O8 y1),(O8 y2)] (vi q))(r:(List A4))(h:I0 N aF aO=some r):Kw prog 63 (fun q=>[.own q.id q.lo q.n,aQ]) 4 (lst eAh3 aF) (lst eAh3 r):=by
 unfold I0 at h
 refine DO (T:=TT) (m:=2) cf0 K4 func63 (by rfl) (by kernel_rfl) call63 ntmps63 (by rfl) (fun _=>rfl) (by rfl) ?_;intro E H0 q0 K hE hq0 hO hK;cbv;refine LF hE hq0 ?_;cbv;refine Bk hE hO hq0 0 rfl h (c130 N aF (Ar.len aF) aQ aO aX) (.refl _) fun l1 H hq0 hO h=>?_;cbv;cases h;exact hK _ 0 _ hq0 rfl hO
theorem c65 (N aB aC r)(h:AP N aB aC=some r):B6 prog 65 [(BR aB),(BR aC)] (vi r):=by
 unfold AP at h
 refine J9 cf0 func65 call65 ntmps65 ?_;intro E H0 K hE hK hO;cbv;refine A7 hE h (c72 N (⟨aB.Source,aB.Seq,0,aB.Time,[]⟩:B8) (⟨aC.Source,aC.Seq,0,aC.Time,[]⟩:B8)) (.cons (.agg (.cons (.refl _) (.cons (.refl _) (.cons (.refl _) (.cons (.refl _) (.cons (.lit _ (D0)) (.refl _))))))) (.cons (.agg (.cons (.refl _) (.cons (.refl _) (.cons (.refl _) (.cons (.refl _) (.cons (.lit _ (D0)) (.refl _))))))) (.refl _))) fun r1 h=>?_;cbv;cases h;exact hK hO (.refl _)
theorem c64 (N aB aC r)(h:N1 N aB aC=some r):B6 prog 64 [(O8 aB),(O8 aC)] (vi r):=by
 unfold N1 at h
 refine J9 cf0 func64 call64 ntmps64 ?_;intro E H0 K hE hK hO;cbv;refine A7 hE h (c65 N aB.Ref aC.Ref) (.refl _) fun r1 h=>?_;cbv;cases h;exact hK hO (.refl _)
def cfo62 :Cf:=⟨[7,6000004,6000005,6000017],[(5,10),(10,12)],[],[],[],[]⟩
theorem o62 (N:Nat):∀n aA aG r,M1 N n aA aG=some r→NL prog 62 [(B7 aA),(C2 aG)] 4 (lst eAh3 r):=by
 intro n
 induction n with
 |zero=>intro aA aG r h;cases h
 |succ n ih=>
 intro aA aG r h
 unfold M1 at h
 intro H0;refine Hv (T:=TT) (F:=H0) cfo62 K4 func62 (by rfl) (by kernel_rfl) call62 ntmps62 (by rfl) (by rfl) ?_;intro E K hE hK hN;have hO:B9 Eq H0 [] H0:=.start G3 rfl;cbv;refine RO hE (f:=eAh3) hO fun q1 H hq1 hO=>?_;cbv;refine A8 hE h (fun _ h=>?_) fun _ h=>?_
 ·cbv;refine Wh hE (f:=eAh3) (l:=([(⟨aA.Var,aG.Ref⟩:A4)]:List A4)) (.lstc (.eq (eAh7 (⟨aA.Var,aG.Ref⟩:A4)) (.refl _)) (.lst0)) hO fun q2 H hq2 hO=>?_;cbv;cases h;exact hK q2 _ _ (CS hE hq2) (hO)
 cbv;refine A8 hE h (fun _ h=>?_) fun _ h=>?_
 ·cbv;refine C7 hE eAh9 h fun x3 h=>?_;cbv;refine C7 hE eAh6 h fun x4 h=>?_;cbv;refine KP hE (f:=eAh3) h (ih x3 x4) (.refl _) hO fun l5 q6 H hq6 hO h=>?_;cbv;cases h;exact hK q6 _ _ (CS hE hq6) (hO)
 cbv;refine RO hE (f:=eAh3) hO fun q7 H hq7 hO=>?_;cbv;refine E1 hE ?_;cbv;obtain⟨s10,hx,h⟩:=bind_some h;refine M9 cfo62 hE K4 (γ:=OG) (fun s8 g=>[(2,.v (.eref (D6 aA) 0)),(5,.v (.own g.id g.lo g.n)),(32,.v (sr eAh4 aG.Kids)),fi 33 (Ar.len aG.Kids),fi 34 s8.1]) (fun s8 g H1=>T4 g (Ar.len s8.2)∧B9 Eq H0 [ob g 4 eAh3 s8.2,ob q1 4 eAh3 ([]:List A4)] H1) (fun x e l H1=>∃u1:OG,T4 u1 (Ar.len x)∧e= .exit 1∧l=[(5,.v (.own u1.id u1.lo u1.n))]∧B9 Eq H0 [ob u1 4 eAh3 x,ob q1 4 eAh3 ([]:List A4)] H1) (by kernel_rfl) ?_ q7 hx ?_ ?_ ?_
 ·rintro s8 q9 H o ⟨hq9,hO⟩ h;clear hx;cbv;refine A8 hE h (fun _ h=>?_) fun _ h=>?_
  ·cbv;refine C7 hE eAh6 h fun x11 h=>?_;cbv;refine D2 hE hO fun b12 H hO=>?_;cbv;refine B2 hE hO 0 rfl rfl fun H hO=>?_;cbv;refine E1 hE ?_;cbv;refine KO hE h fun h=>?_;cbv;refine C7 hE eAh9 h fun x13 h=>?_;cbv;refine B0 hE hO 0 rfl ?_;cbv;refine C6 hE (g:=fun r14=>sr eAh3 r14) h (c62 N n x13 x11) (.refl _) fun r14 h=>?_;cbv;refine Om (f:=eAh3) hE G1 (by decide) hO hq9 1 rfl (m:=r14) (Jz (f:=eAh3) hE G1 (.refl _)) h fun l16 q15 H hq15 hO h=>?_;cbv;cases h;exact⟨_,q15,rfl,.e rfl (.e4 .z),rfl,hq15,hO.tail⟩
  cbv;cases h;exact⟨_,_,rfl,⟨q9,hq9,rfl,rfl,hO⟩,.e rfl .z,rfl⟩
 ·exact .e rfl (.e4 .z)
 ·exact⟨hq7,hO⟩
 clear hx;rintro e l H ⟨q17,hq17,rfl,rfl,hO⟩;cbv;cases h;exact hK q17 _ _ (CS hE hq17) (hO)
def cf17 :Cf:=⟨[4],[(9,11)],[],[],[(42,7)],[]⟩
theorem c17 (N aA aG r) (h:Q0 N aA aG=some r):B6 prog 17 [(B7 aA),(C2 aG)] (.tup [(Dy r.1),vi r.2]):=by
 unfold Q0 at h
 refine J9 cf17 func17 call17 ntmps17 ?_;intro E H0 K hE hK hO;cbv;refine D2 hE hO fun b1 H hO=>?_;cbv;refine A7 hE h (c26 N aA aG) (.refl _) fun r2 h=>?_;cbv;refine A8 hE h (fun _ h=>?_) fun _ h=>?_
 ·cbv;refine B2 hE hO 0 rfl rfl fun H hO=>?_;cbv;refine B0 hE hO 0 rfl ?_;cbv;cases h;exact hK hO (.tup (.cons (.agg (.cons (.lit _ (D0)) (.refl _))) (.refl _)))
 cbv;refine KP hE (f:=eAh3) h (o62 N N aA aG) (.refl _) hO fun l3 q4 H hq4 hO h=>?_;cbv;refine Bk hE hO hq4 0 rfl h (fun l5 hx=>c63 N l3 (.func (.func 64) [] []) (fun y1 y2=>N1 N y1 y2) (fun y1 y2 r hx=>B6.value (F:=[]) (C:=[]) (c64 N y1 y2 r hx)) l5 hx) (.refl _) fun l5 H hq4 hO h=>?_;cbv;obtain⟨s7,hx,h⟩:=bind_some h;refine F3 cf17 hE K4 (fun s6=>[(4,.v (.ref b1 0)),(7,.v (.own q4.id q4.lo q4.n)),fi 8 s6]) (fun s6 H1=>B9 Eq H0 [ob q4 4 eAh3 l5,cb b1 [.sl [] .nil]] H1) (fun x e l H1=>match(generalizing:=false) x with| .inl y=>e= .exit 0∧l=[(4,.v (.ref b1 0)),(7,.v (.own q4.id q4.lo q4.n))]∧B9 Eq H0 [ob q4 4 eAh3 l5,cb b1 [.sl [] .nil]] H1| .inr y=>e= .ret∧l=[(4,.v (.ref b1 0)),fi 5 7]∧B9 Eq H0 [ob q4 4 eAh3 l5,cb b1 [.sl [] .nil]] H1) (by kernel_rfl) ?_ hx ?_ hO ?_
 ·intro s6 H o hO h;clear hx;cbv;refine LF hE hq4 ?_;cbv;refine A8 hE h (fun _ h=>?_) fun _ h=>?_
  ·cbv;refine J8 hE hO hq4 0 rfl h fun h=>?_;cbv;refine M8 hE eAh7 hO hq4 0 rfl h fun x8 h=>?_;cbv;refine J8 hE hO hq4 0 rfl h fun h=>?_;cbv;refine M8 hE eAh7 hO hq4 0 rfl h fun x9 h=>?_;cbv;refine A8 hE h (fun _ h=>?_) fun _ h=>?_
   ·cbv;refine B2 hE hO 1 rfl rfl fun H hO=>?_;cbv;cases h;exact⟨_,_,rfl,⟨rfl,rfl,hO⟩,.e2 .z,rfl⟩
   cbv;cases h;exact⟨_,rfl,.e rfl (.e2 .z),rfl,hO⟩
  cbv;cases h;exact⟨_,_,rfl,⟨rfl,rfl,hO⟩,.e2 .z,rfl⟩
 ·exact .e rfl (.e2 .z)
 clear hx
 rcases s7 with y10|y12
 ·rintro e l H ⟨rfl,rfl,hO⟩;cbv;refine ZW hE hO hq4 0 rfl fun H hO=>?_;cbv;refine A7 hE h (c59 N (⟨l5⟩:T8)) (.refl _) fun r11 h=>?_;cbv;refine A8 hE h (fun _ h=>?_) fun _ h=>?_
  ·cbv;refine B2 hE hO 0 rfl rfl fun H hO=>?_;cbv;refine B0 hE hO 0 rfl ?_;cbv;cases h;exact hK hO (.tup (.cons (.agg (.cons (.lit _ (D0)) (.refl _))) (.refl _)))
  cbv;refine B2 hE hO 0 rfl rfl fun H hO=>?_;cbv;refine B0 hE hO 0 rfl ?_;cbv;cases h;exact hK hO (.refl _)
 rintro e l H ⟨rfl,rfl,hO⟩;cbv;refine B0 hE hO 1 rfl ?_;cbv;cases h;exact hK hO (.tup (.cons (.agg (.cons (.lit _ (D0)) (.refl _))) (.refl _)))
theorem c30 (N:Nat):∀n aG r,X2 N n aG=some r→B6 prog 30 [(C2 aG)] (vi r):=by
 intro n
 induction n with
 |zero=>intro aG r h;cases h
 |succ n ih=>
 intro aG r h
 unfold X2 at h
 refine J9 cf0 func30 call30 ntmps30 ?_;intro E H0 K hE hK hO;cbv;obtain⟨s2,hx,h⟩:=bind_some h;refine F3 cf0 hE K4 (fun s1=>[(1,.v (.eref (K3 aG) 0)),fi 3 s1.1,fi 4 s1.2]) (fun s1 H1=>B9 Eq H0 [] H1) (fun x e l H1=>e= .exit 0∧l=[fi 3 x]∧B9 Eq H0 [] H1) (by kernel_rfl) ?_ hx ?_ hO ?_
 ·intro s1 H o hO h;clear hx;cbv;refine E1 hE ?_;cbv;refine A8 hE h (fun _ h=>?_) fun _ h=>?_
  ·cbv;refine C7 hE eAh6 h fun x3 h=>?_;cbv;refine A7 hE h (ih x3) (.refl _) fun r4 h=>?_;cbv;cases h;exact⟨_,rfl,.e rfl (.e2 .z),rfl,hO⟩
  cbv;cases h;exact⟨_,_,rfl,⟨rfl,rfl,hO⟩,.e rfl .z,rfl⟩
 ·exact .e rfl (.e2 .z)
 clear hx;rintro e l H ⟨rfl,rfl,hO⟩;cbv;cases h;exact hK hO (.refl _)
theorem c89 (N:Nat):∀n aG r,Y7 N n aG=some r→B6 prog 89 [(C2 aG)] (vi r):=by
 intro n
 induction n with
 |zero=>intro aG r h;cases h
 |succ n ih=>
 intro aG r h
 unfold Y7 at h
 refine J9 cf0 func89 call89 ntmps89 ?_;intro E H0 K hE hK hO;cbv;obtain⟨s2,hx,h⟩:=bind_some h;refine F3 cf0 hE K4 (fun s1=>[(1,.v (.eref (K3 aG) 0)),fi 3 s1.1,fi 4 s1.2]) (fun s1 H1=>B9 Eq H0 [] H1) (fun x e l H1=>e= .exit 0∧l=[fi 3 x]∧B9 Eq H0 [] H1) (by kernel_rfl) ?_ hx ?_ hO ?_
 ·intro s1 H o hO h;clear hx;cbv;refine E1 hE ?_;cbv;refine A8 hE h (fun _ h=>?_) fun _ h=>?_
  ·cbv;refine C7 hE eAh6 h fun x3 h=>?_;cbv;refine A7 hE h (ih x3) (.refl _) fun r4 h=>?_;cbv;cases h;exact⟨_,rfl,.e rfl (.e2 .z),rfl,hO⟩
  cbv;cases h;exact⟨_,_,rfl,⟨rfl,rfl,hO⟩,.e rfl .z,rfl⟩
 ·exact .e rfl (.e2 .z)
 clear hx;rintro e l H ⟨rfl,rfl,hO⟩;cbv;cases h;exact hK hO (.refl _)
theorem c33 (N aG r)(h:Fa N aG=some r):B6 prog 33 [(C2 aG)] (.bool r):=by
 unfold Fa at h
 refine J9 cf0 func33 call33 ntmps33 ?_;intro E H0 K hE hK hO;cbv;refine A7 hE h (c89 N N aG) (.refl _) fun r1 h=>?_;cbv;refine A8 hE h (fun _ h=>?_) fun _ h=>?_
 ·cbv;refine A7 hE h (c30 N N aG) (.refl _) fun r2 h=>?_;cbv;cases h;exact hK hO (.refl _)
 cbv;cases h;exact hK hO (.refl _)
theorem c23 (N aA aH aG r) (h:Fh N aA aH aG=some r):B6 prog 23 [(B7 aA),sr eAh5 aH,(C2 aG)] (.bool r):=by
 unfold Fh at h
 refine J9 cf0 func23 call23 ntmps23 ?_;intro E H0 K hE hK hO;cbv;refine A7 hE h (c75 N aA) (.refl _) fun r1 h=>?_;cbv;refine A8 hE h (fun _ h=>?_) fun _ h=>?_
 ·cbv;refine A7 hE h (c36 N aH) (.refl _) fun r2 h=>?_;cbv;refine A8 hE h (fun _ h=>?_) fun _ h=>?_
  ·cbv;refine A7 hE h (c33 N aG) (.refl _) fun r3 h=>?_;cbv;cases h;exact hK hO (.refl _)
  cbv;cases h;exact hK hO (.refl _)
 cbv;cases h;exact hK hO (.refl _)
theorem c84 (N aB aC r)(h:CZ N aB aC=some r):B6 prog 84 [(O8 aB),(O8 aC)] (vi r):=by
 unfold CZ at h
 refine J9 cf0 func84 call84 ntmps84 ?_;intro E H0 K hE hK hO;cbv;refine A7 hE h (c106 N aB.Ref aC.Ref) (.refl _) fun r1 h=>?_;cbv;refine A8 hE h (fun _ h=>?_) fun _ h=>?_
 ·cbv;cases h;exact hK hO (.refl _)
 cbv;refine A8 hE h (fun _ h=>?_) fun _ h=>?_
 ·cbv;cases h;exact hK hO (.refl _)
 cbv;refine A8 hE h (fun _ h=>?_) fun _ h=>?_
 ·cbv;cases h;exact hK hO (.refl _)
 cbv;cases h;exact hK hO (.refl _)
def cf28 :Cf:=⟨[],[(4,10)],[],[],[],[]⟩
theorem c28 (N aB aC r) (h:Af N aB aC=some r):B6 prog 28 [(Dy aB),(Dy aC)] (vi r):=by
 unfold Af at h
 refine J9 cf28 func28 call28 ntmps28 ?_;intro E H0 K hE hK hO;cbv;obtain⟨s2,hx,h⟩:=bind_some h;refine F3 cf28 hE K4 (fun s1=>[(2,.v (.eref (FP aB) 0)),(3,.v (.eref (FP aC) 0)),fi 5 s1]) (fun s1 H1=>B9 Eq H0 [] H1) (fun x e l H1=>match(generalizing:=false) x with| .inl y=>e= .exit 0∧l=[(2,.v (.eref (FP aB) 0)),(3,.v (.eref (FP aC) 0))]∧B9 Eq H0 [] H1| .inr y=>e= .ret∧l=[fi 4 y]∧B9 Eq H0 [] H1) (by kernel_rfl) ?_ hx ?_ hO ?_
 ·intro s1 H o hO h;clear hx;cbv;refine E1 hE ?_;cbv;refine E1 hE ?_;cbv;refine A8 hE h (fun _ h=>?_) fun _ h=>?_
  ·cbv;refine C7 hE eAh7 h fun x3 h=>?_;cbv;refine C7 hE eAh7 h fun x4 h=>?_;cbv;refine A7 hE h (c84 N x3 x4) (.refl _) fun r5 h=>?_;cbv;refine A8 hE h (fun _ h=>?_) fun _ h=>?_
   ·cbv;cases h;exact⟨_,_,rfl,⟨rfl,rfl,hO⟩,.e rfl .z,rfl⟩
   cbv;cases h;exact⟨_,rfl,.e rfl (.e2 .z),rfl,hO⟩
  cbv;cases h;exact⟨_,_,rfl,⟨rfl,rfl,hO⟩,.e2 .z,rfl⟩
 ·exact .e rfl (.e2 .z)
 clear hx
 rcases s2 with y6|y7
 ·rintro e l H ⟨rfl,rfl,hO⟩;cbv;refine E1 hE ?_;cbv;refine E1 hE ?_;cbv;refine A8 hE h (fun _ h=>?_) fun _ h=>?_
  ·cbv;cases h;exact hK hO (.refl _)
  cbv;refine E1 hE ?_;cbv;refine E1 hE ?_;cbv;refine A8 hE h (fun _ h=>?_) fun _ h=>?_
  ·cbv;cases h;exact hK hO (.refl _)
  cbv;cases h;exact hK hO (.refl _)
 rintro e l H ⟨rfl,rfl,hO⟩;cbv;cases h;exact hK hO (.refl _)
theorem c85 (N aA aG r) (h:Dp N aA aG=some r):B6 prog 85 [(B7 aA),(C2 aG)] (sr eAi9 r):=by
 unfold Dp at h
 refine J9 cf0 func85 call85 ntmps85 ?_;intro E H0 K hE hK hO;cbv;refine A7 hE h (c62 N N aA aG) (.refl _) fun r1 h=>?_;cbv;refine E1 hE ?_;cbv;replace hO:=hO.tl0 (t:=.nil) rfl;obtain⟨s4,hx,h⟩:=bind_some h;refine M9 cf0 hE K4 (γ:=E8) (fun s2 g=>[(5,.v (.sl (lst eAi9 s2.1) g)),(10,.v (sr eAh3 r1)),fi 11 (Ar.len r1),fi 12 s2.2]) (fun s2 g H1=>Bz g∧B9 Eq H0 [.tl g] H1) (fun x e l H1=>∃u1:E8,Bz u1∧e= .exit 0∧l=[(5,.v (.sl (lst eAi9 x) u1))]∧B9 Eq H0 [.tl u1] H1) (by kernel_rfl) ?_ .nil hx ?_ ?_ ?_
 ·rintro s2 t3 H o ⟨ht3,hO⟩ h;clear hx;cbv;refine A8 hE h (fun _ h=>?_) fun _ h=>?_
  ·cbv;refine C7 hE eAh7 h fun x5 h=>?_;cbv;refine Aw (f:=eAi9) hE XD (by decide) hO 0 rfl ht3 (l:=s2.1) (m:=[x5.Ref]) (.refl _) (.lstc (.eq (eAj4 x5.Ref) (.refl _)) (.lst0)) h fun l7 t6 H hO ht6 h=>?_;cbv;cases h;exact⟨_,t6,rfl,.e4 .z,rfl,ht6,hO⟩
  cbv;cases h;exact⟨_,_,rfl,⟨t3,ht3,rfl,rfl,hO⟩,.e rfl .z,rfl⟩
 ·exact .v (.slt _ (.lst0)) (.e rfl (.e2 .z))
 ·exact⟨trivial,hO⟩
 clear hx;rintro e l H ⟨t8,ht8,rfl,rfl,hO⟩;cbv;cases h;exact hK hO (.ro _ _)
def cf86 :Cf:=⟨[17],[(3,13),(4,19),(6,16),(14,18)],[(89,14)],[],[],[]⟩
theorem c86 (N:Nat):∀n aF aA aG aI aW r,S2 N n aF aA aG aI aW=some r→B6 prog 86 [.eref (C5 aF) 0,(B7 aA),(C2 aG),sr eAh2 aI,vi aW] (.tup [sr eAh2 r.1,.bool r.2]):=by
 intro n
 induction n with
 |zero=>intro aF aA aG aI aW r h;cases h
 |succ n ih=>
 intro aF aA aG aI aW r h
 unfold S2 at h
 refine J9 cf86 func86 call86 ntmps86 ?_;intro E H0 K hE hK hO;cbv;refine A8 hE h (fun _ h=>?_) fun _ h=>?_
 ·cbv;refine C6 hE (g:=fun r1=>.tup [vi r1.1,.bool r1.2.1,vi r1.2.2]) h (c60 N aF.cQ aG.Ref) (.refl _) fun r1 h=>?_;cbv;refine A8 hE h (fun _ h=>?_) fun _ h=>?_
  ·cbv;refine C6 hE (g:=fun r2=>.bool r2) h (c139 N aF aA aI r1.1) (.refl _) fun r2 h=>?_;cbv;cases h;exact hK hO (.tup (.cons (.lit _ (E2 ((eAi2 (⟨aA.Var,r1.1⟩:A3)).symm) (D0))) (.refl _)))
  cbv;cases h;exact hK hO (.tup (.cons (.lit _ (E2 ((eAi2 (⟨aA.Var,r1.1⟩:A3)).symm) (D0))) (.refl _)))
 cbv;refine A8 hE h (fun _ h=>?_) fun _ h=>?_
 ·cbv;cases h
 cbv;refine E1 hE ?_;cbv;replace hO:=hO.tl0 (t:=.nil) rfl;obtain⟨s4,hx,h⟩:=bind_some h;refine F3 cf86 hE K4 (fun s3=>[(0,.v (.eref (C5 aF) 0)),(3,.v (sr eAh2 aI)),fi 4 s3.1,(6,.v (.eref (D6 aA) 0)),(15,.v (sr eAh2 s3.2.1)),(74,.v (sr eAh4 aG.Kids)),fi 75 (Ar.len aG.Kids),fi 76 s3.2.2]) (fun s3 H1=>B9 Eq H0 [.tl .nil] H1) (fun x e l H1=>match(generalizing:=false) x with| .inl y=>e= .exit 1∧l=[(0,.v (.eref (C5 aF) 0)),(3,.v (sr eAh2 aI)),(6,.v (.eref (D6 aA) 0)),(15,.v (sr eAh2 y))]∧B9 Eq H0 [.tl .nil] H1| .inr y=>e= .ret∧l=[(10,.v (.sl [] .nil)),(11,.b false)]∧B9 Eq H0 [.tl .nil] H1) (by kernel_rfl) ?_ hx ?_ hO ?_
 ·intro s3 H o hO h;clear hx;cbv;refine A8 hE h (fun _ h=>?_) fun _ h=>?_
  ·cbv;refine C7 hE eAh6 h fun x5 h=>?_;cbv;refine D2 hE hO fun b6 H hO=>?_;cbv;refine B2 hE hO 0 rfl rfl fun H hO=>?_;cbv;obtain⟨s7,hx,h⟩:=bind_some h;refine I7 cf86 hE K4 (fun e l H1=>e= .normal∧l=[(0,.v (.eref (C5 aF) 0)),(3,.v (sr eAh2 aI)),fi 4 s3.1,(6,.v (.eref (D6 aA) 0)),(15,.v (sr eAh2 s3.2.1)),fi 16 s3.2.2,(17,.v (.ref b6 0)),(18,.v (sr eAh2 s7)),(74,.v (sr eAh4 aG.Kids)),fi 75 (Ar.len aG.Kids),fi 76 s3.2.2]∧B9 Eq H0 [cb b6 (K3 x5),.tl .nil] H1) (by kernel_rfl) ?_ ?_
   ·clear h;have h:=hx;clear hx;cbv;refine A8 hE h (fun _ h=>?_) fun _ h=>?_
    ·cbv;refine A7 hE h (c140 N aI s3.2.1) (.refl _) fun r8 h=>?_;cbv;cases h;exact⟨_,⟨rfl,rfl,hO⟩,.e rfl (.e2 (.e4 (.e4 .z))),rfl⟩
    cbv;cases h;exact⟨_,⟨rfl,rfl,hO⟩,.e rfl (.e2 (.e4 (.e4 .z))),rfl⟩
   clear hx;rintro e l H ⟨rfl,rfl,hO⟩;cbv;refine E1 hE ?_;cbv;refine KO hE h fun h=>?_;cbv;refine C7 hE eAh9 h fun x9 h=>?_;cbv;refine B0 hE hO 0 rfl ?_;cbv;refine C6 hE (g:=fun r10=>.tup [sr eAh2 r10.1,.bool r10.2]) h (ih aF x9 x5 s7 s3.1) (.refl _) fun r10 h=>?_;cbv;refine A8 hE h (fun _ h=>?_) fun _ h=>?_
   ·cbv;cases h;exact⟨_,_,rfl,⟨rfl,rfl,hO.tail⟩,.e rfl (.b rfl (.z)),rfl⟩
   cbv;refine A7 hE h (c141 N s3.2.1 r10.1) (.refl _) fun r11 h=>?_;cbv;refine A8 hE h (fun _ h=>?_) fun _ h=>?_
   ·cbv;cases h;exact⟨_,_,rfl,⟨rfl,rfl,hO.tail⟩,.e rfl (.b rfl (.z)),rfl⟩
   cbv;refine A8 hE h (fun _ h=>?_) fun _ h=>?_
   ·cbv;refine A7 hE h (c142 N r10.1) (.refl _) fun r12 h=>?_;cbv;refine A7 hE h (c140 N s3.2.1 r10.1) (.refl _) fun r13 h=>?_;cbv;cases h;exact⟨_,rfl,.e4 (.e4 .z),rfl,hO.tail⟩
   cbv;refine A7 hE h (c140 N s3.2.1 r10.1) (.refl _) fun r14 h=>?_;cbv;cases h;exact⟨_,rfl,.e4 (.e4 .z),rfl,hO.tail⟩
  cbv;cases h;exact⟨_,_,rfl,⟨rfl,rfl,hO⟩,.e4 .z,rfl⟩
 ·exact .e4 (.v (.lit _ (D0)) (.e rfl (.e rfl (.e rfl (.z)))))
 clear hx
 rcases s4 with y15|y17
 ·rintro e l H ⟨rfl,rfl,hO⟩;cbv;refine A8 hE h (fun _ h=>?_) fun _ h=>?_
  ·cbv;cases h;exact hK hO (.refl _)
  cbv;refine A7 hE h (c143 N aF aA aI y15) (.refl _) fun r16 h=>?_;cbv;cases h;exact hK hO (.refl _)
 rintro e l H ⟨rfl,rfl,hO⟩;cbv;cases h;exact hK hO (.tup (.cons (.lit _ (D0)) (.refl _)))
theorem c31 (N aA aH aG r) (h:S6 N aA aH aG=some r):B6 prog 31 [(B7 aA),sr eAh5 aH,(C2 aG)] (vi r):=by
 unfold S6 at h
 refine J9 cf0 func31 call31 ntmps31 ?_;intro E H0 K hE hK hO;cbv;refine A7 hE h (c26 N aA aG) (.refl _) fun r1 h=>?_;cbv;refine A8 hE h (fun _ h=>?_) fun _ h=>?_
 ·cbv;cases h
 cbv;refine A7 hE h (c56 N aH) (.refl _) fun r2 h=>?_;cbv;refine A8 hE h (fun _ h=>?_) fun _ h=>?_
 ·cbv;cases h
 cbv;refine A7 hE h (c85 N aA aG) (.refl _) fun r3 h=>?_;cbv;refine E1 hE ?_;cbv;obtain⟨s5,hx,h⟩:=bind_some h;refine F3 cf0 hE K4 (fun s4=>[(1,.v (sr eAh5 aH)),(3,.v (.eref (D6 aA) 0)),(5,.v (.eref (K3 aG) 0)),(30,.v (sr eAi9 r3)),fi 31 (Ar.len r3),fi 32 s4]) (fun s4 H1=>B9 Eq H0 [] H1) (fun x e l H1=>match(generalizing:=false) x with| .inl y=>e= .exit 0∧l=[(1,.v (sr eAh5 aH)),(3,.v (.eref (D6 aA) 0)),(5,.v (.eref (K3 aG) 0))]∧B9 Eq H0 [] H1| .inr y=>e= .ret∧l=[fi 6 6]∧B9 Eq H0 [] H1) (by kernel_rfl) ?_ hx ?_ hO ?_
 ·intro s4 H o hO h;clear hx;cbv;refine A8 hE h (fun _ h=>?_) fun _ h=>?_
  ·cbv;refine C7 hE eAj4 h fun x6 h=>?_;cbv;refine A7 hE h (c60 N aH x6) (.refl _) fun r7 h=>?_;cbv;refine A8 hE h (fun _ h=>?_) fun _ h=>?_
   ·cbv;cases h;exact⟨_,_,rfl,⟨rfl,rfl,hO⟩,.e rfl .z,rfl⟩
   cbv;cases h;exact⟨_,rfl,.e2 (.e4 .z),rfl,hO⟩
  cbv;cases h;exact⟨_,_,rfl,⟨rfl,rfl,hO⟩,.e rfl (.e2 .z),rfl⟩
 ·exact .e2 (.e4 .z)
 clear hx
 rcases s5 with y8|y10
 ·rintro e l H ⟨rfl,rfl,hO⟩;cbv;refine A7 hE h (c86 N N (⟨aH,0⟩:C9) aA aG ([]) 0) (.cons (.refl _) (.cons (.refl _) (.cons (.refl _) (.cons (.lit _ (D0)) (.refl _))))) fun r9 h=>?_;cbv;refine A8 hE h (fun _ h=>?_) fun _ h=>?_
  ·cbv;cases h;exact hK hO (.refl _)
  cbv;cases h;exact hK hO (.refl _)
 rintro e l H ⟨rfl,rfl,hO⟩;cbv;cases h;exact hK hO (.refl _)
theorem c145 (N aB aC r)(h:AK N aB aC=some r):B6 prog 145 [vi aB,vi aC] (vi r):=by
 unfold AK at h
 refine J9 cf0 func145 call145 ntmps145 ?_;intro E H0 K hE hK hO;cbv;refine A8 hE h (fun _ h=>?_) fun _ h=>?_
 ·cbv;cases h;exact hK hO (.refl _)
 cbv;refine A8 hE h (fun _ h=>?_) fun _ h=>?_
 ·cbv;cases h;exact hK hO (.refl _)
 cbv;cases h;exact hK hO (.refl _)
theorem c90 (N aB aC r)(h:L8 N aB aC=some r):B6 prog 90 [(BR aB),(BR aC)] (vi r):=by
 unfold L8 at h
 refine J9 cf0 func90 call90 ntmps90 ?_;intro E H0 K hE hK hO;cbv;refine A8 hE h (fun _ h=>?_) fun _ h=>?_
 ·cbv;refine A7 hE h (c145 N aB.Time aC.Time) (.refl _) fun r1 h=>?_;cbv;cases h;exact hK hO (.refl _)
 cbv;refine A8 hE h (fun _ h=>?_) fun _ h=>?_
 ·cbv;refine A7 hE h (c145 N aB.Source aC.Source) (.refl _) fun r2 h=>?_;cbv;cases h;exact hK hO (.refl _)
 cbv;refine A7 hE h (c145 N aB.Seq aC.Seq) (.refl _) fun r3 h=>?_;cbv;cases h;exact hK hO (.refl _)
def cf34 :Cf:=⟨[],[(11,10)],[],[],[],[]⟩
theorem c34 (N:Nat):∀n aB aC r,CQ N n aB aC=some r→B6 prog 34 [(C2 aB),(C2 aC)] (vi r):=by
 intro n
 induction n with
 |zero=>intro aB aC r h;cases h
 |succ n ih=>
 intro aB aC r h
 unfold CQ at h
 refine J9 cf34 func34 call34 ntmps34 ?_;intro E H0 K hE hK hO;cbv;refine A7 hE h (c90 N aB.Ref aC.Ref) (.refl _) fun r1 h=>?_;cbv;refine A8 hE h (fun _ h=>?_) fun _ h=>?_
 ·cbv;cases h;exact hK hO (.refl _)
 cbv;refine A8 hE h (fun _ h=>?_) fun _ h=>?_
 ·cbv;refine A8 hE h (fun _ h=>?_) fun _ h=>?_
  ·cbv;cases h;exact hK hO (.refl _)
  cbv;cases h;exact hK hO (.refl _)
 cbv;obtain⟨s3,hx,h⟩:=bind_some h;refine F3 cf34 hE K4 (fun s2=>[(2,.v (.eref (K3 aB) 0)),(3,.v (.eref (K3 aC) 0)),fi 6 s2]) (fun s2 H1=>B9 Eq H0 [] H1) (fun x e l H1=>match(generalizing:=false) x with| .inl y=>e= .exit 0∧l=[(2,.v (.eref (K3 aB) 0)),(3,.v (.eref (K3 aC) 0))]∧B9 Eq H0 [] H1| .inr y=>e= .ret∧l=[fi 4 y]∧B9 Eq H0 [] H1) (by kernel_rfl) ?_ hx ?_ hO ?_
 ·intro s2 H o hO h;clear hx;cbv;refine E1 hE ?_;cbv;refine E1 hE ?_;cbv;refine A8 hE h (fun _ h=>?_) fun _ h=>?_
  ·cbv;refine C7 hE eAh6 h fun x4 h=>?_;cbv;refine C7 hE eAh6 h fun x5 h=>?_;cbv;refine A7 hE h (ih x4 x5) (.refl _) fun r6 h=>?_;cbv;refine A8 hE h (fun _ h=>?_) fun _ h=>?_
   ·cbv;cases h;exact⟨_,_,rfl,⟨rfl,rfl,hO⟩,.e rfl .z,rfl⟩
   cbv;cases h;exact⟨_,rfl,.e rfl (.e2 .z),rfl,hO⟩
  cbv;cases h;exact⟨_,_,rfl,⟨rfl,rfl,hO⟩,.e2 .z,rfl⟩
 ·exact .e rfl (.e2 .z)
 clear hx
 rcases s3 with y7|y8
 ·rintro e l H ⟨rfl,rfl,hO⟩;cbv;refine E1 hE ?_;cbv;refine E1 hE ?_;cbv;refine A8 hE h (fun _ h=>?_) fun _ h=>?_
  ·cbv;cases h;exact hK hO (.refl _)
  cbv;refine E1 hE ?_;cbv;refine E1 hE ?_;cbv;refine A8 hE h (fun _ h=>?_) fun _ h=>?_
  ·cbv;cases h;exact hK hO (.refl _)
  cbv;cases h;exact hK hO (.refl _)
 rintro e l H ⟨rfl,rfl,hO⟩;cbv;cases h;exact hK hO (.refl _)
def cf40 :Cf:=⟨[],[(6,8)],[],[],[],[]⟩
theorem c40 (N aB aC r) (h:Id N aB aC=some r):B6 prog 40 [sr eAh4 aB,sr eAh4 aC] (.bool r):=by
 unfold Id at h
 refine J9 cf40 func40 call40 ntmps40 ?_;intro E H0 K hE hK hO;cbv;refine E1 hE ?_;cbv;refine E1 hE ?_;cbv;refine A8 hE h (fun _ h=>?_) fun _ h=>?_
 ·cbv;cases h;exact hK hO (.refl _)
 cbv;obtain⟨s2,hx,h⟩:=bind_some h;refine F3 cf40 hE K4 (fun s1=>[(0,.v (sr eAh4 aB)),(1,.v (sr eAh4 aC)),fi 5 s1]) (fun s1 H1=>B9 Eq H0 [] H1) (fun x e l H1=>match(generalizing:=false) x with| .inl y=>e= .exit 0∧l=[]∧B9 Eq H0 [] H1| .inr y=>e= .ret∧l=[(4,.b false)]∧B9 Eq H0 [] H1) (by kernel_rfl) ?_ hx ?_ hO ?_
 ·intro s1 H o hO h;clear hx;cbv;refine E1 hE ?_;cbv;refine A8 hE h (fun _ h=>?_) fun _ h=>?_
  ·cbv;refine C7 hE eAh6 h fun x3 h=>?_;cbv;refine C7 hE eAh6 h fun x4 h=>?_;cbv;refine A7 hE h (c34 N N x3 x4) (.refl _) fun r5 h=>?_;cbv;refine A8 hE h (fun _ h=>?_) fun _ h=>?_
   ·cbv;cases h;exact⟨_,_,rfl,⟨rfl,rfl,hO⟩,.b rfl (.z),rfl⟩
   cbv;cases h;exact⟨_,rfl,.e rfl (.e2 .z),rfl,hO⟩
  cbv;cases h;exact⟨_,_,rfl,⟨rfl,rfl,hO⟩,.z,rfl⟩
 ·exact .e rfl (.e2 .z)
 clear hx
 rcases s2 with y6|y7
 ·rintro e l H ⟨rfl,rfl,hO⟩;cbv;cases h;exact hK hO (.refl _)
 rintro e l H ⟨rfl,rfl,hO⟩;cbv;cases h;exact hK hO (.refl _)
def cf76 :Cf:=⟨[4],[],[],[],[],[]⟩
theorem c76 (N cD cE r)(h:DX N cD cE=some r):B6 prog 76 [vi cD,vi cE] ((C2 r)):=by
 unfold DX at h
 refine J9 cf76 func76 call76 ntmps76 ?_;intro E H0 K hE hK hO;cbv;refine D2 hE hO fun b1 H hO=>?_;cbv;refine B2 hE hO 0 rfl rfl fun H hO=>?_;cbv;refine B0 hE hO 0 rfl ?_;cbv;cases h;exact hK hO (.agg (.cons (.refl _) (.cons (.refl _) (.cons (.refl _) (.cons (.refl _) (.cons (.lit _ (D0)) (.refl _)))))))
def cf135 :Cf:=⟨[0],[],[],[],[],[]⟩
theorem c135 (N r)(h:Hr N=some r):B6 prog 135 [] ((W2 r)):=by
 unfold Hr at h
 refine J9 cf135 func135 call135 ntmps135 ?_;intro E H0 K hE hK hO;cbv;refine D2 hE hO fun b1 H hO=>?_;cbv;refine B2 hE hO 0 rfl rfl fun H hO=>?_;cbv;refine B0 hE hO 0 rfl ?_;cbv;cases h;exact hK hO (.agg (.cons (.refl _) (.cons (.lit _ (D0)) (.refl _))))
def cf77 :Cf:=⟨[2],[],[],[],[],[]⟩
theorem c77 (N aN r)(h:N7 N aN=some r):B6 prog 77 [vi aN] ((B7 r)):=by
 unfold N7 at h
 refine J9 cf77 func77 call77 ntmps77 ?_;intro E H0 K hE hK hO;cbv;refine D2 hE hO fun b1 H hO=>?_;cbv;refine A7 hE h (c135 N) (.refl _) fun r2 h=>?_;cbv;refine A7 hE h (c135 N) (.refl _) fun r3 h=>?_;cbv;refine B2 hE hO 0 rfl rfl fun H hO=>?_;cbv;refine B0 hE hO 0 rfl ?_;cbv;cases h;exact hK hO (.agg (.cons (.refl _) (.cons (.sl _ (.lstc (.eq (eAh9 (⟨0,[],0,0,0,0,r2⟩:A0)) (.agg (.cons (.refl _) (.cons (.lit _ (D0)) (.refl _))))) (.lstc (.eq (eAh9 (⟨4,[(⟨0,[],aN,1,0,0,r3⟩:A0)],0,0,0,0,(⟨0,[],0,0,0,(⟨0,0,⟨#[]⟩⟩:B3)⟩:B1)⟩:A0)) (.agg (.cons (.refl _) (.cons (.sl _ (.lstc (.eq (eAh9 (⟨0,[],aN,1,0,0,r3⟩:A0)) (.agg (.cons (.refl _) (.cons (.lit _ (D0)) (.refl _))))) (.lst0))) (.cons (.refl _) (.cons (.refl _) (.cons (.refl _) (.cons (.refl _) (.cons (.refl _) (.cons (.lit _ (D0)) (.refl _))))))))))) (.lst0)))) (.cons (.refl _) (.cons (.refl _) (.cons (.refl _) (.cons (.refl _) (.cons (.refl _) (.cons (.lit _ (D0)) (.refl _))))))))))
def cf78 :Cf:=⟨[6000011],[(3000003,0),(3000003,1),(3000003,2),(3000003,4),(3000003,5),(3000003,7)],[],[2000003],[],[]⟩
theorem c78 (N aV bL r)(h:W5 N aV bL=some r):B6 prog 78 [vi aV,vi bL] (sr eAh5 r):=by
 unfold W5 at h
 refine Cn (T:=TT) cf78 K4 func78 (by rfl) (by kernel_rfl) call78 ntmps78 (by rfl) (by rfl) ?_;intro E H0 K hE hK hF;have hO:B9 Eq H0 [] H0:=.start G3 rfl;cbv;refine Wh hE (f:=eAh5) (l:=([(⟨0,0,0,1,[]⟩:B8),(⟨0,1,1,aV,[]⟩:B8),(⟨0,2,1,bL,[]⟩:B8)]:List B8)) (.lstc (.eq (eAi4 (⟨0,0,0,1,[]⟩:B8)) (.agg (.cons (.refl _) (.cons (.refl _) (.cons (.refl _) (.cons (.refl _) (.cons (.lit _ (D0)) (.refl _)))))))) (.lstc (.eq (eAi4 (⟨0,1,1,aV,[]⟩:B8)) (.agg (.cons (.refl _) (.cons (.refl _) (.cons (.refl _) (.cons (.refl _) (.cons (.lit _ (D0)) (.refl _)))))))) (.lstc (.eq (eAi4 (⟨0,2,1,bL,[]⟩:B8)) (.agg (.cons (.refl _) (.cons (.refl _) (.cons (.refl _) (.cons (.refl _) (.cons (.lit _ (D0)) (.refl _)))))))) (.lst0)))) hO fun q1 H hq1 hO=>?_;cbv;refine A8 hE h (fun _ h=>?_) fun _ h=>?_
 ·cbv;cases h
 cbv;cases h;exact hF q1 _ _ 0 _ _ hO rfl (CS hE hq1) (.refl _)
def cf79 :Cf:=⟨[2],[],[],[],[],[]⟩
theorem c79 (N aL r)(h:P8 N aL=some r):B6 prog 79 [sr eAh4 aL] ((C2 r)):=by
 unfold P8 at h
 refine J9 cf79 func79 call79 ntmps79 ?_;intro E H0 K hE hK hO;cbv;refine D2 hE hO fun b1 H hO=>?_;cbv;refine A7 hE h (c76 N 1 0) (.refl _) fun r2 h=>?_;cbv;refine B2 hE hO 0 rfl rfl fun H hO=>?_;cbv;refine B0 hE hO 0 rfl ?_;cbv;cases h;exact hK hO (.agg (.cons (.refl _) (.cons (.refl _) (.cons (.refl _) (.cons (.refl _) (.cons (.lit _ (E2 ((eAh6 r2).symm) (E2 ((eAh6 (⟨(⟨0,0,0⟩:R0),0,aL⟩:A2)).symm) (D0)))) (.refl _)))))))
def cf24 :Cf:=⟨[1,2],[(3,21),(5,11),(6,9),(7,11),(8,65)],[],[],[],[]⟩
theorem c24 (N r) (h:BM N=some r):B6 prog 24 [] (.bool r):=by
 unfold BM at h
 refine J9 cf24 func24 call24 ntmps24 ?_;intro E H0 K hE hK hO;cbv;refine A7 hE h (c76 N 2 1) (.refl _) fun r1 h=>?_;cbv;refine A7 hE h (c76 N 3 2) (.refl _) fun r2 h=>?_;cbv;refine D2 hE hO fun b3 H hO=>?_;cbv;refine D2 hE hO fun b4 H hO=>?_;cbv;refine B2 hE hO 1 rfl rfl fun H hO=>?_;cbv;refine B2 hE hO 0 rfl rfl fun H hO=>?_;cbv;refine A7 hE h (c77 N 1) (.refl _) fun r5 h=>?_;cbv;refine A7 hE h (c78 N 2 3) (.refl _) fun r6 h=>?_;cbv;refine A7 hE h (c15 N r5 r6) (.refl _) fun r7 h=>?_;cbv;refine B0 hE hO 1 rfl ?_;cbv;refine A8 hE h (fun _ h=>?_) fun _ h=>?_
 ·cbv;cases h;exact hK hO (.refl _)
 cbv;refine C6 hE (g:=fun r8=>(C2 r8)) h (c79 N ([r1])) (.cons (.lit _ (E2 ((eAh6 r1).symm) (D0))) (.refl _)) fun r8 h=>?_;cbv;refine B0 hE hO 1 rfl ?_;cbv;refine B0 hE hO 0 rfl ?_;cbv;refine C6 hE (g:=fun r9=>(C2 r9)) h (c79 N ([r1,r2])) (.cons (.lit _ (E2 ((eAh6 r1).symm) (E2 ((eAh6 r2).symm) (D0)))) (.refl _)) fun r9 h=>?_;cbv;refine B0 hE hO 0 rfl ?_;cbv;refine C6 hE (g:=fun r10=>(C2 r10)) h (c79 N ([r2])) (.cons (.lit _ (E2 ((eAh6 r2).symm) (D0))) (.refl _)) fun r10 h=>?_;cbv;refine C6 hE (g:=fun r11=>.bool r11) h (c40 N r7.1 ([r8,r9,r10])) (.cons (.refl _) (.cons (.lit _ (E2 ((eAh6 r8).symm) (E2 ((eAh6 r9).symm) (E2 ((eAh6 r10).symm) (D0))))) (.refl _))) fun r11 h=>?_;cbv;refine B0 hE hO 1 rfl ?_;cbv;refine B0 hE hO 0 rfl ?_;cbv;refine A8 hE h (fun _ h=>?_) fun _ h=>?_
 ·cbv;cases h;exact hK hO (.refl _)
 cbv;refine A7 hE h (c79 N ([r1,r2])) (.cons (.lit _ (E2 ((eAh6 r1).symm) (E2 ((eAh6 r2).symm) (D0)))) (.refl _)) fun r12 h=>?_;cbv;refine A7 hE h (c29 N N r12) (.refl _) fun r13 h=>?_;cbv;refine A8 hE h (fun _ h=>?_) fun _ h=>?_
 ·cbv;cases h;exact hK hO (.refl _)
 cbv;refine C6 hE (g:=fun r14=>(B7 r14)) h (c77 N 1) (.refl _) fun r14 h=>?_;cbv;refine B0 hE hO 1 rfl ?_;cbv;refine B0 hE hO 0 rfl ?_;cbv;refine C6 hE (g:=fun r15=>(C2 r15)) h (c79 N ([r1,r2])) (.cons (.lit _ (E2 ((eAh6 r1).symm) (E2 ((eAh6 r2).symm) (D0)))) (.refl _)) fun r15 h=>?_;cbv;refine C6 hE (g:=fun r16=>.tup [(Dy r16.1),vi r16.2]) h (c17 N r14 r15) (.refl _) fun r16 h=>?_;cbv;refine C6 hE (g:=fun r17=>(B7 r17)) h (c77 N 1) (.refl _) fun r17 h=>?_;cbv;refine C6 hE (g:=fun r18=>sr eAh5 r18) h (c78 N 2 3) (.refl _) fun r18 h=>?_;cbv;refine C6 hE (g:=fun r19=>.tup [(C2 r19.1),vi r19.2]) h (c16 N r17 r18 r16.1) (.refl _) fun r19 h=>?_;cbv;refine C6 hE (g:=fun r20=>(B7 r20)) h (c77 N 1) (.refl _) fun r20 h=>?_;cbv;refine B0 hE hO 0 rfl ?_;cbv;refine B0 hE hO 1 rfl ?_;cbv;refine C6 hE (g:=fun r21=>(C2 r21)) h (c79 N ([r2,r1])) (.cons (.lit _ (E2 ((eAh6 r2).symm) (E2 ((eAh6 r1).symm) (D0)))) (.refl _)) fun r21 h=>?_;cbv;refine C6 hE (g:=fun r22=>.tup [(Dy r22.1),vi r22.2]) h (c17 N r20 r21) (.refl _) fun r22 h=>?_;cbv;refine B0 hE hO 1 rfl ?_;cbv;refine B0 hE hO 0 rfl ?_;cbv;refine A8 hE h (fun _ h=>?_) fun _ h=>?_
 ·cbv;refine C6 hE (g:=fun r23=>(C2 r23)) h (c79 N ([r1,r2])) (.cons (.lit _ (E2 ((eAh6 r1).symm) (E2 ((eAh6 r2).symm) (D0)))) (.refl _)) fun r23 h=>?_;cbv;refine C6 hE (g:=fun r24=>vi r24) h (c21 N N r19.1 r23) (.refl _) fun r24 h=>?_;cbv;refine E1 hE ?_;cbv;refine A8 hE h (fun _ h=>?_) fun _ h=>?_
  ·cbv;refine C6 hE (g:=fun r25=>(B7 r25)) h (c77 N 1) (.refl _) fun r25 h=>?_;cbv;refine C6 hE (g:=fun r26=>sr eAh5 r26) h (c78 N 2 3) (.refl _) fun r26 h=>?_;cbv;refine B0 hE hO 1 rfl ?_;cbv;refine B0 hE hO 0 rfl ?_;cbv;refine C6 hE (g:=fun r27=>(C2 r27)) h (c79 N ([r1,r2])) (.cons (.lit _ (E2 ((eAh6 r1).symm) (E2 ((eAh6 r2).symm) (D0)))) (.refl _)) fun r27 h=>?_;cbv;refine C6 hE (g:=fun r28=>vi r28) h (c31 N r25 r26 r27) (.refl _) fun r28 h=>?_;cbv;refine A8 hE h (fun _ h=>?_) fun _ h=>?_
   ·cbv;refine C6 hE (g:=fun r29=>(B7 r29)) h (c77 N 1) (.refl _) fun r29 h=>?_;cbv;refine C6 hE (g:=fun r30=>sr eAh5 r30) h (c78 N 2 3) (.refl _) fun r30 h=>?_;cbv;refine EA hE (f:=eAh5) MS h fun l31 t32 h=>?_;cbv;refine B0 hE hO 1 rfl ?_;cbv;refine B0 hE hO 0 rfl ?_;cbv;refine C6 hE (g:=fun r33=>(C2 r33)) h (c79 N ([r1,r2])) (.cons (.lit _ (E2 ((eAh6 r1).symm) (E2 ((eAh6 r2).symm) (D0)))) (.refl _)) fun r33 h=>?_;cbv;refine C6 hE (g:=fun r34=>vi r34) h (c31 N r29 l31 r33) (.cons (.refl _) (.cons (.ro _ _) (.refl _))) fun r34 h=>?_;cbv;refine A8 hE h (fun _ h=>?_) fun _ h=>?_
    ·cbv;refine C6 hE (g:=fun r35=>(B7 r35)) h (c77 N 0) (.refl _) fun r35 h=>?_;cbv;refine C6 hE (g:=fun r36=>sr eAh5 r36) h (c78 N 2 3) (.refl _) fun r36 h=>?_;cbv;refine B0 hE hO 1 rfl ?_;cbv;refine B0 hE hO 0 rfl ?_;cbv;refine C6 hE (g:=fun r37=>(C2 r37)) h (c79 N ([r1,r2])) (.cons (.lit _ (E2 ((eAh6 r1).symm) (E2 ((eAh6 r2).symm) (D0)))) (.refl _)) fun r37 h=>?_;cbv;refine C6 hE (g:=fun r38=>vi r38) h (c31 N r35 r36 r37) (.refl _) fun r38 h=>?_;cbv;refine A8 hE h (fun _ h=>?_) fun _ h=>?_
     ·cbv;refine C6 hE (g:=fun r39=>(B7 r39)) h (c77 N 1) (.refl _) fun r39 h=>?_;cbv;refine C6 hE (g:=fun r40=>sr eAh5 r40) h (c78 N 2 3) (.refl _) fun r40 h=>?_;cbv;refine B0 hE hO 0 rfl ?_;cbv;refine B0 hE hO 1 rfl ?_;cbv;refine C6 hE (g:=fun r41=>(C2 r41)) h (c79 N ([r2,r1])) (.cons (.lit _ (E2 ((eAh6 r2).symm) (E2 ((eAh6 r1).symm) (D0)))) (.refl _)) fun r41 h=>?_;cbv;refine C6 hE (g:=fun r42=>vi r42) h (c31 N r39 r40 r41) (.refl _) fun r42 h=>?_;cbv;refine A8 hE h (fun _ h=>?_) fun _ h=>?_
      ·cbv;refine A7 hE h (c28 N r16.1 r22.1) (.refl _) fun r43 h=>?_;cbv;cases h;exact hK hO (.refl _)
      cbv;cases h;exact hK hO (.refl _)
     cbv;cases h;exact hK hO (.refl _)
    cbv;cases h;exact hK hO (.refl _)
   cbv;cases h;exact hK hO (.refl _)
  cbv;cases h;exact hK hO (.refl _)
 cbv;cases h;exact hK hO (.refl _)
def cf136 :Cf:=⟨[6],[],[],[],[],[]⟩
theorem c136 (N aA aG cF r)(h:Cw N aA aG cF=some r):B6 prog 136 [(B7 aA),(C2 aG),vi cF] ((B7 r)):=by
 unfold Cw at h
 refine J9 cf136 func136 call136 ntmps136 ?_;intro E H0 K hE hK hO;cbv;refine D2 hE hO fun b1 H hO=>?_;cbv;refine A8 hE h (fun _ h=>?_) fun _ h=>?_
 ·cbv;refine C7 hE eAh9 h fun x2 h=>?_;cbv;refine B2 hE hO 0 rfl rfl fun H hO=>?_;cbv;refine B0 hE hO 0 rfl ?_;cbv;cases h;exact hK hO (.refl _)
 cbv;refine A8 hE h (fun _ h=>?_) fun _ h=>?_
 ·cbv;refine C7 hE eAh9 h fun x3 h=>?_;cbv;refine B2 hE hO 0 rfl rfl fun H hO=>?_;cbv;refine B0 hE hO 0 rfl ?_;cbv;cases h;exact hK hO (.refl _)
 cbv;refine C7 hE eAh9 h fun x4 h=>?_;cbv;refine B2 hE hO 0 rfl rfl fun H hO=>?_;cbv;refine B0 hE hO 0 rfl ?_;cbv;cases h;exact hK hO (.refl _)
def cf138 :Cf:=⟨[],[(4,7)],[],[],[],[]⟩
theorem c138 (N aA r)(h:Aq N aA=some r):B6 prog 138 [(B7 aA)] (.tup [vi r.1,vi r.2]):=by
 unfold Aq at h
 refine J9 cf138 func138 call138 ntmps138 ?_;intro E H0 K hE hK hO;cbv;refine A8 hE h (fun _ h=>?_) fun _ h=>?_
 ·cbv;cases h;exact hK hO (.refl _)
 cbv;refine A8 hE h (fun _ h=>?_) fun _ h=>?_
 ·cbv;refine E1 hE ?_;cbv;refine E1 hE ?_;cbv;cases h;exact hK hO (.refl _)
 cbv;refine A8 hE h (fun _ h=>?_) fun _ h=>?_
 ·cbv;cases h;exact hK hO (.refl _)
 cbv;cases h;exact hK hO (.refl _)
def cf83 :Cf:=⟨[],[(11,9)],[],[],[],[]⟩
theorem c83 (N:Nat):∀n aA aG r,BD N n aA aG=some r→B6 prog 83 [(B7 aA),(C2 aG)] (vi r):=by
 intro n
 induction n with
 |zero=>intro aA aG r h;cases h
 |succ n ih=>
 intro aA aG r h
 unfold BD at h
 refine J9 cf83 func83 call83 ntmps83 ?_;intro E H0 K hE hK hO;cbv;refine A8 hE h (fun _ h=>?_) fun _ h=>?_
 ·cbv;cases h;exact hK hO (.refl _)
 cbv;refine E1 hE ?_;cbv;refine A8 hE h (fun _ h=>?_) fun _ h=>?_
 ·cbv;cases h;exact hK hO (.refl _)
 cbv;refine A7 hE h (c138 N aA) (.refl _) fun r1 h=>?_;cbv;refine E1 hE ?_;cbv;refine E1 hE ?_;cbv;refine A8 hE h (fun _ h=>?_) fun _ h=>?_
 ·cbv;cases h;exact hK hO (.refl _)
 cbv;obtain⟨s3,hx,h⟩:=bind_some h;refine F3 cf83 hE K4 (fun s2=>[(2,.v (.eref (D6 aA) 0)),(3,.v (.eref (K3 aG) 0)),fi 7 s2]) (fun s2 H1=>B9 Eq H0 [] H1) (fun x e l H1=>match(generalizing:=false) x with| .inl y=>e= .exit 0∧l=[]∧B9 Eq H0 [] H1| .inr y=>e= .ret∧l=[fi 4 y]∧B9 Eq H0 [] H1) (by kernel_rfl) ?_ hx ?_ hO ?_
 ·intro s2 H o hO h;clear hx;cbv;refine E1 hE ?_;cbv;refine A8 hE h (fun _ h=>?_) fun _ h=>?_
  ·cbv;refine C6 hE (g:=fun r4=>(B7 r4)) h (c136 N aA aG s2) (.refl _) fun r4 h=>?_;cbv;refine C7 hE eAh6 h fun x5 h=>?_;cbv;refine A7 hE h (ih r4 x5) (.refl _) fun r6 h=>?_;cbv;refine A8 hE h (fun _ h=>?_) fun _ h=>?_
   ·cbv;cases h;exact⟨_,_,rfl,⟨rfl,rfl,hO⟩,.e rfl .z,rfl⟩
   cbv;cases h;exact⟨_,rfl,.e rfl (.e2 .z),rfl,hO⟩
  cbv;cases h;exact⟨_,_,rfl,⟨rfl,rfl,hO⟩,.z,rfl⟩
 ·exact .e rfl (.e2 .z)
 clear hx
 rcases s3 with y7|y8
 ·rintro e l H ⟨rfl,rfl,hO⟩;cbv;cases h;exact hK hO (.refl _)
 rintro e l H ⟨rfl,rfl,hO⟩;cbv;cases h;exact hK hO (.refl _)
theorem c27 (N aA aG r)(h:BE N aA aG=some r):B6 prog 27 [(B7 aA),(C2 aG)] (vi r):=by
 unfold BE at h
 refine J9 cf0 func27 call27 ntmps27 ?_;intro E H0 K hE hK hO;cbv;refine A7 hE h (c41 N aA) (.refl _) fun r1 h=>?_;cbv;refine A8 hE h (fun _ h=>?_) fun _ h=>?_
 ·cbv;cases h;exact hK hO (.refl _)
 cbv;refine A7 hE h (c30 N N aG) (.refl _) fun r2 h=>?_;cbv;refine A8 hE h (fun _ h=>?_) fun _ h=>?_
 ·cbv;cases h;exact hK hO (.refl _)
 cbv;refine A7 hE h (c83 N N aA aG) (.refl _) fun r3 h=>?_;cbv;cases h;exact hK hO (.refl _)
theorem c110 (N aZ r)(h:BV N aZ=some r):B6 prog 110 [(BR aZ)] (.bool r):=by
 unfold BV at h
 refine J9 cf0 func110 call110 ntmps110 ?_;intro E H0 K hE hK hO;cbv;refine A7 hE h (c105 N (⟨aZ.Source,aZ.Seq,0,aZ.Time,[]⟩:B8)) (.cons (.agg (.cons (.refl _) (.cons (.refl _) (.cons (.refl _) (.cons (.refl _) (.cons (.lit _ (D0)) (.refl _))))))) (.refl _)) fun r1 h=>?_;cbv;cases h;exact hK hO (.refl _)
def cf48 :Cf:=⟨[],[(11,12)],[],[],[],[]⟩
theorem c48 (N aK r) (h:Da N aK=some r):B6 prog 48 [(Dy aK)] (vi r):=by
 unfold Da at h
 refine J9 cf48 func48 call48 ntmps48 ?_;intro E H0 K hE hK hO;cbv;refine E1 hE ?_;cbv;refine A8 hE h (fun _ h=>?_) fun _ h=>?_
 ·cbv;cases h;exact hK hO (.refl _)
 cbv;refine E1 hE ?_;cbv;refine A8 hE h (fun _ h=>?_) fun _ h=>?_
 ·cbv;cases h;exact hK hO (.refl _)
 cbv;obtain⟨s2,hx,h⟩:=bind_some h;refine F3 cf48 hE K4 (fun s1=>[(1,.v (.eref (FP aK) 0)),fi 3 s1]) (fun s1 H1=>B9 Eq H0 [] H1) (fun x e l H1=>match(generalizing:=false) x with| .inl y=>e= .exit 0∧l=[]∧B9 Eq H0 [] H1| .inr y=>e= .ret∧l=[fi 2 y]∧B9 Eq H0 [] H1) (by kernel_rfl) ?_ hx ?_ hO ?_
 ·intro s1 H o hO h;clear hx;cbv;refine E1 hE ?_;cbv;refine A8 hE h (fun _ h=>?_) fun _ h=>?_
  ·cbv;refine C7 hE eAh7 h fun x3 h=>?_;cbv;refine A8 hE h (fun _ h=>?_) fun _ h=>?_
   ·cbv;cases h;exact⟨_,_,rfl,⟨rfl,rfl,hO⟩,.e rfl .z,rfl⟩
   cbv;refine A7 hE h (c110 N x3.Ref) (.refl _) fun r4 h=>?_;cbv;refine A8 hE h (fun _ h=>?_) fun _ h=>?_
   ·cbv;cases h;exact⟨_,_,rfl,⟨rfl,rfl,hO⟩,.e rfl .z,rfl⟩
   cbv;refine A8 hE h (fun _ h=>?_) fun _ h=>?_
   ·cbv;refine C7 hE eAh7 h fun x5 h=>?_;cbv;refine A7 hE h (c106 N x5.Ref x3.Ref) (.refl _) fun r6 h=>?_;cbv;refine A8 hE h (fun _ h=>?_) fun _ h=>?_
    ·cbv;cases h;exact⟨_,_,rfl,⟨rfl,rfl,hO⟩,.e rfl .z,rfl⟩
    cbv;cases h;exact⟨_,rfl,.e2 .z,rfl,hO⟩
   cbv;cases h;exact⟨_,rfl,.e2 .z,rfl,hO⟩
  cbv;cases h;exact⟨_,_,rfl,⟨rfl,rfl,hO⟩,.z,rfl⟩
 ·exact .e2 .z
 clear hx
 rcases s2 with y7|y8
 ·rintro e l H ⟨rfl,rfl,hO⟩;cbv;cases h;exact hK hO (.refl _)
 rintro e l H ⟨rfl,rfl,hO⟩;cbv;cases h;exact hK hO (.refl _)
def cf80 :Cf:=⟨[],[(6,14),(8,14)],[],[],[],[]⟩
theorem c80 (N aL r) (h:AJ N aL=some r):B6 prog 80 [sr eAh3 aL] (.tup [sr eAh3 r.1,.bool r.2]):=by
 unfold AJ at h
 refine J9 cf80 func80 call80 ntmps80 ?_;intro E H0 K hE hK hO;cbv;replace hO:=hO.tl0 (t:=.nil) rfl;obtain⟨s2,hx,h⟩:=bind_some h;refine F3 cf80 hE K4 (fun s1=>[(0,.v (sr eAh3 aL)),(4,.v (sr eAh3 s1.1)),fi 5 s1.2]) (fun s1 H1=>B9 Eq H0 [.tl .nil] H1) (fun x e l H1=>match(generalizing:=false) x with| .inl y=>e= .exit 0∧l=[(4,.v (sr eAh3 y))]∧B9 Eq H0 [.tl .nil] H1| .inr y=>e= .ret∧l=[(2,.v (.sl [] .nil)),(3,.b false)]∧B9 Eq H0 [.tl .nil] H1) (by kernel_rfl) ?_ hx ?_ hO ?_
 ·intro s1 H o hO h;clear hx;cbv;refine E1 hE ?_;cbv;refine A8 hE h (fun _ h=>?_) fun _ h=>?_
  ·cbv;refine E1 hE ?_;cbv;obtain⟨s4,hx,h⟩:=bind_some h;refine F3 cf80 hE K4 (fun s3=>[(0,.v (sr eAh3 aL)),(4,.v (sr eAh3 s1.1)),fi 5 s1.2,fi 6 s3]) (fun s3 H1=>B9 Eq H0 [.tl .nil] H1) (fun x e l H1=>e= .exit 2∧l=[(0,.v (sr eAh3 aL)),(4,.v (sr eAh3 s1.1)),fi 5 s1.2,fi 6 x]∧B9 Eq H0 [.tl .nil] H1) (by kernel_rfl) ?_ hx ?_ hO ?_
   ·intro s3 H o hO h;clear hx;cbv;refine A8 hE h (fun _ h=>?_) fun _ h=>?_
    ·cbv;refine C7 hE eAh7 h fun x5 h=>?_;cbv;refine C7 hE eAh7 h fun x6 h=>?_;cbv;refine A7 hE h (c90 N x5.Ref x6.Ref) (.refl _) fun r7 h=>?_;cbv;refine A8 hE h (fun _ h=>?_) fun _ h=>?_
     ·cbv;cases h;exact⟨_,rfl,.e4 .z,rfl,hO⟩
     cbv;cases h;exact⟨_,_,rfl,⟨rfl,rfl,hO⟩,.e4 .z,rfl⟩
    cbv;cases h;exact⟨_,_,rfl,⟨rfl,rfl,hO⟩,.e4 .z,rfl⟩
   ·exact .e4 .z
   clear hx;rintro e l H ⟨rfl,rfl,hO⟩;cbv;refine A8 hE h (fun _ h=>?_) fun _ h=>?_
   ·cbv;refine C7 hE eAh7 h fun x8 h=>?_;cbv;refine C7 hE eAh7 h fun x9 h=>?_;cbv;refine A8 hE h (fun _ h=>?_) fun _ h=>?_
    ·cbv;cases h;exact⟨_,_,rfl,⟨rfl,rfl,hO⟩,.e rfl (.b rfl (.z)),rfl⟩
    cbv;refine EA hE (f:=eAh3) G1 h fun l10 t11 h=>?_;cbv;refine Aw (f:=eAh3) hE G1 (by decide) (hO.tl0 (t:=.nil) rfl) 0 rfl trivial (l:=[]) (m:=l10) (.lst0) (.refl _) h fun l13 t12 H hO ht12 h=>?_;cbv;refine C7 hE eAh7 h fun x14 h=>?_;cbv;refine Aw (f:=eAh3) hE G1 (by decide) hO 0 rfl ht12 (l:=l13) (m:=[x14]) (.refl _) (.lstc (.eq (eAh7 x14) (.refl _)) (.lst0)) h fun l16 t15 H hO ht15 h=>?_;cbv;refine EA hE (f:=eAh3) G1 h fun l17 t18 h=>?_;cbv;refine Aw (f:=eAh3) hE G1 (by decide) hO 0 rfl ht15 (l:=l16) (m:=l17) (.refl _) (.refl _) h fun l20 t19 H hO ht19 h=>?_;cbv;cases h;exact⟨_,rfl,.e rfl (.v (.ro _ _) (.e rfl (.z))),rfl,hO.tail⟩
   cbv;refine EA hE (f:=eAh3) G1 h fun l21 t22 h=>?_;cbv;refine Aw (f:=eAh3) hE G1 (by decide) (hO.tl0 (t:=.nil) rfl) 0 rfl trivial (l:=[]) (m:=l21) (.lst0) (.refl _) h fun l24 t23 H hO ht23 h=>?_;cbv;refine C7 hE eAh7 h fun x25 h=>?_;cbv;refine Aw (f:=eAh3) hE G1 (by decide) hO 0 rfl ht23 (l:=l24) (m:=[x25]) (.refl _) (.lstc (.eq (eAh7 x25) (.refl _)) (.lst0)) h fun l27 t26 H hO ht26 h=>?_;cbv;refine EA hE (f:=eAh3) G1 h fun l28 t29 h=>?_;cbv;refine Aw (f:=eAh3) hE G1 (by decide) hO 0 rfl ht26 (l:=l27) (m:=l28) (.refl _) (.refl _) h fun l31 t30 H hO ht30 h=>?_;cbv;cases h;exact⟨_,rfl,.e rfl (.v (.ro _ _) (.e rfl (.z))),rfl,hO.tail⟩
  cbv;cases h;exact⟨_,_,rfl,⟨rfl,rfl,hO⟩,.e rfl .z,rfl⟩
 ·exact .e rfl (.v (.lit _ (D0)) (.e rfl (.z)))
 clear hx
 rcases s2 with y32|y33
 ·rintro e l H ⟨rfl,rfl,hO⟩;cbv;cases h;exact hK hO (.refl _)
 rintro e l H ⟨rfl,rfl,hO⟩;cbv;cases h;exact hK hO (.tup (.cons (.lit _ (D0)) (.refl _)))
def cf81 :Cf:=⟨[],[(7,11)],[],[],[],[]⟩
theorem c81 (N:Nat):∀n aA aG r,Y1 N n aA aG=some r→B6 prog 81 [(B7 aA),(C2 aG)] (sr eAh3 r):=by
 intro n
 induction n with
 |zero=>intro aA aG r h;cases h
 |succ n ih=>
 intro aA aG r h
 unfold Y1 at h
 refine J9 cf81 func81 call81 ntmps81 ?_;intro E H0 K hE hK hO;cbv;refine A8 hE h (fun _ h=>?_) fun _ h=>?_
 ·cbv;cases h;exact hK hO (.lit _ (E2 ((eAh7 (⟨aA.Var,aG.Ref⟩:A4)).symm) (D0)))
 cbv;replace hO:=hO.tl0 (t:=.nil) rfl;obtain⟨s3,hx,h⟩:=bind_some h;refine M9 cf81 hE K4 (γ:=E8) (fun s1 g=>[(2,.v (.eref (D6 aA) 0)),(3,.v (.eref (K3 aG) 0)),(5,.v (.sl (lst eAh3 s1.1) g)),fi 6 s1.2]) (fun s1 g H1=>Bz g∧B9 Eq H0 [.tl g] H1) (fun x e l H1=>∃u1:E8,Bz u1∧e= .exit 0∧l=[(5,.v (.sl (lst eAh3 x) u1))]∧B9 Eq H0 [.tl u1] H1) (by kernel_rfl) ?_ .nil hx ?_ ?_ ?_
 ·rintro s1 t2 H o ⟨ht2,hO⟩ h;clear hx;cbv;refine E1 hE ?_;cbv;refine A8 hE h (fun _ h=>?_) fun _ h=>?_
  ·cbv;refine C6 hE (g:=fun r4=>(B7 r4)) h (c136 N aA aG s1.2) (.refl _) fun r4 h=>?_;cbv;refine C7 hE eAh6 h fun x5 h=>?_;cbv;refine C6 hE (g:=fun r6=>sr eAh3 r6) h (ih r4 x5) (.refl _) fun r6 h=>?_;cbv;refine Aw (f:=eAh3) hE G1 (by decide) hO 0 rfl ht2 (l:=s1.1) (m:=r6) (.refl _) (.refl _) h fun l8 t7 H hO ht7 h=>?_;cbv;cases h;exact⟨_,t7,rfl,.e4 .z,rfl,ht7,hO⟩
  cbv;cases h;exact⟨_,_,rfl,⟨t2,ht2,rfl,rfl,hO⟩,.e rfl .z,rfl⟩
 ·exact .e2 (.v (.slt _ (.lst0)) (.e rfl (.z)))
 ·exact⟨trivial,hO⟩
 clear hx;rintro e l H ⟨t9,ht9,rfl,rfl,hO⟩;cbv;cases h;exact hK hO (.ro _ _)
end Go.Ab
