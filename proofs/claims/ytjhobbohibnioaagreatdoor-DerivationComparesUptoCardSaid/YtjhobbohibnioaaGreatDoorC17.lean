/- GVCo8 -/
import Derived.Test.YtjhobbohibnioaaGreatDoorC16
set_option linter.all false
open Go.Ab.Ar (lst)
namespace Go.Ab
open Go.RowKit Go.Proofs Go.Proofs.Tryz I6
variable [Ar][I6]
set_option maxRecDepth 100000
theorem c130 (N:Nat) (bP:List C0) (aR:Int) (aU:V) (aT:C0→C0→Option Int) (bL:∀y1 y2 q,aT y1 y2=some q→Q6 prog aU [(V9 y1),(V9 y2)] (vi q)) (r:(List C0)) (h:P3 N bP aR aT=some r):Pi prog 130 (fun q=>[.own q.id q.lo q.n,vi aR,aU]) 4 (lst eZl bP) (lst eZl r):=by
 unfold P3 at h
 refine ID (T:=TT) (m:=3) cf0 N4 func130 (by rfl) (by kernel_rfl) call130 ntmps130 (by rfl) (fun _=>rfl) (by rfl) ?_;intro E H0 q0 K hE hq0 hO hK;cbv;obtain⟨s3,hx,h⟩:=bind_some h;refine Q7 cf0 hE N4 (γ:=(Vu q0)) (fun s1 g=>[(0,.v (.own g.id g.lo g.n)),fi 1 aR,(2,.v (aU)),fi 6 20,fi 7 s1.1,fi 8 s1.2.1]) (fun s1 g H1=>T7 g (Ar.len s1.2.2)∧B7 Eq (upd H0 q0.id none) [ob g 4 eZl s1.2.2] H1) (fun x e l H1=>∃u1:(Vu q0),T7 u1 (Ar.len x.2)∧e= .exit 0∧l=[(0,.v (.own u1.id u1.lo u1.n)),fi 1 aR,(2,.v (aU)),fi 6 20,fi 7 x.1]∧B7 Eq (upd H0 q0.id none) [ob u1 4 eZl x.2] H1) (by kernel_rfl) ?_ q0 hx ?_ ?_ ?_
 ·rintro s1 q2 H o ⟨hq2,hO⟩ h;clear hx;cbv;refine B0 hE h (fun _ h=>?_) fun _ h=>?_
  ·cbv;refine Jz hE hO hq2 0 rfl h (c172 N s1.2.2 s1.1 s1.2.1 aU aT bL) (.refl _) fun l4 H hq2 hO h=>?_;cbv;cases h;exact⟨_,q2,rfl,.e2 (.e4 .z),rfl,hq2,hO⟩
  cbv;cases h;exact⟨_,_,rfl,⟨q2,hq2,rfl,rfl,hO⟩,.e rfl (.e4 .z),rfl⟩
 ·exact .e2 (.e4 .z)
 ·exact⟨hq0,hO⟩
 clear hx;rintro e l H ⟨q5,hq5,rfl,rfl,hO⟩;cbv;refine Jz hE hO hq5 0 rfl h (c172 N s3.2 s3.1 aR aU aT bL) (.refl _) fun l6 H hq5 hO h=>?_;cbv;obtain⟨s8,hx,h⟩:=bind_some h;refine K1 cf0 hE N4 (fun s7=>[(0,.v (.own q5.id q5.lo q5.n)),fi 1 aR,(2,.v (aU)),fi 6 20]) (fun s7 H1=>B7 Eq (upd H0 q0.id none) [ob q5 4 eZl l6] H1) (fun x e l H1=>e= .exit 2∧l=[(0,.v (.own q5.id q5.lo q5.n))]∧B7 Eq (upd H0 q0.id none) [ob q5 4 eZl l6] H1) (by kernel_rfl) ?_ hx ?_ hO ?_
 ·intro s7 H o hO h;clear hx;cbv;refine B0 hE h (fun _ h=>?_) fun _ h=>?_
  ·cbv;cases h
  cbv;cases h;exact⟨_,_,rfl,⟨rfl,rfl,hO⟩,.e rfl .z,rfl⟩
 ·exact .e4 .z
 clear hx;rintro e l H ⟨rfl,rfl,hO⟩;cbv;cases h;obtain⟨q5,rfl⟩:=q5;exact hK _ 0 _ hq5 rfl hO
theorem c63 (N:Nat)(aC:List C0)(aU:V)(aT:C0→C0→Option Int)(bL:∀y1 y2 q,aT y1 y2=some q→Q6 prog aU [(V9 y1),(V9 y2)] (vi q))(r:(List C0))(h:J7 N aC aT=some r):Pi prog 63 (fun q=>[.own q.id q.lo q.n,aU]) 4 (lst eZl aC) (lst eZl r):=by
 unfold J7 at h
 refine ID (T:=TT) (m:=2) cf0 N4 func63 (by rfl) (by kernel_rfl) call63 ntmps63 (by rfl) (fun _=>rfl) (by rfl) ?_;intro E H0 q0 K hE hq0 hO hK;cbv;refine Kp hE hq0 ?_;cbv;refine Jz hE hO hq0 0 rfl h (c130 N aC (Ar.len aC) aU aT bL) (.refl _) fun l1 H hq0 hO h=>?_;cbv;cases h;exact hK _ 0 _ hq0 rfl hO
theorem c65 (N aB aD r)(h:Bx N aB aD=some r):B8 prog 65 [(Bn aB),(Bn aD)] (vi r):=by
 unfold Bx at h
 refine N3 cf0 func65 call65 ntmps65 ?_;intro E H0 K hE hK hO;cbv;refine A8 hE h (c72 N (⟨aB.Source,aB.Seq,0,aB.Time,[]⟩:B5) (⟨aD.Source,aD.Seq,0,aD.Time,[]⟩:B5)) (.cons (.agg (.cons (.refl _) (.cons (.refl _) (.cons (.refl _) (.cons (.refl _) (.cons (.lit _ (C1)) (.refl _))))))) (.cons (.agg (.cons (.refl _) (.cons (.refl _) (.cons (.refl _) (.cons (.refl _) (.cons (.lit _ (C1)) (.refl _))))))) (.refl _))) fun r1 h=>?_;cbv;cases h;exact hK hO (.refl _)
theorem c64 (N aB aD r)(h:V3 N aB aD=some r):B8 prog 64 [(V9 aB),(V9 aD)] (vi r):=by
 unfold V3 at h
 refine N3 cf0 func64 call64 ntmps64 ?_;intro E H0 K hE hK hO;cbv;refine A8 hE h (c65 N aB.Ref aD.Ref) (.refl _) fun r1 h=>?_;cbv;cases h;exact hK hO (.refl _)
def cfo62 :Cf:=⟨[7,6000004,6000005,6000017],[(5,10),(10,12)],[],[],[],[]⟩
theorem o62 (N:Nat):∀n aA aI r,R5 N n aA aI=some r→Mq prog 62 [(C4 aA),(C2 aI)] 4 (lst eZl r):=by
 intro n
 induction n with
 |zero=>intro aA aI r h;cases h
 |succ n ih=>
 intro aA aI r h
 unfold R5 at h
 intro H0;refine Gl (T:=TT) (F:=H0) cfo62 N4 func62 (by rfl) (by kernel_rfl) call62 ntmps62 (by rfl) (by rfl) ?_;intro E K hE hK hN;have hO:B7 Eq H0 [] H0:=.start F5 rfl;cbv;refine Qe hE (f:=eZl) hO fun q1 H hq1 hO=>?_;cbv;refine B0 hE h (fun _ h=>?_) fun _ h=>?_
 ·cbv;refine TZ hE (f:=eZl) (l:=([(⟨aA.Var,aI.Ref⟩:C0)]:List C0)) (.lstc (.eq (eZs (⟨aA.Var,aI.Ref⟩:C0)) (.refl _)) (.lst0)) hO fun q2 H hq2 hO=>?_;cbv;cases h;exact hK q2 _ _ (AO hE hq2) (hO)
 cbv;refine B0 hE h (fun _ h=>?_) fun _ h=>?_
 ·cbv;refine D1 hE eZp h fun x3 h=>?_;cbv;refine D1 hE eZk h fun x4 h=>?_;cbv;refine JA hE (f:=eZl) h (ih x3 x4) (.refl _) hO fun l5 q6 H hq6 hO h=>?_;cbv;cases h;exact hK q6 _ _ (AO hE hq6) (hO)
 cbv;refine Qe hE (f:=eZl) hO fun q7 H hq7 hO=>?_;cbv;refine F3 hE ?_;cbv;obtain⟨s10,hx,h⟩:=bind_some h;refine Q7 cfo62 hE N4 (γ:=OG) (fun s8 g=>[(2,.v (.eref (C7 aA) 0)),(5,.v (.own g.id g.lo g.n)),(32,.v (sr eZi aI.Kids)),fi 33 (Ar.len aI.Kids),fi 34 s8.1]) (fun s8 g H1=>T7 g (Ar.len s8.2)∧B7 Eq H0 [ob g 4 eZl s8.2,ob q1 4 eZl ([]:List C0)] H1) (fun x e l H1=>∃u1:OG,T7 u1 (Ar.len x)∧e= .exit 1∧l=[(5,.v (.own u1.id u1.lo u1.n))]∧B7 Eq H0 [ob u1 4 eZl x,ob q1 4 eZl ([]:List C0)] H1) (by kernel_rfl) ?_ q7 hx ?_ ?_ ?_
 ·rintro s8 q9 H o ⟨hq9,hO⟩ h;clear hx;cbv;refine B0 hE h (fun _ h=>?_) fun _ h=>?_
  ·cbv;refine D1 hE eZk h fun x11 h=>?_;cbv;refine C6 hE hO fun b12 H hO=>?_;cbv;refine A9 hE hO 0 rfl rfl fun H hO=>?_;cbv;refine F3 hE ?_;cbv;refine Jy hE h fun h=>?_;cbv;refine D1 hE eZp h fun x13 h=>?_;cbv;refine A7 hE hO 0 rfl ?_;cbv;refine C9 hE (g:=fun r14=>sr eZl r14) h (c62 N n x13 x11) (.refl _) fun r14 h=>?_;cbv;refine MP (f:=eZl) hE BO (by decide) hO hq9 1 rfl (m:=r14) (Il (f:=eZl) hE BO (.refl _)) h fun l16 q15 H hq15 hO h=>?_;cbv;cases h;exact⟨_,q15,rfl,.e rfl (.e4 .z),rfl,hq15,hO.tail⟩
  cbv;cases h;exact⟨_,_,rfl,⟨q9,hq9,rfl,rfl,hO⟩,.e rfl .z,rfl⟩
 ·exact .e rfl (.e4 .z)
 ·exact⟨hq7,hO⟩
 clear hx;rintro e l H ⟨q17,hq17,rfl,rfl,hO⟩;cbv;cases h;exact hK q17 _ _ (AO hE hq17) (hO)
def cf17 :Cf:=⟨[4],[(9,11)],[],[],[(42,7)],[]⟩
theorem c17 (N aA aI r) (h:Z1 N aA aI=some r):B8 prog 17 [(C4 aA),(C2 aI)] (.tup [(Ee r.1),vi r.2]):=by
 unfold Z1 at h
 refine N3 cf17 func17 call17 ntmps17 ?_;intro E H0 K hE hK hO;cbv;refine C6 hE hO fun b1 H hO=>?_;cbv;refine A8 hE h (c26 N aA aI) (.refl _) fun r2 h=>?_;cbv;refine B0 hE h (fun _ h=>?_) fun _ h=>?_
 ·cbv;refine A9 hE hO 0 rfl rfl fun H hO=>?_;cbv;refine A7 hE hO 0 rfl ?_;cbv;cases h;exact hK hO (.tup (.cons (.agg (.cons (.lit _ (C1)) (.refl _))) (.refl _)))
 cbv;refine JA hE (f:=eZl) h (o62 N N aA aI) (.refl _) hO fun l3 q4 H hq4 hO h=>?_;cbv;refine Jz hE hO hq4 0 rfl h (fun l5 hx=>c63 N l3 (.func (.func 64) [] []) (fun y1 y2=>V3 N y1 y2) (fun y1 y2 r hx=>B8.value (F:=[]) (C:=[]) (c64 N y1 y2 r hx)) l5 hx) (.refl _) fun l5 H hq4 hO h=>?_;cbv;obtain⟨s7,hx,h⟩:=bind_some h;refine K1 cf17 hE N4 (fun s6=>[(4,.v (.ref b1 0)),(7,.v (.own q4.id q4.lo q4.n)),fi 8 s6]) (fun s6 H1=>B7 Eq H0 [ob q4 4 eZl l5,cb b1 [.sl [] .nil]] H1) (fun x e l H1=>match(generalizing:=false) x with| .inl y=>e= .exit 0∧l=[(4,.v (.ref b1 0)),(7,.v (.own q4.id q4.lo q4.n))]∧B7 Eq H0 [ob q4 4 eZl l5,cb b1 [.sl [] .nil]] H1| .inr y=>e= .ret∧l=[(4,.v (.ref b1 0)),fi 5 7]∧B7 Eq H0 [ob q4 4 eZl l5,cb b1 [.sl [] .nil]] H1) (by kernel_rfl) ?_ hx ?_ hO ?_
 ·intro s6 H o hO h;clear hx;cbv;refine Kp hE hq4 ?_;cbv;refine B0 hE h (fun _ h=>?_) fun _ h=>?_
  ·cbv;refine Q4 hE hO hq4 0 rfl h fun h=>?_;cbv;refine U9 hE eZs hO hq4 0 rfl h fun x8 h=>?_;cbv;refine Q4 hE hO hq4 0 rfl h fun h=>?_;cbv;refine U9 hE eZs hO hq4 0 rfl h fun x9 h=>?_;cbv;refine B0 hE h (fun _ h=>?_) fun _ h=>?_
   ·cbv;refine A9 hE hO 1 rfl rfl fun H hO=>?_;cbv;cases h;exact⟨_,_,rfl,⟨rfl,rfl,hO⟩,.e2 .z,rfl⟩
   cbv;cases h;exact⟨_,rfl,.e rfl (.e2 .z),rfl,hO⟩
  cbv;cases h;exact⟨_,_,rfl,⟨rfl,rfl,hO⟩,.e2 .z,rfl⟩
 ·exact .e rfl (.e2 .z)
 clear hx
 rcases s7 with y10|y12
 ·rintro e l H ⟨rfl,rfl,hO⟩;cbv;refine XF hE hO hq4 0 rfl fun H hO=>?_;cbv;refine A8 hE h (c59 N (⟨l5⟩:Aw)) (.refl _) fun r11 h=>?_;cbv;refine B0 hE h (fun _ h=>?_) fun _ h=>?_
  ·cbv;refine A9 hE hO 0 rfl rfl fun H hO=>?_;cbv;refine A7 hE hO 0 rfl ?_;cbv;cases h;exact hK hO (.tup (.cons (.agg (.cons (.lit _ (C1)) (.refl _))) (.refl _)))
  cbv;refine A9 hE hO 0 rfl rfl fun H hO=>?_;cbv;refine A7 hE hO 0 rfl ?_;cbv;cases h;exact hK hO (.refl _)
 rintro e l H ⟨rfl,rfl,hO⟩;cbv;refine A7 hE hO 1 rfl ?_;cbv;cases h;exact hK hO (.tup (.cons (.agg (.cons (.lit _ (C1)) (.refl _))) (.refl _)))
theorem c30 (N:Nat):∀n aI r,W8 N n aI=some r→B8 prog 30 [(C2 aI)] (vi r):=by
 intro n
 induction n with
 |zero=>intro aI r h;cases h
 |succ n ih=>
 intro aI r h
 unfold W8 at h
 refine N3 cf0 func30 call30 ntmps30 ?_;intro E H0 K hE hK hO;cbv;obtain⟨s2,hx,h⟩:=bind_some h;refine K1 cf0 hE N4 (fun s1=>[(1,.v (.eref (J2 aI) 0)),fi 3 s1.1,fi 4 s1.2]) (fun s1 H1=>B7 Eq H0 [] H1) (fun x e l H1=>e= .exit 0∧l=[fi 3 x]∧B7 Eq H0 [] H1) (by kernel_rfl) ?_ hx ?_ hO ?_
 ·intro s1 H o hO h;clear hx;cbv;refine F3 hE ?_;cbv;refine B0 hE h (fun _ h=>?_) fun _ h=>?_
  ·cbv;refine D1 hE eZk h fun x3 h=>?_;cbv;refine A8 hE h (ih x3) (.refl _) fun r4 h=>?_;cbv;cases h;exact⟨_,rfl,.e rfl (.e2 .z),rfl,hO⟩
  cbv;cases h;exact⟨_,_,rfl,⟨rfl,rfl,hO⟩,.e rfl .z,rfl⟩
 ·exact .e rfl (.e2 .z)
 clear hx;rintro e l H ⟨rfl,rfl,hO⟩;cbv;cases h;exact hK hO (.refl _)
theorem c89 (N:Nat):∀n aI r,U0 N n aI=some r→B8 prog 89 [(C2 aI)] (vi r):=by
 intro n
 induction n with
 |zero=>intro aI r h;cases h
 |succ n ih=>
 intro aI r h
 unfold U0 at h
 refine N3 cf0 func89 call89 ntmps89 ?_;intro E H0 K hE hK hO;cbv;obtain⟨s2,hx,h⟩:=bind_some h;refine K1 cf0 hE N4 (fun s1=>[(1,.v (.eref (J2 aI) 0)),fi 3 s1.1,fi 4 s1.2]) (fun s1 H1=>B7 Eq H0 [] H1) (fun x e l H1=>e= .exit 0∧l=[fi 3 x]∧B7 Eq H0 [] H1) (by kernel_rfl) ?_ hx ?_ hO ?_
 ·intro s1 H o hO h;clear hx;cbv;refine F3 hE ?_;cbv;refine B0 hE h (fun _ h=>?_) fun _ h=>?_
  ·cbv;refine D1 hE eZk h fun x3 h=>?_;cbv;refine A8 hE h (ih x3) (.refl _) fun r4 h=>?_;cbv;cases h;exact⟨_,rfl,.e rfl (.e2 .z),rfl,hO⟩
  cbv;cases h;exact⟨_,_,rfl,⟨rfl,rfl,hO⟩,.e rfl .z,rfl⟩
 ·exact .e rfl (.e2 .z)
 clear hx;rintro e l H ⟨rfl,rfl,hO⟩;cbv;cases h;exact hK hO (.refl _)
theorem c33 (N aI r)(h:Bq N aI=some r):B8 prog 33 [(C2 aI)] (.bool r):=by
 unfold Bq at h
 refine N3 cf0 func33 call33 ntmps33 ?_;intro E H0 K hE hK hO;cbv;refine A8 hE h (c89 N N aI) (.refl _) fun r1 h=>?_;cbv;refine B0 hE h (fun _ h=>?_) fun _ h=>?_
 ·cbv;refine A8 hE h (c30 N N aI) (.refl _) fun r2 h=>?_;cbv;cases h;exact hK hO (.refl _)
 cbv;cases h;exact hK hO (.refl _)
theorem c84 (N aB aD r)(h:Fd N aB aD=some r):B8 prog 84 [(V9 aB),(V9 aD)] (vi r):=by
 unfold Fd at h
 refine N3 cf0 func84 call84 ntmps84 ?_;intro E H0 K hE hK hO;cbv;refine A8 hE h (c106 N aB.Ref aD.Ref) (.refl _) fun r1 h=>?_;cbv;refine B0 hE h (fun _ h=>?_) fun _ h=>?_
 ·cbv;cases h;exact hK hO (.refl _)
 cbv;refine B0 hE h (fun _ h=>?_) fun _ h=>?_
 ·cbv;cases h;exact hK hO (.refl _)
 cbv;refine B0 hE h (fun _ h=>?_) fun _ h=>?_
 ·cbv;cases h;exact hK hO (.refl _)
 cbv;cases h;exact hK hO (.refl _)
def cf28 :Cf:=⟨[],[(4,10)],[],[],[],[]⟩
theorem c28 (N aB aD r) (h:Dv N aB aD=some r):B8 prog 28 [(Ee aB),(Ee aD)] (vi r):=by
 unfold Dv at h
 refine N3 cf28 func28 call28 ntmps28 ?_;intro E H0 K hE hK hO;cbv;obtain⟨s2,hx,h⟩:=bind_some h;refine K1 cf28 hE N4 (fun s1=>[(2,.v (.eref (Gm aB) 0)),(3,.v (.eref (Gm aD) 0)),fi 5 s1]) (fun s1 H1=>B7 Eq H0 [] H1) (fun x e l H1=>match(generalizing:=false) x with| .inl y=>e= .exit 0∧l=[(2,.v (.eref (Gm aB) 0)),(3,.v (.eref (Gm aD) 0))]∧B7 Eq H0 [] H1| .inr y=>e= .ret∧l=[fi 4 y]∧B7 Eq H0 [] H1) (by kernel_rfl) ?_ hx ?_ hO ?_
 ·intro s1 H o hO h;clear hx;cbv;refine F3 hE ?_;cbv;refine F3 hE ?_;cbv;refine B0 hE h (fun _ h=>?_) fun _ h=>?_
  ·cbv;refine D1 hE eZs h fun x3 h=>?_;cbv;refine D1 hE eZs h fun x4 h=>?_;cbv;refine A8 hE h (c84 N x3 x4) (.refl _) fun r5 h=>?_;cbv;refine B0 hE h (fun _ h=>?_) fun _ h=>?_
   ·cbv;cases h;exact⟨_,_,rfl,⟨rfl,rfl,hO⟩,.e rfl .z,rfl⟩
   cbv;cases h;exact⟨_,rfl,.e rfl (.e2 .z),rfl,hO⟩
  cbv;cases h;exact⟨_,_,rfl,⟨rfl,rfl,hO⟩,.e2 .z,rfl⟩
 ·exact .e rfl (.e2 .z)
 clear hx
 rcases s2 with y6|y7
 ·rintro e l H ⟨rfl,rfl,hO⟩;cbv;refine F3 hE ?_;cbv;refine F3 hE ?_;cbv;refine B0 hE h (fun _ h=>?_) fun _ h=>?_
  ·cbv;cases h;exact hK hO (.refl _)
  cbv;refine F3 hE ?_;cbv;refine F3 hE ?_;cbv;refine B0 hE h (fun _ h=>?_) fun _ h=>?_
  ·cbv;cases h;exact hK hO (.refl _)
  cbv;cases h;exact hK hO (.refl _)
 rintro e l H ⟨rfl,rfl,hO⟩;cbv;cases h;exact hK hO (.refl _)
theorem c85 (N aA aI r) (h:Cb N aA aI=some r):B8 prog 85 [(C4 aA),(C2 aI)] (sr eZx r):=by
 unfold Cb at h
 refine N3 cf0 func85 call85 ntmps85 ?_;intro E H0 K hE hK hO;cbv;refine A8 hE h (c62 N N aA aI) (.refl _) fun r1 h=>?_;cbv;refine F3 hE ?_;cbv;replace hO:=hO.tl0 (t:=.nil) rfl;obtain⟨s4,hx,h⟩:=bind_some h;refine Q7 cf0 hE N4 (γ:=E5) (fun s2 g=>[(5,.v (.sl (lst eZx s2.1) g)),(10,.v (sr eZl r1)),fi 11 (Ar.len r1),fi 12 s2.2]) (fun s2 g H1=>Bl g∧B7 Eq H0 [.tl g] H1) (fun x e l H1=>∃u1:E5,Bl u1∧e= .exit 0∧l=[(5,.v (.sl (lst eZx x) u1))]∧B7 Eq H0 [.tl u1] H1) (by kernel_rfl) ?_ .nil hx ?_ ?_ ?_
 ·rintro s2 t3 H o ⟨ht3,hO⟩ h;clear hx;cbv;refine B0 hE h (fun _ h=>?_) fun _ h=>?_
  ·cbv;refine D1 hE eZs h fun x5 h=>?_;cbv;refine Et (f:=eZx) hE VA (by decide) hO 0 rfl ht3 (l:=s2.1) (m:=[x5.Ref]) (.refl _) (.lstc (.eq (eZD x5.Ref) (.refl _)) (.lst0)) h fun l7 t6 H hO ht6 h=>?_;cbv;cases h;exact⟨_,t6,rfl,.e4 .z,rfl,ht6,hO⟩
  cbv;cases h;exact⟨_,_,rfl,⟨t3,ht3,rfl,rfl,hO⟩,.e rfl .z,rfl⟩
 ·exact .v (.slt _ (.lst0)) (.e rfl (.e2 .z))
 ·exact⟨trivial,hO⟩
 clear hx;rintro e l H ⟨t8,ht8,rfl,rfl,hO⟩;cbv;cases h;exact hK hO (.ro _ _)
def cf86 :Cf:=⟨[17],[(3,13),(4,19),(6,16),(14,18)],[(89,14)],[],[],[]⟩
theorem c86 (N:Nat):∀n aC aA aI aH aS r,L3 N n aC aA aI aH aS=some r→B8 prog 86 [.eref (B9 aC) 0,(C4 aA),(C2 aI),sr eZh aH,vi aS] (.tup [sr eZh r.1,.bool r.2]):=by
 intro n
 induction n with
 |zero=>intro aC aA aI aH aS r h;cases h
 |succ n ih=>
 intro aC aA aI aH aS r h
 unfold L3 at h
 refine N3 cf86 func86 call86 ntmps86 ?_;intro E H0 K hE hK hO;cbv;refine B0 hE h (fun _ h=>?_) fun _ h=>?_
 ·cbv;refine C9 hE (g:=fun r1=>.tup [vi r1.1,.bool r1.2.1,vi r1.2.2]) h (c60 N aC.cN aI.Ref) (.refl _) fun r1 h=>?_;cbv;refine B0 hE h (fun _ h=>?_) fun _ h=>?_
  ·cbv;refine C9 hE (g:=fun r2=>.bool r2) h (c139 N aC aA aH r1.1) (.refl _) fun r2 h=>?_;cbv;cases h;exact hK hO (.tup (.cons (.lit _ (D7 ((eZq (⟨aA.Var,r1.1⟩:A3)).symm) (C1))) (.refl _)))
  cbv;cases h;exact hK hO (.tup (.cons (.lit _ (D7 ((eZq (⟨aA.Var,r1.1⟩:A3)).symm) (C1))) (.refl _)))
 cbv;refine B0 hE h (fun _ h=>?_) fun _ h=>?_
 ·cbv;refine D1 hE eZp h fun x3 h=>?_;cbv;refine D1 hE eZk h fun x4 h=>?_;cbv;refine C9 hE (g:=fun r5=>.tup [sr eZh r5.1,.bool r5.2]) h (ih aC x3 x4 aH aS) (.refl _) fun r5 h=>?_;cbv;cases h;exact hK hO (.refl _)
 cbv;refine F3 hE ?_;cbv;replace hO:=hO.tl0 (t:=.nil) rfl;obtain⟨s7,hx,h⟩:=bind_some h;refine K1 cf86 hE N4 (fun s6=>[(0,.v (.eref (B9 aC) 0)),(3,.v (sr eZh aH)),fi 4 s6.1,(6,.v (.eref (C7 aA) 0)),(15,.v (sr eZh s6.2.1)),(74,.v (sr eZi aI.Kids)),fi 75 (Ar.len aI.Kids),fi 76 s6.2.2]) (fun s6 H1=>B7 Eq H0 [.tl .nil] H1) (fun x e l H1=>match(generalizing:=false) x with| .inl y=>e= .exit 1∧l=[(0,.v (.eref (B9 aC) 0)),(3,.v (sr eZh aH)),(6,.v (.eref (C7 aA) 0)),(15,.v (sr eZh y))]∧B7 Eq H0 [.tl .nil] H1| .inr y=>e= .ret∧l=[(10,.v (.sl [] .nil)),(11,.b false)]∧B7 Eq H0 [.tl .nil] H1) (by kernel_rfl) ?_ hx ?_ hO ?_
 ·intro s6 H o hO h;clear hx;cbv;refine B0 hE h (fun _ h=>?_) fun _ h=>?_
  ·cbv;refine D1 hE eZk h fun x8 h=>?_;cbv;refine C6 hE hO fun b9 H hO=>?_;cbv;refine A9 hE hO 0 rfl rfl fun H hO=>?_;cbv;obtain⟨s10,hx,h⟩:=bind_some h;refine M1 cf86 hE N4 (fun e l H1=>e= .normal∧l=[(0,.v (.eref (B9 aC) 0)),(3,.v (sr eZh aH)),fi 4 s6.1,(6,.v (.eref (C7 aA) 0)),(15,.v (sr eZh s6.2.1)),fi 16 s6.2.2,(17,.v (.ref b9 0)),(18,.v (sr eZh s10)),(74,.v (sr eZi aI.Kids)),fi 75 (Ar.len aI.Kids),fi 76 s6.2.2]∧B7 Eq H0 [cb b9 (J2 x8),.tl .nil] H1) (by kernel_rfl) ?_ ?_
   ·clear h;have h:=hx;clear hx;cbv;refine B0 hE h (fun _ h=>?_) fun _ h=>?_
    ·cbv;refine A8 hE h (c140 N aH s6.2.1) (.refl _) fun r11 h=>?_;cbv;cases h;exact⟨_,⟨rfl,rfl,hO⟩,.e rfl (.e2 (.e4 (.e4 .z))),rfl⟩
    cbv;cases h;exact⟨_,⟨rfl,rfl,hO⟩,.e rfl (.e2 (.e4 (.e4 .z))),rfl⟩
   clear hx;rintro e l H ⟨rfl,rfl,hO⟩;cbv;refine F3 hE ?_;cbv;refine Jy hE h fun h=>?_;cbv;refine D1 hE eZp h fun x12 h=>?_;cbv;refine A7 hE hO 0 rfl ?_;cbv;refine C9 hE (g:=fun r13=>.tup [sr eZh r13.1,.bool r13.2]) h (ih aC x12 x8 s10 s6.1) (.refl _) fun r13 h=>?_;cbv;refine B0 hE h (fun _ h=>?_) fun _ h=>?_
   ·cbv;cases h;exact⟨_,_,rfl,⟨rfl,rfl,hO.tail⟩,.e rfl (.b rfl (.z)),rfl⟩
   cbv;refine A8 hE h (c141 N s6.2.1 r13.1) (.refl _) fun r14 h=>?_;cbv;refine B0 hE h (fun _ h=>?_) fun _ h=>?_
   ·cbv;cases h;exact⟨_,_,rfl,⟨rfl,rfl,hO.tail⟩,.e rfl (.b rfl (.z)),rfl⟩
   cbv;refine B0 hE h (fun _ h=>?_) fun _ h=>?_
   ·cbv;refine A8 hE h (c142 N r13.1) (.refl _) fun r15 h=>?_;cbv;refine A8 hE h (c140 N s6.2.1 r13.1) (.refl _) fun r16 h=>?_;cbv;cases h;exact⟨_,rfl,.e4 (.e4 .z),rfl,hO.tail⟩
   cbv;refine A8 hE h (c140 N s6.2.1 r13.1) (.refl _) fun r17 h=>?_;cbv;cases h;exact⟨_,rfl,.e4 (.e4 .z),rfl,hO.tail⟩
  cbv;cases h;exact⟨_,_,rfl,⟨rfl,rfl,hO⟩,.e4 .z,rfl⟩
 ·exact .e4 (.v (.lit _ (C1)) (.e rfl (.e rfl (.e rfl (.z)))))
 clear hx
 rcases s7 with y18|y20
 ·rintro e l H ⟨rfl,rfl,hO⟩;cbv;refine B0 hE h (fun _ h=>?_) fun _ h=>?_
  ·cbv;cases h;exact hK hO (.refl _)
  cbv;refine A8 hE h (c143 N aC aA aH y18) (.refl _) fun r19 h=>?_;cbv;cases h;exact hK hO (.refl _)
 rintro e l H ⟨rfl,rfl,hO⟩;cbv;cases h;exact hK hO (.tup (.cons (.lit _ (C1)) (.refl _)))
theorem c31 (N aA aG aI r) (h:P2 N aA aG aI=some r):B8 prog 31 [(C4 aA),sr eZj aG,(C2 aI)] (vi r):=by
 unfold P2 at h
 refine N3 cf0 func31 call31 ntmps31 ?_;intro E H0 K hE hK hO;cbv;refine A8 hE h (c26 N aA aI) (.refl _) fun r1 h=>?_;cbv;refine B0 hE h (fun _ h=>?_) fun _ h=>?_
 ·cbv;cases h;exact hK hO (.refl _)
 cbv;refine A8 hE h (c56 N aG) (.refl _) fun r2 h=>?_;cbv;refine B0 hE h (fun _ h=>?_) fun _ h=>?_
 ·cbv;cases h;exact hK hO (.refl _)
 cbv;refine A8 hE h (c85 N aA aI) (.refl _) fun r3 h=>?_;cbv;refine F3 hE ?_;cbv;obtain⟨s5,hx,h⟩:=bind_some h;refine K1 cf0 hE N4 (fun s4=>[(1,.v (sr eZj aG)),(3,.v (.eref (C7 aA) 0)),(5,.v (.eref (J2 aI) 0)),(30,.v (sr eZx r3)),fi 31 (Ar.len r3),fi 32 s4]) (fun s4 H1=>B7 Eq H0 [] H1) (fun x e l H1=>match(generalizing:=false) x with| .inl y=>e= .exit 0∧l=[(1,.v (sr eZj aG)),(3,.v (.eref (C7 aA) 0)),(5,.v (.eref (J2 aI) 0))]∧B7 Eq H0 [] H1| .inr y=>e= .ret∧l=[fi 6 6]∧B7 Eq H0 [] H1) (by kernel_rfl) ?_ hx ?_ hO ?_
 ·intro s4 H o hO h;clear hx;cbv;refine B0 hE h (fun _ h=>?_) fun _ h=>?_
  ·cbv;refine D1 hE eZD h fun x6 h=>?_;cbv;refine A8 hE h (c60 N aG x6) (.refl _) fun r7 h=>?_;cbv;refine B0 hE h (fun _ h=>?_) fun _ h=>?_
   ·cbv;cases h;exact⟨_,_,rfl,⟨rfl,rfl,hO⟩,.e rfl .z,rfl⟩
   cbv;cases h;exact⟨_,rfl,.e2 (.e4 .z),rfl,hO⟩
  cbv;cases h;exact⟨_,_,rfl,⟨rfl,rfl,hO⟩,.e rfl (.e2 .z),rfl⟩
 ·exact .e2 (.e4 .z)
 clear hx
 rcases s5 with y8|y10
 ·rintro e l H ⟨rfl,rfl,hO⟩;cbv;refine A8 hE h (c86 N N (⟨aG,0⟩:C5) aA aI ([]) 0) (.cons (.refl _) (.cons (.refl _) (.cons (.refl _) (.cons (.lit _ (C1)) (.refl _))))) fun r9 h=>?_;cbv;refine B0 hE h (fun _ h=>?_) fun _ h=>?_
  ·cbv;cases h;exact hK hO (.refl _)
  cbv;cases h;exact hK hO (.refl _)
 rintro e l H ⟨rfl,rfl,hO⟩;cbv;cases h;exact hK hO (.refl _)
theorem c145 (N aB aD r)(h:Y4 N aB aD=some r):B8 prog 145 [vi aB,vi aD] (vi r):=by
 unfold Y4 at h
 refine N3 cf0 func145 call145 ntmps145 ?_;intro E H0 K hE hK hO;cbv;refine B0 hE h (fun _ h=>?_) fun _ h=>?_
 ·cbv;cases h;exact hK hO (.refl _)
 cbv;refine B0 hE h (fun _ h=>?_) fun _ h=>?_
 ·cbv;cases h;exact hK hO (.refl _)
 cbv;cases h;exact hK hO (.refl _)
theorem c90 (N aB aD r)(h:R6 N aB aD=some r):B8 prog 90 [(Bn aB),(Bn aD)] (vi r):=by
 unfold R6 at h
 refine N3 cf0 func90 call90 ntmps90 ?_;intro E H0 K hE hK hO;cbv;refine B0 hE h (fun _ h=>?_) fun _ h=>?_
 ·cbv;refine A8 hE h (c145 N aB.Time aD.Time) (.refl _) fun r1 h=>?_;cbv;cases h;exact hK hO (.refl _)
 cbv;refine B0 hE h (fun _ h=>?_) fun _ h=>?_
 ·cbv;refine A8 hE h (c145 N aB.Source aD.Source) (.refl _) fun r2 h=>?_;cbv;cases h;exact hK hO (.refl _)
 cbv;refine A8 hE h (c145 N aB.Seq aD.Seq) (.refl _) fun r3 h=>?_;cbv;cases h;exact hK hO (.refl _)
def cf34 :Cf:=⟨[],[(11,10)],[],[],[],[]⟩
theorem c34 (N:Nat):∀n aB aD r,S4 N n aB aD=some r→B8 prog 34 [(C2 aB),(C2 aD)] (vi r):=by
 intro n
 induction n with
 |zero=>intro aB aD r h;cases h
 |succ n ih=>
 intro aB aD r h
 unfold S4 at h
 refine N3 cf34 func34 call34 ntmps34 ?_;intro E H0 K hE hK hO;cbv;refine A8 hE h (c90 N aB.Ref aD.Ref) (.refl _) fun r1 h=>?_;cbv;refine B0 hE h (fun _ h=>?_) fun _ h=>?_
 ·cbv;cases h;exact hK hO (.refl _)
 cbv;refine B0 hE h (fun _ h=>?_) fun _ h=>?_
 ·cbv;refine B0 hE h (fun _ h=>?_) fun _ h=>?_
  ·cbv;cases h;exact hK hO (.refl _)
  cbv;cases h;exact hK hO (.refl _)
 cbv;obtain⟨s3,hx,h⟩:=bind_some h;refine K1 cf34 hE N4 (fun s2=>[(2,.v (.eref (J2 aB) 0)),(3,.v (.eref (J2 aD) 0)),fi 6 s2]) (fun s2 H1=>B7 Eq H0 [] H1) (fun x e l H1=>match(generalizing:=false) x with| .inl y=>e= .exit 0∧l=[(2,.v (.eref (J2 aB) 0)),(3,.v (.eref (J2 aD) 0))]∧B7 Eq H0 [] H1| .inr y=>e= .ret∧l=[fi 4 y]∧B7 Eq H0 [] H1) (by kernel_rfl) ?_ hx ?_ hO ?_
 ·intro s2 H o hO h;clear hx;cbv;refine F3 hE ?_;cbv;refine F3 hE ?_;cbv;refine B0 hE h (fun _ h=>?_) fun _ h=>?_
  ·cbv;refine D1 hE eZk h fun x4 h=>?_;cbv;refine D1 hE eZk h fun x5 h=>?_;cbv;refine A8 hE h (ih x4 x5) (.refl _) fun r6 h=>?_;cbv;refine B0 hE h (fun _ h=>?_) fun _ h=>?_
   ·cbv;cases h;exact⟨_,_,rfl,⟨rfl,rfl,hO⟩,.e rfl .z,rfl⟩
   cbv;cases h;exact⟨_,rfl,.e rfl (.e2 .z),rfl,hO⟩
  cbv;cases h;exact⟨_,_,rfl,⟨rfl,rfl,hO⟩,.e2 .z,rfl⟩
 ·exact .e rfl (.e2 .z)
 clear hx
 rcases s3 with y7|y8
 ·rintro e l H ⟨rfl,rfl,hO⟩;cbv;refine F3 hE ?_;cbv;refine F3 hE ?_;cbv;refine B0 hE h (fun _ h=>?_) fun _ h=>?_
  ·cbv;cases h;exact hK hO (.refl _)
  cbv;refine F3 hE ?_;cbv;refine F3 hE ?_;cbv;refine B0 hE h (fun _ h=>?_) fun _ h=>?_
  ·cbv;cases h;exact hK hO (.refl _)
  cbv;cases h;exact hK hO (.refl _)
 rintro e l H ⟨rfl,rfl,hO⟩;cbv;cases h;exact hK hO (.refl _)
def cf40 :Cf:=⟨[],[(6,8)],[],[],[],[]⟩
theorem c40 (N aB aD r) (h:GU N aB aD=some r):B8 prog 40 [sr eZi aB,sr eZi aD] (.bool r):=by
 unfold GU at h
 refine N3 cf40 func40 call40 ntmps40 ?_;intro E H0 K hE hK hO;cbv;refine F3 hE ?_;cbv;refine F3 hE ?_;cbv;refine B0 hE h (fun _ h=>?_) fun _ h=>?_
 ·cbv;cases h;exact hK hO (.refl _)
 cbv;obtain⟨s2,hx,h⟩:=bind_some h;refine K1 cf40 hE N4 (fun s1=>[(0,.v (sr eZi aB)),(1,.v (sr eZi aD)),fi 5 s1]) (fun s1 H1=>B7 Eq H0 [] H1) (fun x e l H1=>match(generalizing:=false) x with| .inl y=>e= .exit 0∧l=[]∧B7 Eq H0 [] H1| .inr y=>e= .ret∧l=[(4,.b false)]∧B7 Eq H0 [] H1) (by kernel_rfl) ?_ hx ?_ hO ?_
 ·intro s1 H o hO h;clear hx;cbv;refine F3 hE ?_;cbv;refine B0 hE h (fun _ h=>?_) fun _ h=>?_
  ·cbv;refine D1 hE eZk h fun x3 h=>?_;cbv;refine D1 hE eZk h fun x4 h=>?_;cbv;refine A8 hE h (c34 N N x3 x4) (.refl _) fun r5 h=>?_;cbv;refine B0 hE h (fun _ h=>?_) fun _ h=>?_
   ·cbv;cases h;exact⟨_,_,rfl,⟨rfl,rfl,hO⟩,.b rfl (.z),rfl⟩
   cbv;cases h;exact⟨_,rfl,.e rfl (.e2 .z),rfl,hO⟩
  cbv;cases h;exact⟨_,_,rfl,⟨rfl,rfl,hO⟩,.z,rfl⟩
 ·exact .e rfl (.e2 .z)
 clear hx
 rcases s2 with y6|y7
 ·rintro e l H ⟨rfl,rfl,hO⟩;cbv;cases h;exact hK hO (.refl _)
 rintro e l H ⟨rfl,rfl,hO⟩;cbv;cases h;exact hK hO (.refl _)
def cf76 :Cf:=⟨[4],[],[],[],[],[]⟩
theorem c76 (N cC cD r)(h:CK N cC cD=some r):B8 prog 76 [vi cC,vi cD] ((C2 r)):=by
 unfold CK at h
 refine N3 cf76 func76 call76 ntmps76 ?_;intro E H0 K hE hK hO;cbv;refine C6 hE hO fun b1 H hO=>?_;cbv;refine A9 hE hO 0 rfl rfl fun H hO=>?_;cbv;refine A7 hE hO 0 rfl ?_;cbv;cases h;exact hK hO (.agg (.cons (.refl _) (.cons (.refl _) (.cons (.refl _) (.cons (.refl _) (.cons (.lit _ (C1)) (.refl _)))))))
def cf135 :Cf:=⟨[0],[],[],[],[],[]⟩
theorem c135 (N r)(h:Ge N=some r):B8 prog 135 [] ((AF r)):=by
 unfold Ge at h
 refine N3 cf135 func135 call135 ntmps135 ?_;intro E H0 K hE hK hO;cbv;refine C6 hE hO fun b1 H hO=>?_;cbv;refine A9 hE hO 0 rfl rfl fun H hO=>?_;cbv;refine A7 hE hO 0 rfl ?_;cbv;cases h;exact hK hO (.agg (.cons (.refl _) (.cons (.lit _ (C1)) (.refl _))))
def cf77 :Cf:=⟨[2],[],[],[],[],[]⟩
theorem c77 (N aK r)(h:L6 N aK=some r):B8 prog 77 [vi aK] ((C4 r)):=by
 unfold L6 at h
 refine N3 cf77 func77 call77 ntmps77 ?_;intro E H0 K hE hK hO;cbv;refine C6 hE hO fun b1 H hO=>?_;cbv;refine A8 hE h (c135 N) (.refl _) fun r2 h=>?_;cbv;refine A8 hE h (c135 N) (.refl _) fun r3 h=>?_;cbv;refine A9 hE hO 0 rfl rfl fun H hO=>?_;cbv;refine A7 hE hO 0 rfl ?_;cbv;cases h;exact hK hO (.agg (.cons (.refl _) (.cons (.sl _ (.lstc (.eq (eZp (⟨0,[],0,0,0,0,r2⟩:A1)) (.agg (.cons (.refl _) (.cons (.lit _ (C1)) (.refl _))))) (.lstc (.eq (eZp (⟨4,[(⟨0,[],aK,1,0,0,r3⟩:A1)],0,0,0,0,(⟨0,[],0,0,0,(⟨0,0,⟨#[]⟩⟩:B4)⟩:B6)⟩:A1)) (.agg (.cons (.refl _) (.cons (.sl _ (.lstc (.eq (eZp (⟨0,[],aK,1,0,0,r3⟩:A1)) (.agg (.cons (.refl _) (.cons (.lit _ (C1)) (.refl _))))) (.lst0))) (.cons (.refl _) (.cons (.refl _) (.cons (.refl _) (.cons (.refl _) (.cons (.refl _) (.cons (.lit _ (C1)) (.refl _))))))))))) (.lst0)))) (.cons (.refl _) (.cons (.refl _) (.cons (.refl _) (.cons (.refl _) (.cons (.refl _) (.cons (.lit _ (C1)) (.refl _))))))))))
def cf78 :Cf:=⟨[6000011],[(3000003,0),(3000003,1),(3000003,2),(3000003,4),(3000003,5),(3000003,7)],[],[2000003],[],[]⟩
set_option maxHeartbeats 2000000 in
theorem c78 (N aP bA r) (h:R7 N aP bA=some r):B8 prog 78 [vi aP,vi bA] (sr eZj r):=by
 unfold R7 at h
 refine Bd (T:=TT) cf78 N4 func78 (by rfl) (by kernel_rfl) call78 ntmps78 (by rfl) (by rfl) ?_;intro E H0 K hE hK hF;have hO:B7 Eq H0 [] H0:=.start F5 rfl;cbv;refine TZ hE (f:=eZj) (l:=([(⟨0,0,0,1,[]⟩:B5),(⟨0,1,1,aP,[]⟩:B5),(⟨0,2,1,bA,[]⟩:B5)]:List B5)) (.lstc (.eq (eZm (⟨0,0,0,1,[]⟩:B5)) (.agg (.cons (.refl _) (.cons (.refl _) (.cons (.refl _) (.cons (.refl _) (.cons (.lit _ (C1)) (.refl _)))))))) (.lstc (.eq (eZm (⟨0,1,1,aP,[]⟩:B5)) (.agg (.cons (.refl _) (.cons (.refl _) (.cons (.refl _) (.cons (.refl _) (.cons (.lit _ (C1)) (.refl _)))))))) (.lstc (.eq (eZm (⟨0,2,1,bA,[]⟩:B5)) (.agg (.cons (.refl _) (.cons (.refl _) (.cons (.refl _) (.cons (.refl _) (.cons (.lit _ (C1)) (.refl _)))))))) (.lst0)))) hO fun q1 H hq1 hO=>?_;cbv;refine B0 hE h (fun _ h=>?_) fun _ h=>?_
 ·cbv;obtain⟨s2,hx,h⟩:=bind_some h;refine M1 cf78 hE N4 (fun e l H1=>∃u1:OG,T7 u1 (Ar.len s2)∧e= .normal∧l=[(5,.v (.own u1.id u1.lo u1.n))]∧B7 Eq H0 [ob u1 5 eZj s2] H1) (by kernel_rfl) ?_ ?_
  ·clear h;have h:=hx;clear hx;cbv;obtain⟨u122_0,eu122_0,h⟩:=bind_some h;obtain⟨x163,ex163,h⟩:=bind_some h;obtain⟨u242_0,eu242_0,h⟩:=bind_some h;obtain⟨x283,ex283,h⟩:=bind_some h;obtain⟨u322_0,eu322_0,h⟩:=bind_some h;obtain⟨l364,el364,h⟩:=bind_some h;obtain⟨u402_0,eu402_0,h⟩:=bind_some h;obtain⟨l444,el444,h⟩:=bind_some h
   repeat' first|refine And.intro ?_ ?_|(refine Q4 hE hO hq1 0 rfl (P6 eu122_0) fun hh=>?_;clear hh;cbv)|(refine U9 hE eZm hO hq1 0 rfl (P6 ex163) fun x163 hh=>?_;obtain rfl:=G0 hh;cbv)|(refine Q4 hE hO hq1 0 rfl (P6 eu242_0) fun hh=>?_;clear hh;cbv)|(refine U9 hE eZm hO hq1 0 rfl (P6 ex283) fun x283 hh=>?_;obtain rfl:=G0 hh;cbv)|(refine Q4 hE hO hq1 0 rfl (P6 eu322_0) fun hh=>?_;clear hh;cbv)|(refine AP hE (f:=eZj) (esz:=5) (tz:=5) (off:=0) (u:=(fun x363:B5=>x163)) (fun _=>⟨_,.eq (eZm _) (.refl _),(by rw[eZm];rfl),FU _,rfl⟩) (by decide) hO hq1 0 rfl (P6 el364) fun l364 H hq1 hh hO=>?_;obtain rfl:=G0 hh;cbv)|(refine Q4 hE hO hq1 0 rfl (P6 eu402_0) fun hh=>?_;clear hh;cbv)|(refine AP hE (f:=eZj) (esz:=5) (tz:=5) (off:=0) (u:=(fun x443:B5=>x283)) (fun _=>⟨_,.eq (eZm _) (.refl _),(by rw[eZm];rfl),FU _,rfl⟩) (by decide) hO hq1 0 rfl (P6 el444) fun l444 H hq1 hh hO=>?_;obtain rfl:=G0 hh;cbv)|(have h:=G0 h;subst h;exact⟨_,⟨q1,hq1,rfl,rfl,hO⟩,.e rfl .z,rfl⟩)
  clear hx;rintro e l H ⟨q523,hq523,rfl,rfl,hO⟩;cbv;cases h;exact hF q523 _ _ 0 _ _ hO rfl (AO hE hq523) (.refl _)
 cbv;cases h;exact hF q1 _ _ 0 _ _ hO rfl (AO hE hq1) (.refl _)
def cf79 :Cf:=⟨[2],[],[],[],[],[]⟩
theorem c79 (N aN r)(h:N7 N aN=some r):B8 prog 79 [sr eZi aN] ((C2 r)):=by
 unfold N7 at h
 refine N3 cf79 func79 call79 ntmps79 ?_;intro E H0 K hE hK hO;cbv;refine C6 hE hO fun b1 H hO=>?_;cbv;refine A8 hE h (c76 N 1 0) (.refl _) fun r2 h=>?_;cbv;refine A9 hE hO 0 rfl rfl fun H hO=>?_;cbv;refine A7 hE hO 0 rfl ?_;cbv;cases h;exact hK hO (.agg (.cons (.refl _) (.cons (.refl _) (.cons (.refl _) (.cons (.refl _) (.cons (.lit _ (D7 ((eZk r2).symm) (D7 ((eZk (⟨(⟨0,0,0⟩:L4),0,aN⟩:A2)).symm) (C1)))) (.refl _)))))))
def cf24 :Cf:=⟨[1,2],[(3,21),(5,11),(6,9),(7,11),(8,65)],[],[],[],[]⟩
theorem c24 (N r) (h:U1 N=some r):B8 prog 24 [] (.bool r):=by
 unfold U1 at h
 refine N3 cf24 func24 call24 ntmps24 ?_;intro E H0 K hE hK hO;cbv;refine A8 hE h (c76 N 2 1) (.refl _) fun r1 h=>?_;cbv;refine A8 hE h (c76 N 3 2) (.refl _) fun r2 h=>?_;cbv;refine C6 hE hO fun b3 H hO=>?_;cbv;refine C6 hE hO fun b4 H hO=>?_;cbv;refine A9 hE hO 1 rfl rfl fun H hO=>?_;cbv;refine A9 hE hO 0 rfl rfl fun H hO=>?_;cbv;refine A8 hE h (c77 N 1) (.refl _) fun r5 h=>?_;cbv;refine A8 hE h (c78 N 2 3) (.refl _) fun r6 h=>?_;cbv;refine A8 hE h (c15 N r5 r6) (.refl _) fun r7 h=>?_;cbv;refine A7 hE hO 1 rfl ?_;cbv;refine B0 hE h (fun _ h=>?_) fun _ h=>?_
 ·cbv;cases h;exact hK hO (.refl _)
 cbv;refine C9 hE (g:=fun r8=>(C2 r8)) h (c79 N ([r1])) (.cons (.lit _ (D7 ((eZk r1).symm) (C1))) (.refl _)) fun r8 h=>?_;cbv;refine A7 hE hO 1 rfl ?_;cbv;refine A7 hE hO 0 rfl ?_;cbv;refine C9 hE (g:=fun r9=>(C2 r9)) h (c79 N ([r1,r2])) (.cons (.lit _ (D7 ((eZk r1).symm) (D7 ((eZk r2).symm) (C1)))) (.refl _)) fun r9 h=>?_;cbv;refine A7 hE hO 0 rfl ?_;cbv;refine C9 hE (g:=fun r10=>(C2 r10)) h (c79 N ([r2])) (.cons (.lit _ (D7 ((eZk r2).symm) (C1))) (.refl _)) fun r10 h=>?_;cbv;refine C9 hE (g:=fun r11=>.bool r11) h (c40 N r7.1 ([r8,r9,r10])) (.cons (.refl _) (.cons (.lit _ (D7 ((eZk r8).symm) (D7 ((eZk r9).symm) (D7 ((eZk r10).symm) (C1))))) (.refl _))) fun r11 h=>?_;cbv;refine A7 hE hO 1 rfl ?_;cbv;refine A7 hE hO 0 rfl ?_;cbv;refine B0 hE h (fun _ h=>?_) fun _ h=>?_
 ·cbv;cases h;exact hK hO (.refl _)
 cbv;refine A8 hE h (c79 N ([r1,r2])) (.cons (.lit _ (D7 ((eZk r1).symm) (D7 ((eZk r2).symm) (C1)))) (.refl _)) fun r12 h=>?_;cbv;refine A8 hE h (c29 N N r12) (.refl _) fun r13 h=>?_;cbv;refine B0 hE h (fun _ h=>?_) fun _ h=>?_
 ·cbv;cases h;exact hK hO (.refl _)
 cbv;refine C9 hE (g:=fun r14=>(C4 r14)) h (c77 N 1) (.refl _) fun r14 h=>?_;cbv;refine A7 hE hO 1 rfl ?_;cbv;refine A7 hE hO 0 rfl ?_;cbv;refine C9 hE (g:=fun r15=>(C2 r15)) h (c79 N ([r1,r2])) (.cons (.lit _ (D7 ((eZk r1).symm) (D7 ((eZk r2).symm) (C1)))) (.refl _)) fun r15 h=>?_;cbv;refine C9 hE (g:=fun r16=>.tup [(Ee r16.1),vi r16.2]) h (c17 N r14 r15) (.refl _) fun r16 h=>?_;cbv;refine C9 hE (g:=fun r17=>(C4 r17)) h (c77 N 1) (.refl _) fun r17 h=>?_;cbv;refine C9 hE (g:=fun r18=>sr eZj r18) h (c78 N 2 3) (.refl _) fun r18 h=>?_;cbv;refine C9 hE (g:=fun r19=>.tup [(C2 r19.1),vi r19.2]) h (c16 N r17 r18 r16.1) (.refl _) fun r19 h=>?_;cbv;refine C9 hE (g:=fun r20=>(C4 r20)) h (c77 N 1) (.refl _) fun r20 h=>?_;cbv;refine A7 hE hO 0 rfl ?_;cbv;refine A7 hE hO 1 rfl ?_;cbv;refine C9 hE (g:=fun r21=>(C2 r21)) h (c79 N ([r2,r1])) (.cons (.lit _ (D7 ((eZk r2).symm) (D7 ((eZk r1).symm) (C1)))) (.refl _)) fun r21 h=>?_;cbv;refine C9 hE (g:=fun r22=>.tup [(Ee r22.1),vi r22.2]) h (c17 N r20 r21) (.refl _) fun r22 h=>?_;cbv;refine A7 hE hO 1 rfl ?_;cbv;refine A7 hE hO 0 rfl ?_;cbv;refine B0 hE h (fun _ h=>?_) fun _ h=>?_
 ·cbv;refine C9 hE (g:=fun r23=>(C2 r23)) h (c79 N ([r1,r2])) (.cons (.lit _ (D7 ((eZk r1).symm) (D7 ((eZk r2).symm) (C1)))) (.refl _)) fun r23 h=>?_;cbv;refine C9 hE (g:=fun r24=>vi r24) h (c21 N N r19.1 r23) (.refl _) fun r24 h=>?_;cbv;refine F3 hE ?_;cbv;refine B0 hE h (fun _ h=>?_) fun _ h=>?_
  ·cbv;refine C9 hE (g:=fun r25=>(C4 r25)) h (c77 N 1) (.refl _) fun r25 h=>?_;cbv;refine C9 hE (g:=fun r26=>sr eZj r26) h (c78 N 2 3) (.refl _) fun r26 h=>?_;cbv;refine A7 hE hO 1 rfl ?_;cbv;refine A7 hE hO 0 rfl ?_;cbv;refine C9 hE (g:=fun r27=>(C2 r27)) h (c79 N ([r1,r2])) (.cons (.lit _ (D7 ((eZk r1).symm) (D7 ((eZk r2).symm) (C1)))) (.refl _)) fun r27 h=>?_;cbv;refine C9 hE (g:=fun r28=>vi r28) h (c31 N r25 r26 r27) (.refl _) fun r28 h=>?_;cbv;refine B0 hE h (fun _ h=>?_) fun _ h=>?_
   ·cbv;refine C9 hE (g:=fun r29=>(C4 r29)) h (c77 N 1) (.refl _) fun r29 h=>?_;cbv;refine C9 hE (g:=fun r30=>sr eZj r30) h (c78 N 2 3) (.refl _) fun r30 h=>?_;cbv;refine HI hE (f:=eZj) FU h fun l31 t32 h=>?_;cbv;refine A7 hE hO 1 rfl ?_;cbv;refine A7 hE hO 0 rfl ?_;cbv;refine C9 hE (g:=fun r33=>(C2 r33)) h (c79 N ([r1,r2])) (.cons (.lit _ (D7 ((eZk r1).symm) (D7 ((eZk r2).symm) (C1)))) (.refl _)) fun r33 h=>?_;cbv;refine C9 hE (g:=fun r34=>vi r34) h (c31 N r29 l31 r33) (.cons (.refl _) (.cons (.ro _ _) (.refl _))) fun r34 h=>?_;cbv;refine B0 hE h (fun _ h=>?_) fun _ h=>?_
    ·cbv;refine C9 hE (g:=fun r35=>(C4 r35)) h (c77 N 0) (.refl _) fun r35 h=>?_;cbv;refine C9 hE (g:=fun r36=>sr eZj r36) h (c78 N 2 3) (.refl _) fun r36 h=>?_;cbv;refine A7 hE hO 1 rfl ?_;cbv;refine A7 hE hO 0 rfl ?_;cbv;refine C9 hE (g:=fun r37=>(C2 r37)) h (c79 N ([r1,r2])) (.cons (.lit _ (D7 ((eZk r1).symm) (D7 ((eZk r2).symm) (C1)))) (.refl _)) fun r37 h=>?_;cbv;refine C9 hE (g:=fun r38=>vi r38) h (c31 N r35 r36 r37) (.refl _) fun r38 h=>?_;cbv;refine B0 hE h (fun _ h=>?_) fun _ h=>?_
     ·cbv;refine C9 hE (g:=fun r39=>(C4 r39)) h (c77 N 1) (.refl _) fun r39 h=>?_;cbv;refine C9 hE (g:=fun r40=>sr eZj r40) h (c78 N 2 3) (.refl _) fun r40 h=>?_;cbv;refine A7 hE hO 0 rfl ?_;cbv;refine A7 hE hO 1 rfl ?_;cbv;refine C9 hE (g:=fun r41=>(C2 r41)) h (c79 N ([r2,r1])) (.cons (.lit _ (D7 ((eZk r2).symm) (D7 ((eZk r1).symm) (C1)))) (.refl _)) fun r41 h=>?_;cbv;refine C9 hE (g:=fun r42=>vi r42) h (c31 N r39 r40 r41) (.refl _) fun r42 h=>?_;cbv;refine B0 hE h (fun _ h=>?_) fun _ h=>?_
      ·cbv;refine A8 hE h (c28 N r16.1 r22.1) (.refl _) fun r43 h=>?_;cbv;cases h;exact hK hO (.refl _)
      cbv;cases h;exact hK hO (.refl _)
     cbv;cases h;exact hK hO (.refl _)
    cbv;cases h;exact hK hO (.refl _)
   cbv;cases h;exact hK hO (.refl _)
  cbv;cases h;exact hK hO (.refl _)
 cbv;cases h;exact hK hO (.refl _)
end Go.Ab
