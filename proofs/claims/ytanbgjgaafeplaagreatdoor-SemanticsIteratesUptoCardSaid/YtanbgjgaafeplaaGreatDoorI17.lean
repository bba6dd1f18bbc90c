/- GTKw GTBk GTM1 GTM2 GTM3 GTM4 GTM5 GTM6 GTM7 GTN1 GTD1 GTD2 GTD3 -/
import Derived.Test.YtanbgjgaafeplaaGreatDoorI16
import Derived.Laws.Strings
set_option linter.all false
open Go.Ab.Ar (an ar cmp lst mx nt scmp)
namespace Go.Ab
open Go.RowKit Go.Proofs Go.Proofs.Tryz H6
variable [Ar][H6]
set_option maxRecDepth 100000
omit [Ar] [H6] in
theorem Yj {α β:Type}{c:Prop}[Decidable c]{a b:Option α}{f:α→Option β}:(if c then a else b).bind f=if c then a.bind f else b.bind f:=by split<;>rfl
theorem c90 (N:Nat):∀n aB aF r,Ba N n aB aF=some r→Za prog 90 (fun q=>[G0 aB,.own q.id q.lo q.n]) 1 (lst V.bool aF) (lst V.bool r):=by
 intro n
 induction n with
 |zero=>intro aB aF r h;cases h
 |succ n ih=>
 intro aB aF r h
 unfold Ba at h
 refine Ww (T:=TT) (m:=2) cf0 M4 func90 (by rfl) (by kernel_rfl) call90 ntmps90 (by rfl) (fun _=>rfl) (by rfl) ?_;intro E H0 q0 K hE hq0 hO hK;cbv;refine A4 hE h (c134 N aB.Op) (.refl _) fun r1 h=>?_;cbv
 rw[Yj]at h
 simp only[Option.bind_assoc,Option.bind_some]at h
 refine Td hE hq0 ?_;cbv;refine A8 hE h (fun _ h=>?_) fun _ h=>?_
 ·cbv;refine Iw hE hO hq0 0 rfl h fun h=>?_;cbv;refine GV hE (f:=V.bool) (esz:=1) (tz:=1) (off:=0) (u:=fun _=>true) (fun _=>⟨_,.refl _,rfl,rfl,rfl⟩) (by decide) hO hq0 0 rfl h fun l8 H hq0 h hO=>?_;cbv;replace hO:B8 Eq (upd H0 q0.id none) [ob q0 1 V.bool l8] H:=hO;obtain⟨s2,hx,h⟩:=bind_some h;refine E3 cf0 hE M4 (fun s1=>[(1,.v (.own q0.id q0.lo q0.n)),(2,.v (.eref (Ak aB) 0)),fi 6 s1.1]) (fun s1 H1=>Cr q0 (Ar.len s1.2)∧B8 Eq (upd H0 q0.id none) [ob q0 1 V.bool s1.2] H1) (fun x e l H1=>Cr q0 (Ar.len x)∧e= .exit 0∧l=[]∧B8 Eq (upd H0 q0.id none) [ob q0 1 V.bool x] H1) (by kernel_rfl) ?_ hx ?_ ⟨hq0,hO⟩ ?_
  ·rintro s1 H o ⟨hq0,hO⟩ h;clear hx;cbv;refine D4 hE ?_;cbv;refine A8 hE h (fun _ h=>?_) fun _ h=>?_
   ·cbv;refine B9 hE eAs1 h fun x3 h=>?_;cbv;refine Pf hE hO hq0 0 rfl h (ih x3 s1.2) (.cons (.refl _) (.cons (.refl _) .nil)) fun l4 H hq0 hO h=>?_;cbv;cases h;exact⟨_,rfl,.e (.refl _) (.e (.refl _) (.e (.refl _) .z)),rfl,hq0,hO⟩
   cbv;cases h;exact⟨_,_,rfl,⟨hq0,rfl,rfl,hO⟩,.z,rfl⟩
  ·exact .e (.refl _) (.e (.refl _) (.e (.refl _) .z))
  rintro e l H ⟨hq0,rfl,rfl,hO⟩;cbv;cases h;exact hK _ 0 _ hq0 rfl hO
 cbv;obtain⟨s2,hx,h⟩:=bind_some h;refine E3 cf0 hE M4 (fun s1=>[(1,.v (.own q0.id q0.lo q0.n)),(2,.v (.eref (Ak aB) 0)),fi 6 s1.1]) (fun s1 H1=>Cr q0 (Ar.len s1.2)∧B8 Eq (upd H0 q0.id none) [ob q0 1 V.bool s1.2] H1) (fun x e l H1=>Cr q0 (Ar.len x)∧e= .exit 0∧l=[]∧B8 Eq (upd H0 q0.id none) [ob q0 1 V.bool x] H1) (by kernel_rfl) ?_ hx ?_ ⟨hq0,hO⟩ ?_
 ·rintro s1 H o ⟨hq0,hO⟩ h;clear hx;cbv;refine D4 hE ?_;cbv;refine A8 hE h (fun _ h=>?_) fun _ h=>?_
  ·cbv;refine B9 hE eAs1 h fun x3 h=>?_;cbv;refine Pf hE hO hq0 0 rfl h (ih x3 s1.2) (.cons (.refl _) (.cons (.refl _) .nil)) fun l4 H hq0 hO h=>?_;cbv;cases h;exact⟨_,rfl,.e (.refl _) (.e (.refl _) (.e (.refl _) .z)),rfl,hq0,hO⟩
  cbv;cases h;exact⟨_,_,rfl,⟨hq0,rfl,rfl,hO⟩,.z,rfl⟩
 ·exact .e (.refl _) (.e (.refl _) (.e (.refl _) .z))
 rintro e l H ⟨hq0,rfl,rfl,hO⟩;cbv;cases h;exact hK _ 0 _ hq0 rfl hO
theorem c34 (N aB r) (h:M7 N aB=some r):B3 prog 34 [(G0 aB)] (sr (V.int .i64) r):=by
 unfold M7 at h
 refine I8 cf0 func34 call34 ntmps34 ?_;intro E H0 K hE hK hO;cbv;refine Ri hE (f:=V.bool) (by decide) (z0:=(false:Bool)) ((.refl _)) hO h fun l2 q1 H hq1 h hO=>?_;cbv;refine Pf hE hO hq1 0 rfl h (c90 N N aB l2) (.refl _) fun l3 H hq1 hO h=>?_;cbv;replace hO:=hO.tl0 (t:=.nil) rfl;obtain⟨s6,hx,h⟩:=bind_some h;refine W3 cf0 hE M4 (γ:=D7) (fun s4 g=>[(3,.v (.own q1.id q1.lo q1.n)),(4,.v (.sl (lst (V.int .i64) s4.1) g)),fi 5 s4.2]) (fun s4 g H1=>W6 g∧B8 Eq H0 [.tl g,ob q1 1 V.bool l3] H1) (fun x e l H1=>∃u1:D7,W6 u1∧e= .exit 0∧l=[(4,.v (.sl (lst (V.int .i64) x) u1))]∧B8 Eq H0 [.tl u1,ob q1 1 V.bool l3] H1) (by kernel_rfl) ?_ .nil hx ?_ ?_ ?_
 ·rintro s4 t5 H o ⟨ht5,hO⟩ h;clear hx;cbv;refine Td hE hq1 ?_;cbv;refine A8 hE h (fun _ h=>?_) fun _ h=>?_
  ·cbv;refine Iw hE hO hq1 1 rfl h fun h=>?_;cbv;refine Pc hE (fun _=>rfl) hO hq1 1 rfl h fun x7 h=>?_;cbv;refine A8 hE h (fun _ h=>?_) fun _ h=>?_
   ·cbv;refine Cd (f:=(V.int .i64)) hE (fun _=>rfl) (by decide) hO 0 rfl ht5 (l:=s4.1) (m:=[s4.2]) (.refl _) (.lstc (.refl _) (.lst0)) h fun l9 t8 H hO ht8 h=>?_;cbv;cases h;exact⟨_,t8,rfl,.e rfl (.e2 .z),rfl,ht8,hO⟩
   cbv;cases h;exact⟨_,t5,rfl,.e rfl (.e2 .z),rfl,ht5,hO⟩
  cbv;cases h;exact⟨_,_,rfl,⟨t5,ht5,rfl,rfl,hO⟩,.e rfl .z,rfl⟩
 ·exact .e rfl (.v (.slt _ (.lst0)) (.e rfl (.z)))
 ·exact⟨trivial,hO⟩
 clear hx;rintro e l H ⟨t10,ht10,rfl,rfl,hO⟩;cbv;cases h;exact hK hO (.ro _ _)
theorem c35 (N:Nat):∀n aB r,Q6 N n aB=some r→B3 prog 35 [(G0 aB)] (.bool r):=by
 intro n
 induction n with
 |zero=>intro aB r h;cases h
 |succ n ih=>
 intro aB r h
 unfold Q6 at h
 refine I8 cf0 func35 call35 ntmps35 ?_;intro E H0 K hE hK hO;cbv;refine A8 hE h (fun _ h=>?_) fun _ h=>?_
 ·cbv;cases h;exact hK hO (.refl _)
 cbv;refine A4 hE (g:=fun r1=>.bool r1) h (fun r1 hx=>c55 N aB.cO (.func (.func 35) [] []) (fun y1=>Q6 N n y1) (fun y1 r hx=>B3.value (F:=[]) (C:=[]) (ih y1 r hx)) r1 hx) (.refl _) fun r1 h=>?_;cbv;cases h;exact hK hO (.refl _)
theorem c91 (N aG aJ r) (h:W2 N aG aJ=some r):B3 prog 91 [sr (V.int .i64) aG,vi aJ] (vi r):=by
 unfold W2 at h
 refine I8 cf0 func91 call91 ntmps91 ?_;intro E H0 K hE hK hO;cbv;refine D4 hE ?_;cbv;obtain⟨s2,hx,h⟩:=bind_some h;refine E3 cf0 hE M4 (fun s1=>[(0,.v (sr (V.int .i64) aG)),fi 1 aJ,fi 7 (Ar.len aG),fi 8 s1]) (fun s1 H1=>B8 Eq H0 [] H1) (fun x e l H1=>match(generalizing:=false) x with| .inl y=>e= .exit 0∧l=[]∧B8 Eq H0 [] H1| .inr y=>e= .ret∧l=[fi 4 y]∧B8 Eq H0 [] H1) (by kernel_rfl) ?_ hx ?_ hO ?_
 ·intro s1 H o hO h;clear hx;cbv;refine A8 hE h (fun _ h=>?_) fun _ h=>?_
  ·cbv;refine B9 hE (fun _=>rfl) h fun x3 h=>?_;cbv;refine A8 hE h (fun _ h=>?_) fun _ h=>?_
   ·cbv;cases h;exact⟨_,_,rfl,⟨rfl,rfl,hO⟩,.e rfl .z,rfl⟩
   cbv;cases h;exact⟨_,rfl,.e4 .z,rfl,hO⟩
  cbv;cases h;exact⟨_,_,rfl,⟨rfl,rfl,hO⟩,.z,rfl⟩
 ·exact .e4 .z
 clear hx
 rcases s2 with y4|y5
 ·rintro e l H ⟨rfl,rfl,hO⟩;cbv;cases h;exact hK hO (.refl _)
 rintro e l H ⟨rfl,rfl,hO⟩;cbv;cases h;exact hK hO (.refl _)
theorem c36 (N aG aJ r)(h:G8 N aG aJ=some r):B3 prog 36 [sr (V.int .i64) aG,vi aJ] (.bool r):=by
 unfold G8 at h
 refine I8 cf0 func36 call36 ntmps36 ?_;intro E H0 K hE hK hO;cbv;refine A4 hE h (c91 N aG aJ) (.refl _) fun r1 h=>?_;cbv;cases h;exact hK hO (.refl _)
theorem c135 (N:Nat) (aG:List Int) (aU:V) (aT:Int→Option Bool) (bC:∀y1 q,aT y1=some q→Q7 prog aU [vi y1] (.bool q)) (r:Int) (h:P6 N aG aT=some r):B3 prog 135 [sr (V.int .i64) aG,aU] (vi r):=by
 unfold P6 at h
 refine I8 cf0 func135 call135 ntmps135 ?_;intro E H0 K hE hK hO;cbv;refine D4 hE ?_;cbv;obtain⟨s2,hx,h⟩:=bind_some h;refine E3 cf0 hE M4 (fun s1=>[(0,.v (sr (V.int .i64) aG)),(1,.v (aU)),fi 7 (Ar.len aG),fi 8 s1]) (fun s1 H1=>B8 Eq H0 [] H1) (fun x e l H1=>match(generalizing:=false) x with| .inl y=>e= .exit 0∧l=[]∧B8 Eq H0 [] H1| .inr y=>e= .ret∧l=[fi 4 y]∧B8 Eq H0 [] H1) (by kernel_rfl) ?_ hx ?_ hO ?_
 ·intro s1 H o hO h;clear hx;cbv;refine A8 hE h (fun _ h=>?_) fun _ h=>?_
  ·cbv;refine B9 hE (fun _=>rfl) h fun x3 h=>?_;cbv;refine Y5 hE (g:=fun r4=>.bool r4) h (fun r4 hx=>bC x3 r4 hx) (.refl _) fun r4 h=>?_;cbv;refine A8 hE h (fun _ h=>?_) fun _ h=>?_
   ·cbv;cases h;exact⟨_,_,rfl,⟨rfl,rfl,hO⟩,.e rfl .z,rfl⟩
   cbv;cases h;exact⟨_,rfl,.e4 .z,rfl,hO⟩
  cbv;cases h;exact⟨_,_,rfl,⟨rfl,rfl,hO⟩,.z,rfl⟩
 ·exact .e4 .z
 clear hx
 rcases s2 with y5|y6
 ·rintro e l H ⟨rfl,rfl,hO⟩;cbv;cases h;exact hK hO (.refl _)
 rintro e l H ⟨rfl,rfl,hO⟩;cbv;cases h;exact hK hO (.refl _)
theorem c92 (N:Nat)(aG:List Int)(aU:V)(aT:Int→Option Bool)(bC:∀y1 q,aT y1=some q→Q7 prog aU [vi y1] (.bool q))(r:Bool)(h:J0 N aG aT=some r):B3 prog 92 [sr (V.int .i64) aG,aU] (.bool r):=by
 unfold J0 at h
 refine I8 cf0 func92 call92 ntmps92 ?_;intro E H0 K hE hK hO;cbv;refine A4 hE h (c135 N aG aU aT bC) (.refl _) fun r1 h=>?_;cbv;cases h;exact hK hO (.refl _)
theorem c93 (N aJ r)(h:Ao N aJ=some r):B3 prog 93 [vi aJ] (.bool r):=by
 unfold Ao at h
 refine I8 cf0 func93 call93 ntmps93 ?_;intro E H0 K hE hK hO;cbv;cases h;exact hK hO (.refl _)
def cf37 :Cf:=⟨[2],[],[],[],[],[]⟩
theorem c37 (N aB r)(h:V0 N aB=some r):B3 prog 37 [(G0 aB)] (.tup [(G0 r.1),.bool r.2]):=by
 unfold V0 at h
 refine I8 cf37 func37 call37 ntmps37 ?_;intro E H0 K hE hK hO;cbv;refine C3 hE hO fun b1 H hO=>?_;cbv;refine A4 hE h (c34 N aB) (.refl _) fun r2 h=>?_;cbv;refine A4 hE (g:=fun r3=>.bool r3) h (fun r3 hx=>c92 N r2 (.func (.func 93) [] []) (fun y1=>Ao N y1) (fun y1 r hx=>B3.value (F:=[]) (C:=[]) (c93 N y1 r hx)) r3 hx) (.refl _) fun r3 h=>?_;cbv;refine A8 hE h (fun _ h=>?_) fun _ h=>?_
 ·cbv;refine A9 hE hO 0 rfl rfl fun H hO=>?_;cbv;refine B1 hE hO 0 rfl ?_;cbv;cases h;exact hK hO (.refl _)
 cbv;refine A4 hE h (c94 N aB ([0,0])) (.cons (.refl _) (.cons (.lit _ (D6 (rfl) (D6 (rfl) (C2)))) (.refl _))) fun r4 h=>?_;cbv;refine A9 hE hO 0 rfl rfl fun H hO=>?_;cbv;refine B1 hE hO 0 rfl ?_;cbv;cases h;exact hK hO (.refl _)
def cf7 :Cf:=⟨[4],[(33,10)],[],[],[],[]⟩
set_option maxHeartbeats 2000000 in
theorem c7 (N aI aN aF r) (h:S6 N aI aN aF=some r):B3 prog 7 [(B6 aI),(B6 aN),sr eAr6 aF] (.bool r):=by
 unfold S6 at h
 refine I8 cf7 func7 call7 ntmps7 ?_;intro E H0 K hE hK hO;cbv;refine C3 hE hO fun b1 H hO=>?_;cbv;refine B1 hE hO 0 rfl ?_;cbv;refine D4 hE ?_;cbv;refine A8 hE h (fun _ h=>?_) fun _ h=>?_
 ·cbv;refine A4 hE h (c13 N) (.refl _) fun r2 h=>?_;cbv;cases h;exact hK hO (.refl _)
 cbv;refine A4 hE h (c17 N aI aF) (.refl _) fun r3 h=>?_;cbv;refine A8 hE h (fun _ h=>?_) fun _ h=>?_
 ·cbv;refine A4 hE h (c13 N) (.refl _) fun r4 h=>?_;cbv;cases h;exact hK hO (.refl _)
 cbv;refine A4 hE h (c18 N aI aF) (.refl _) fun r5 h=>?_;cbv;refine A4 hE h (c18 N (⟨4,[aI],0,0,0,0,(⟨0,[],0,0,0,(⟨0,0,⟨#[]⟩⟩:A5)⟩:A3)⟩:A0) aF) (.cons (.agg (.cons (.refl _) (.cons (.lit _ (D6 ((eAr3 aI).symm) (C2))) (.cons (.refl _) (.cons (.refl _) (.cons (.refl _) (.cons (.refl _) (.cons (.refl _) (.cons (.lit _ (C2)) (.refl _)))))))))) (.refl _)) fun r6 h=>?_;cbv;refine A8 hE h (fun _ h=>?_) fun _ h=>?_
 ·cbv;cases h;exact hK hO (.refl _)
 cbv;refine A4 hE h (c34 N aI.cP) (.refl _) fun r7 h=>?_;cbv;refine D4 hE ?_;cbv;obtain⟨s9,hx,h⟩:=bind_some h;refine E3 cf7 hE M4 (fun s8=>[(2,.v (sr eAr6 aF)),(3,.v (.eref (C0 aI) 0)),(4,.v (.ref b1 0)),(7,.v (sr eAr5 r5.1)),(10,.v (sr eAr5 r6.1)),(70,.v (sr (V.int .i64) r7)),fi 71 (Ar.len r7),fi 72 s8]) (fun s8 H1=>B8 Eq H0 [cb b1 (C0 aN)] H1) (fun x e l H1=>match(generalizing:=false) x with| .inl y=>e= .exit 0∧l=[(2,.v (sr eAr6 aF)),(3,.v (.eref (C0 aI) 0)),(4,.v (.ref b1 0)),(7,.v (sr eAr5 r5.1)),(10,.v (sr eAr5 r6.1))]∧B8 Eq H0 [cb b1 (C0 aN)] H1| .inr y=>e= .ret∧l=[(6,.v (.bool y))]∧B8 Eq H0 [cb b1 (C0 aN)] H1) (by kernel_rfl) ?_ hx ?_ hO ?_
 ·intro s8 H o hO h;clear hx;cbv;refine A8 hE h (fun _ h=>?_) fun _ h=>?_
  ·cbv;refine B9 hE (fun _=>rfl) h fun x10 h=>?_;cbv;refine A8 hE h (fun _ h=>?_) fun _ h=>?_
   ·cbv;refine A4 hE h (c13 N) (.refl _) fun r11 h=>?_;cbv;cases h;exact⟨_,_,rfl,⟨rfl,rfl,hO⟩,.e rfl .z,rfl⟩
   cbv;cases h;exact⟨_,rfl,.e4 (.e4 .z),rfl,hO⟩
  cbv;cases h;exact⟨_,_,rfl,⟨rfl,rfl,hO⟩,.e rfl (.e4 .z),rfl⟩
 ·exact .e4 (.e4 .z)
 clear hx
 rcases s9 with y12|y52
 ·rintro e l H ⟨rfl,rfl,hO⟩;cbv;refine A4 hE h (c35 N N aI.cP) (.refl _) fun r13 h=>?_;cbv;refine D4 hE ?_;cbv;refine D4 hE ?_;cbv;refine A8 hE h (fun _ h=>?_) fun _ h=>?_
  ·cbv;refine ZR hE h fun h=>?_;cbv;refine A8 hE h (fun _ h=>?_) fun _ h=>?_
   ·cbv;cases h;exact hK hO (.refl _)
   cbv;refine A9 hE hO 0 rfl rfl fun H hO=>?_;cbv;refine B1 hE hO 0 rfl ?_;cbv;refine A4 hE h (c17 N (⟨1,[aI,{aN with Var:=1}],0,0,0,0,(⟨0,[],0,0,0,(⟨0,0,⟨#[]⟩⟩:A5)⟩:A3)⟩:A0) aF) (.cons (.agg (.cons (.refl _) (.cons (.lit _ (D6 ((eAr3 aI).symm) (D6 ((eAr3 ({aN with Var:=1})).symm) (C2)))) (.cons (.refl _) (.cons (.refl _) (.cons (.refl _) (.cons (.refl _) (.cons (.refl _) (.cons (.lit _ (C2)) (.refl _)))))))))) (.refl _)) fun r14 h=>?_;cbv;refine B1 hE hO 0 rfl ?_;cbv;refine A8 hE h (fun _ h=>?_) fun _ h=>?_
   ·cbv;refine A4 hE h (c13 N) (.refl _) fun r15 h=>?_;cbv;cases h;exact hK hO (.refl _)
   cbv;refine A4 hE h (c34 N aN.cP) (.refl _) fun r16 h=>?_;cbv;refine A4 hE h (c36 N r16 0) (.refl _) fun r17 h=>?_;cbv;refine A8 hE h (fun _ h=>?_) fun _ h=>?_
   ·cbv;refine A4 hE h (c13 N) (.refl _) fun r18 h=>?_;cbv;cases h;exact hK hO (.refl _)
   cbv;refine A4 hE h (c18 N (⟨1,[aI,{aN with Var:=1}],0,0,0,0,(⟨0,[],0,0,0,(⟨0,0,⟨#[]⟩⟩:A5)⟩:A3)⟩:A0) aF) (.cons (.agg (.cons (.refl _) (.cons (.lit _ (D6 ((eAr3 aI).symm) (D6 ((eAr3 ({aN with Var:=1})).symm) (C2)))) (.cons (.refl _) (.cons (.refl _) (.cons (.refl _) (.cons (.refl _) (.cons (.refl _) (.cons (.lit _ (C2)) (.refl _)))))))))) (.refl _)) fun r19 h=>?_;cbv;refine A9 hE hO 0 rfl rfl fun H hO=>?_;cbv;refine B1 hE hO 0 rfl ?_;cbv;refine A4 hE h (c37 N aN.cP) (.refl _) fun r20 h=>?_;cbv;refine A9 hE hO 0 rfl rfl fun H hO=>?_;cbv;refine A8 hE h (fun _ h=>?_) fun _ h=>?_
   ·cbv;refine A8 hE h (fun _ h=>?_) fun _ h=>?_
    ·cbv;refine A4 hE h (c13 N) (.refl _) fun r21 h=>?_;cbv;cases h;exact hK hO (.refl _)
    cbv;cases h;exact hK hO (.refl _)
   cbv;refine B1 hE hO 0 rfl ?_;cbv;refine A4 hE h (c18 N ({aN with Var:=0,cP:=r20.1}) aF) (.refl _) fun r22 h=>?_;cbv;refine D4 hE ?_;cbv;obtain⟨s24,hx,h⟩:=bind_some h;refine E3 cf7 hE M4 (fun s23=>[(11,.v (.bool r22.2)),(15,.v (sr eAr5 r19.1)),(16,.v (sr eAr5 r22.1)),fi 17 s23.1,(139,.v (sr eAr5 r5.1)),fi 140 (Ar.len r5.1),fi 141 s23.2]) (fun s23 H1=>B8 Eq H0 [cb b1 [vi aN.Op,sr eAr4 aN.cO,vi aN.Typ,vi 0,vi aN.cR,vi aN.Span,vi r20.1.Op,sr eAr7 r20.1.cO,vi r20.1.Var,vi r20.1.Field,vi r20.1.Kind,vi r20.1.Value.Kind,vi r20.1.Value.Num,.str r20.1.Value.Text]] H1) (fun x e l H1=>e= .exit 2∧l=[(11,.v (.bool r22.2)),(15,.v (sr eAr5 r19.1)),fi 17 x]∧B8 Eq H0 [cb b1 [vi aN.Op,sr eAr4 aN.cO,vi aN.Typ,vi 0,vi aN.cR,vi aN.Span,vi r20.1.Op,sr eAr7 r20.1.cO,vi r20.1.Var,vi r20.1.Field,vi r20.1.Kind,vi r20.1.Value.Kind,vi r20.1.Value.Num,.str r20.1.Value.Text]] H1) (by kernel_rfl) ?_ hx ?_ hO ?_
   ·intro s23 H o hO h;clear hx;cbv;refine A8 hE h (fun _ h=>?_) fun _ h=>?_
    ·cbv;refine B9 hE eAs4 h fun x25 h=>?_;cbv;refine D4 hE ?_;cbv;obtain⟨s27,hx,h⟩:=bind_some h;refine E3 cf7 hE M4 (fun s26=>[(11,.v (.bool r22.2)),(15,.v (sr eAr5 r19.1)),(16,.v (sr eAr5 r22.1)),fi 17 s26.1,(19,.v (.eref (DG x25) 0)),(139,.v (sr eAr5 r5.1)),fi 140 (Ar.len r5.1),fi 141 s23.2,(145,.v (sr eAr5 r22.1)),fi 146 (Ar.len r22.1),fi 147 s26.2]) (fun s26 H1=>B8 Eq H0 [cb b1 [vi aN.Op,sr eAr4 aN.cO,vi aN.Typ,vi 0,vi aN.cR,vi aN.Span,vi r20.1.Op,sr eAr7 r20.1.cO,vi r20.1.Var,vi r20.1.Field,vi r20.1.Kind,vi r20.1.Value.Kind,vi r20.1.Value.Num,.str r20.1.Value.Text]] H1) (fun x e l H1=>e= .exit 4∧l=[(11,.v (.bool r22.2)),(15,.v (sr eAr5 r19.1)),(16,.v (sr eAr5 r22.1)),fi 17 x,(139,.v (sr eAr5 r5.1)),fi 140 (Ar.len r5.1),fi 141 s23.2]∧B8 Eq H0 [cb b1 [vi aN.Op,sr eAr4 aN.cO,vi aN.Typ,vi 0,vi aN.cR,vi aN.Span,vi r20.1.Op,sr eAr7 r20.1.cO,vi r20.1.Var,vi r20.1.Field,vi r20.1.Kind,vi r20.1.Value.Kind,vi r20.1.Value.Num,.str r20.1.Value.Text]] H1) (by kernel_rfl) ?_ hx ?_ hO ?_
     ·intro s26 H o hO h;clear hx;cbv;refine A8 hE h (fun _ h=>?_) fun _ h=>?_
      ·cbv;refine B9 hE eAs4 h fun x28 h=>?_;cbv;refine B9 hE eAs5 h fun x29 h=>?_;cbv;refine B9 hE eAs5 h fun x30 h=>?_;cbv;refine A4 hE h (c38 N x29.Ref x30.Ref) (.refl _) fun r31 h=>?_;cbv;refine A8 hE h (fun _ h=>?_) fun _ h=>?_
       ·cbv;cases h;exact⟨_,rfl,.e rfl (.e2 (.e4 (.e4 .z))),rfl,hO⟩
       cbv;cases h;exact⟨_,rfl,.e rfl (.e2 (.e4 (.e4 .z))),rfl,hO⟩
      cbv;cases h;exact⟨_,_,rfl,⟨rfl,rfl,hO⟩,.e rfl (.e2 (.e4 .z)),rfl⟩
     ·exact .e rfl (.e2 (.e4 (.e4 .z)))
     clear hx;rintro e l H ⟨rfl,rfl,hO⟩;cbv;cases h;exact⟨_,rfl,.e rfl (.e2 (.e4 .z)),rfl,hO⟩
    cbv;cases h;exact⟨_,_,rfl,⟨rfl,rfl,hO⟩,.e rfl (.e2 .z),rfl⟩
   ·exact .e rfl (.e2 (.e4 .z))
   clear hx;rintro e l H ⟨rfl,rfl,hO⟩;cbv;refine D4 hE ?_;cbv;refine A8 hE h (fun _ h=>?_) fun _ h=>?_
   ·cbv;refine A4 hE h (c13 N) (.refl _) fun r32 h=>?_;cbv;cases h;exact hK hO (.refl _)
   cbv;cases h;exact hK hO (.refl _)
  cbv;refine A9 hE hO 0 rfl rfl fun H hO=>?_;cbv;refine B1 hE hO 0 rfl ?_;cbv;refine A4 hE h (c17 N (⟨1,[aI,{aN with Var:=1}],0,0,0,0,(⟨0,[],0,0,0,(⟨0,0,⟨#[]⟩⟩:A5)⟩:A3)⟩:A0) aF) (.cons (.agg (.cons (.refl _) (.cons (.lit _ (D6 ((eAr3 aI).symm) (D6 ((eAr3 ({aN with Var:=1})).symm) (C2)))) (.cons (.refl _) (.cons (.refl _) (.cons (.refl _) (.cons (.refl _) (.cons (.refl _) (.cons (.lit _ (C2)) (.refl _)))))))))) (.refl _)) fun r33 h=>?_;cbv;refine B1 hE hO 0 rfl ?_;cbv;refine A8 hE h (fun _ h=>?_) fun _ h=>?_
  ·cbv;refine A4 hE h (c13 N) (.refl _) fun r34 h=>?_;cbv;cases h;exact hK hO (.refl _)
  cbv;refine A4 hE h (c34 N aN.cP) (.refl _) fun r35 h=>?_;cbv;refine A4 hE h (c36 N r35 0) (.refl _) fun r36 h=>?_;cbv;refine A8 hE h (fun _ h=>?_) fun _ h=>?_
  ·cbv;refine A4 hE h (c13 N) (.refl _) fun r37 h=>?_;cbv;cases h;exact hK hO (.refl _)
  cbv;refine A4 hE h (c18 N (⟨1,[aI,{aN with Var:=1}],0,0,0,0,(⟨0,[],0,0,0,(⟨0,0,⟨#[]⟩⟩:A5)⟩:A3)⟩:A0) aF) (.cons (.agg (.cons (.refl _) (.cons (.lit _ (D6 ((eAr3 aI).symm) (D6 ((eAr3 ({aN with Var:=1})).symm) (C2)))) (.cons (.refl _) (.cons (.refl _) (.cons (.refl _) (.cons (.refl _) (.cons (.refl _) (.cons (.lit _ (C2)) (.refl _)))))))))) (.refl _)) fun r38 h=>?_;cbv;refine A9 hE hO 0 rfl rfl fun H hO=>?_;cbv;refine B1 hE hO 0 rfl ?_;cbv;refine A4 hE h (c37 N aN.cP) (.refl _) fun r39 h=>?_;cbv;refine A9 hE hO 0 rfl rfl fun H hO=>?_;cbv;refine A8 hE h (fun _ h=>?_) fun _ h=>?_
  ·cbv;refine A8 hE h (fun _ h=>?_) fun _ h=>?_
   ·cbv;refine A4 hE h (c13 N) (.refl _) fun r40 h=>?_;cbv;cases h;exact hK hO (.refl _)
   cbv;cases h;exact hK hO (.refl _)
  cbv;refine B1 hE hO 0 rfl ?_;cbv;refine A4 hE h (c18 N ({aN with Var:=0,cP:=r39.1}) aF) (.refl _) fun r41 h=>?_;cbv;refine D4 hE ?_;cbv;obtain⟨s43,hx,h⟩:=bind_some h;refine E3 cf7 hE M4 (fun s42=>[(11,.v (.bool r41.2)),(15,.v (sr eAr5 r38.1)),(16,.v (sr eAr5 r41.1)),fi 17 s42.1,(139,.v (sr eAr5 r5.1)),fi 140 (Ar.len r5.1),fi 141 s42.2]) (fun s42 H1=>B8 Eq H0 [cb b1 [vi aN.Op,sr eAr4 aN.cO,vi aN.Typ,vi 0,vi aN.cR,vi aN.Span,vi r39.1.Op,sr eAr7 r39.1.cO,vi r39.1.Var,vi r39.1.Field,vi r39.1.Kind,vi r39.1.Value.Kind,vi r39.1.Value.Num,.str r39.1.Value.Text]] H1) (fun x e l H1=>e= .exit 2∧l=[(11,.v (.bool r41.2)),(15,.v (sr eAr5 r38.1)),fi 17 x]∧B8 Eq H0 [cb b1 [vi aN.Op,sr eAr4 aN.cO,vi aN.Typ,vi 0,vi aN.cR,vi aN.Span,vi r39.1.Op,sr eAr7 r39.1.cO,vi r39.1.Var,vi r39.1.Field,vi r39.1.Kind,vi r39.1.Value.Kind,vi r39.1.Value.Num,.str r39.1.Value.Text]] H1) (by kernel_rfl) ?_ hx ?_ hO ?_
  ·intro s42 H o hO h;clear hx;cbv;refine A8 hE h (fun _ h=>?_) fun _ h=>?_
   ·cbv;refine B9 hE eAs4 h fun x44 h=>?_;cbv;refine D4 hE ?_;cbv;obtain⟨s46,hx,h⟩:=bind_some h;refine E3 cf7 hE M4 (fun s45=>[(11,.v (.bool r41.2)),(15,.v (sr eAr5 r38.1)),(16,.v (sr eAr5 r41.1)),fi 17 s45.1,(19,.v (.eref (DG x44) 0)),(139,.v (sr eAr5 r5.1)),fi 140 (Ar.len r5.1),fi 141 s42.2,(145,.v (sr eAr5 r41.1)),fi 146 (Ar.len r41.1),fi 147 s45.2]) (fun s45 H1=>B8 Eq H0 [cb b1 [vi aN.Op,sr eAr4 aN.cO,vi aN.Typ,vi 0,vi aN.cR,vi aN.Span,vi r39.1.Op,sr eAr7 r39.1.cO,vi r39.1.Var,vi r39.1.Field,vi r39.1.Kind,vi r39.1.Value.Kind,vi r39.1.Value.Num,.str r39.1.Value.Text]] H1) (fun x e l H1=>e= .exit 4∧l=[(11,.v (.bool r41.2)),(15,.v (sr eAr5 r38.1)),(16,.v (sr eAr5 r41.1)),fi 17 x,(139,.v (sr eAr5 r5.1)),fi 140 (Ar.len r5.1),fi 141 s42.2]∧B8 Eq H0 [cb b1 [vi aN.Op,sr eAr4 aN.cO,vi aN.Typ,vi 0,vi aN.cR,vi aN.Span,vi r39.1.Op,sr eAr7 r39.1.cO,vi r39.1.Var,vi r39.1.Field,vi r39.1.Kind,vi r39.1.Value.Kind,vi r39.1.Value.Num,.str r39.1.Value.Text]] H1) (by kernel_rfl) ?_ hx ?_ hO ?_
    ·intro s45 H o hO h;clear hx;cbv;refine A8 hE h (fun _ h=>?_) fun _ h=>?_
     ·cbv;refine B9 hE eAs4 h fun x47 h=>?_;cbv;refine B9 hE eAs5 h fun x48 h=>?_;cbv;refine B9 hE eAs5 h fun x49 h=>?_;cbv;refine A4 hE h (c38 N x48.Ref x49.Ref) (.refl _) fun r50 h=>?_;cbv;refine A8 hE h (fun _ h=>?_) fun _ h=>?_
      ·cbv;cases h;exact⟨_,rfl,.e rfl (.e2 (.e4 (.e4 .z))),rfl,hO⟩
      cbv;cases h;exact⟨_,rfl,.e rfl (.e2 (.e4 (.e4 .z))),rfl,hO⟩
     cbv;cases h;exact⟨_,_,rfl,⟨rfl,rfl,hO⟩,.e rfl (.e2 (.e4 .z)),rfl⟩
    ·exact .e rfl (.e2 (.e4 (.e4 .z)))
    clear hx;rintro e l H ⟨rfl,rfl,hO⟩;cbv;cases h;exact⟨_,rfl,.e rfl (.e2 (.e4 .z)),rfl,hO⟩
   cbv;cases h;exact⟨_,_,rfl,⟨rfl,rfl,hO⟩,.e rfl (.e2 .z),rfl⟩
  ·exact .e rfl (.e2 (.e4 .z))
  clear hx;rintro e l H ⟨rfl,rfl,hO⟩;cbv;refine D4 hE ?_;cbv;refine A8 hE h (fun _ h=>?_) fun _ h=>?_
  ·cbv;refine A4 hE h (c13 N) (.refl _) fun r51 h=>?_;cbv;cases h;exact hK hO (.refl _)
  cbv;cases h;exact hK hO (.refl _)
 rintro e l H ⟨rfl,rfl,hO⟩;cbv;cases h;exact hK hO (.refl _)
end Go.Ab
namespace Go.Ab
mutual
def A3.bulk :A3→Nat
 |⟨_,args,_,_,_,v⟩=>A3.bulks args+v.Text.size+9
def A3.bulks :List A3→Nat
 |[]=>1
 |a::r=>A3.bulk a+A3.bulks r
end
mutual
def A0.bulk :A0→Nat
 |⟨_,args,_,_,_,_,c⟩=>A0.bulks args+A3.bulk c+6
def A0.bulks :List A0→Nat
 |[]=>1
 |a::r=>A0.bulk a+A0.bulks r
end
end Go.Ab
namespace Go.Ab
mutual
def A3.pre :A3→List A3
 |⟨op,args,var,field,kind,val⟩=>⟨op,args,var,field,kind,val⟩::A3.pres args
def A3.pres :List A3→List A3
 |[]=>[]
 |a::r=>A3.pre a++A3.pres r
end
mutual
def A3.dep :A3→Nat
 |⟨_,args,_,_,_,_⟩=>A3.deps args+1
def A3.deps :List A3→Nat
 |[]=>0
 |a::r=>max (A3.dep a) (A3.deps r)
end
mutual
def A0.pre :A0→List A0
 |⟨op,args,typ,var,scope,span,c⟩=>⟨op,args,typ,var,scope,span,c⟩::A0.pres args
def A0.pres :List A0→List A0
 |[]=>[]
 |a::r=>A0.pre a++A0.pres r
end
mutual
def A0.dep :A0→Nat
 |⟨_,args,_,_,_,_,_⟩=>A0.deps args+1
def A0.deps :List A0→Nat
 |[]=>0
 |a::r=>max (A0.dep a) (A0.deps r)
end
theorem A3.pre_eq (x:A3):x.pre=x::A3.pres x.cO:=by cases x;simp[A3.pre]
theorem A0.pre_eq (x:A0):x.pre=x::A0.pres x.cO:=by cases x;simp[A0.pre]
theorem A3.dep_eq (x:A3):x.dep=A3.deps x.cO+1:=by cases x;simp[A3.dep]
theorem A0.dep_eq (x:A0):x.dep=A0.deps x.cO+1:=by cases x;simp[A0.dep]
theorem A3.bulk_eq (x:A3):x.bulk=A3.bulks x.cO+x.Value.Text.size+9:=by cases x;simp[A3.bulk]
theorem A0.bulk_eq (x:A0):x.bulk=A0.bulks x.cO+x.cP.bulk+6:=by cases x;simp[A0.bulk]
theorem Lu :∀(l:List A3),(∀a∈l,A3.bulk a≤A3.bulks l)∧l.length≤A3.bulks l
 |[]=>⟨fun a h=>by simp at h,by simp[A3.bulks]⟩
 |b::l=>by
  have h:=Lu l;have hb:=A3.bulk_eq b;simp only[A3.bulks,List.length_cons];refine⟨fun a ha=>?_,by omega⟩
  rcases List.mem_cons.1 ha with rfl|ha
  ·omega
  have:=h.1 a ha;omega
theorem Lt :∀(l:List A0),(∀a∈l,A0.bulk a≤A0.bulks l)∧l.length≤A0.bulks l
 |[]=>⟨fun a h=>by simp at h,by simp[A0.bulks]⟩
 |b::l=>by
  have h:=Lt l;have hb:=A0.bulk_eq b;simp only[A0.bulks,List.length_cons];refine⟨fun a ha=>?_,by omega⟩
  rcases List.mem_cons.1 ha with rfl|ha
  ·omega
  have:=h.1 a ha;omega
mutual
theorem SY :∀x:A3,x.pre.length≤x.bulk
 |⟨op,args,var,field,kind,val⟩=>by
  have:=EC args;simp only[A3.pre,A3.bulk,List.length_cons];omega
theorem EC :∀l:List A3,(A3.pres l).length≤A3.bulks l
 |[]=>by simp[A3.pres]
 |a::l=>by
  have h1:=SY a;have h2:=EC l;simp only[A3.pres,A3.bulks,List.length_append];omega
end
mutual
theorem DY :∀x:A0,x.pre.length≤x.bulk
 |⟨op,args,typ,var,scope,span,c⟩=>by
  have:=EB args;simp only[A0.pre,A0.bulk,List.length_cons];omega
theorem EB :∀l:List A0,(A0.pres l).length≤A0.bulks l
 |[]=>by simp[A0.pres]
 |a::l=>by
  have h1:=DY a;have h2:=EB l;simp only[A0.pres,A0.bulks,List.length_append];omega
end
mutual
theorem MT :∀x:A3,x.dep≤x.bulk
 |⟨op,args,var,field,kind,val⟩=>by
  have:=EL args;simp only[A3.dep,A3.bulk];omega
theorem EL :∀l:List A3,A3.deps l≤A3.bulks l
 |[]=>by simp[A3.deps]
 |a::l=>by
  have h1:=MT a;have h2:=EL l;simp only[A3.deps,A3.bulks];omega
end
mutual
theorem TG :∀x:A0,x.dep≤x.bulk
 |⟨op,args,typ,var,scope,span,c⟩=>by
  have:=EK args;simp only[A0.dep,A0.bulk];omega
theorem EK :∀l:List A0,A0.deps l≤A0.bulks l
 |[]=>by simp[A0.deps]
 |a::l=>by
  have h1:=TG a;have h2:=EK l;simp only[A0.deps,A0.bulks];omega
end
def Cut (lim:Int)(cnt:Nat)(r:Int):Prop:=1≤r∧r≤cnt∧(r=cnt∨lim<r)
section
variable {α:Type}
theorem GP {lim:Int} {f:α→Option Int} {cnt:α→Nat} {B:Nat} (hB:B≤1000000000000):∀(l:List α) (s:Int),0≤s→s+(l.map cnt).sum≤B→(∀a∈l,∃r,f a=some r∧Cut lim (cnt a) r)→
 ∃o,H7 (fun(s:Int) x=>if s≤lim then(f x).bind fun r=>some (.inl (ar .add .i64 s r))else some (.inr s)) l s=some o∧
  ∃v,v=(match o with| .inl s=>s| .inr s=>s)∧s≤v∧v≤s+(l.map cnt).sum∧(v=s+(l.map cnt).sum∨lim<v)
 |[],s,h0,_,_=>⟨.inl s,rfl,s,rfl,Int.le_refl _,by simp,.inl (by simp)⟩
 | a::l,s,h0,hb,hf=>by
  simp only[List.map_cons,List.sum_cons]at hb ⊢
  unfold H7
  by_cases hs:s≤lim
  ·obtain⟨r,h1,h2,h3,h4⟩:=hf a (by simp);simp only[if_pos hs,h1,Option.bind_some];have e:ar .add .i64 s r=s+r:=C5 (by omega) (by omega);rw[e];obtain⟨o,k1,v,k2,k3,k4,k5⟩:=GP hB l (s+r) (by omega) (by omega) fun b hb=>hf b (by simp[hb]);refine⟨o,k1,v,k2,by omega,by omega,?_⟩
   rcases k5 with k5|k5
   ·rcases h4 with h4|h4
    ·left;omega
    right;omega
   exact .inr k5
  simp only[if_neg hs];exact⟨_,rfl,s,rfl,Int.le_refl _,by omega,.inr (by omega)⟩
end
theorem Ig :∀l:List A0,(l.map fun a=>a.pre.length).sum=(A0.pres l).length
 |[]=>rfl
 |a::l=>by simp[A0.pres,Ig l]
theorem Ih :∀l:List A3,(l.map fun a=>a.pre.length).sum=(A3.pres l).length
 |[]=>rfl
 |a::l=>by simp[A3.pres,Ih l]
theorem Qh {N:Nat} (hN:40000000≤N) (lim:Int):∀(n:Nat) (x:A0),x.bulk≤n→x.bulk≤16777216→∃r,U6 N n x lim=some r∧Cut lim x.pre.length r:=by
 intro n
 induction n with
 |zero=>intro x h;have:=A0.bulk_eq x;omega
 | succ n ih=>
  intro x hx hb;have hxb:=A0.bulk_eq x;have hB:=Lt x.cO;have hpb:=EB x.cO;unfold U6;rw[I7 x.cO (by omega) (mk:=fun(s:Int) i=>(s,i)) (body:=fun(s:Int) a=>if s≤lim then(U6 N n a lim).bind fun r=>some (.inl (ar .add .i64 s r))else some (.inr s)) (fin:=fun s=>s) (s:=1) (by omega) ?_ ?_]
  ·obtain⟨o,k1,v,k2,k3,k4,k5⟩:=GP (lim:=lim) (f:=fun a=>U6 N n a lim) (cnt:=fun a=>a.pre.length) (B:=40000000) (by omega) x.cO 1 (by omega) (by rw[Ig];omega) fun a ha=>ih a (by have:=hB.1 a ha;omega) (by have:=hB.1 a ha;omega)
   rw[Ig]at k4 k5
   have hpe:x.pre.length=(A0.pres x.cO).length+1:=by rw[A0.pre_eq];rfl
   simp only[k1,Option.bind_some];refine⟨v,?_,by omega,by omega,?_⟩
   ·cases o<;>simp_all
   rcases k5 with k5|k5
   ·left;omega
   right;exact k5
  ·intro s i a ha hi;have e:ar .add .i64 (i:Int) 1=i+1:=C5 (by omega) (by omega);simp only[C1,DF,L4,B5,hi,decide_true,Bool.true_and,D9,ha,Option.bind_some,e,decide_eq_true_eq]
   split
   ·cases U6 N n a lim<;>rfl
   rfl
  intro s;simp[C1,L4,B5]
end Go.Ab
namespace Go.Ab
theorem Jk {x a:A0}(h:a∈x.cO):a.bulk<x.bulk:=by
 have h1:=(Lt x.cO).1 a h;have h2:=A0.bulk_eq x;omega
theorem Q5 {x a:A3}(h:a∈x.cO):a.bulk<x.bulk:=by
 have h1:=(Lu x.cO).1 a h;have h2:=A3.bulk_eq x;omega
theorem Jo (x:A0):x.cO.length≤x.bulk:=by
 have h1:=(Lt x.cO).2;have h2:=A0.bulk_eq x;omega
theorem AQ (x:A3):x.cO.length≤x.bulk:=by
 have h1:=(Lu x.cO).2;have h2:=A3.bulk_eq x;omega
theorem JD (x:A0):0<x.bulk:=by have:=A0.bulk_eq x;omega
theorem Y2 (x:A3):0<x.bulk:=by have:=A3.bulk_eq x;omega
theorem RI {N:Nat} (hN:40000000≤N):∀(n:Nat) (x:A0),x.bulk≤n→x.bulk≤16777216→U7 N n x=some (x.dep:Int):=by
 intro n
 induction n with
 |zero=>intro x h;have:=JD x;omega
 | succ n ih=>
  intro x hx hb;have hl:=Jo x;unfold U7;rw[I7 x.cO (by omega) (mk:=fun(s:Int) i=>(s,i)) (body:=fun(s:Int) a=>(U7 N n a).bind fun r=>some (.inl (mx s r))) (fin:=fun s=>s) (s:=0) (by omega) ?_ ?_]
  ·obtain⟨s',k1,k2⟩:=Z0 (R:=Int) (step:=fun(s:Int) a=>(U7 N n a).bind fun r=>some (.inl (mx s r))) (fun r s=>(∀a∈r,a∈x.cO)∧0≤s∧max s (A0.deps r:Int)=(A0.deps x.cO:Int)) (fun a r s ⟨h1,h2,h3⟩=>by
    have hm:=Jk (h1 a (by simp));refine⟨_,by rw[ih a (by omega) (by omega)];rfl,fun b hb=>h1 b (by simp[hb]),?_,?_⟩
    ·rw[GX];split<;>omega
    rw[←h3,GX];simp only[A0.deps];split<;>omega) (l:=x.cO) (s:=0) ⟨fun a h=>h,Int.le_refl _,by omega⟩
   simp only[k1,Option.bind_some]
   have e:s'=(A0.deps x.cO:Int):=by have:=k2.2.2;simp only[A0.deps]at this;omega
   have hd:=EK x.cO;have hd2:=A0.bulk_eq x;rw[e,C5 (by omega) (by omega),A0.dep_eq];rfl
  ·intro s i a ha hi;have e:ar .add .i64 (i:Int) 1=i+1:=C5 (by omega) (by omega);simp only[C1,B5,hi,decide_true,if_true,D9,ha,Option.bind_some,e];cases U7 N n a<;>rfl
  intro s;simp[C1,B5]
theorem Y6 {α:Type}{l m:List α}(h:l.length+m.length≤1073741824):N6 l m=some (l++m):=by simp[N6,h]
theorem Mk {N:Nat} (hN:40000000≤N):∀(n:Nat) (x:A0),x.bulk≤n→x.bulk≤16777216→K7 N n x=some x.pre:=by
 intro n
 induction n with
 |zero=>intro x h;have:=JD x;omega
 | succ n ih=>
  intro x hx hb;have hl:=Jo x;unfold K7;rw[I7 x.cO (by omega) (mk:=fun(s:List A0) i=>(s,i)) (body:=fun(s:List A0) a=>(K7 N n a).bind fun r=>(N6 s r).bind fun l=>some (.inl l)) (fin:=fun s=>s) (s:=[x]) (by omega) ?_ ?_]
  ·have hp:=DY x;have hpe:=A0.pre_eq x
   obtain⟨s',k1,k2⟩:=Z0 (R:=List A0) (step:=fun(s:List A0) a=>(K7 N n a).bind fun r=>(N6 s r).bind fun l=>some (.inl l)) (fun r s=>(∀a∈r,a∈x.cO)∧s++A0.pres r=x.pre) (fun a r s ⟨h1,h2⟩=>by
    have hm:=Jk (h1 a (by simp));have hlen:=congrArg List.length h2
    simp only[A0.pres,List.length_append]at hlen
    refine⟨_,by rw[ih a (by omega) (by omega)];simp only[Option.bind_some];rw[Y6 (by omega)];rfl,fun b hb=>h1 b (by simp[hb]),?_⟩
    rw[←h2];simp[A0.pres]) (l:=x.cO) (s:=[x]) ⟨fun a h=>h,by rw[hpe];rfl⟩
   simp only[k1,Option.bind_some];have:=k2.2
   simp only[A0.pres,List.append_nil]at this
   rw[this]
  ·intro s i a ha hi;have e:ar .add .i64 (i:Int) 1=i+1:=C5 (by omega) (by omega);simp only[C1,B5,hi,decide_true,if_true,D9,ha,Option.bind_some,e]
   cases K7 N n a with
   |none=>rfl
   |some r=>simp only[Option.bind_some];cases N6 s r<;>rfl
  intro s;simp[C1,B5]
theorem Zr {N:Nat} (hN:40000000≤N):∀(n:Nat) (x:A0),x.bulk≤n→x.bulk≤16777216→U2 N n x=some ((x.pre.length:Int),(x.dep:Int)):=by
 intro n
 induction n with
 |zero=>intro x h;have:=JD x;omega
 | succ n ih=>
  intro x hx hb;have hl:=Jo x;unfold U2;rw[I7 x.cO (by omega) (mk:=fun(s:Int×Int) i=>(s.1,s.2,i)) (body:=fun(s:Int×Int) a=>(U2 N n a).bind fun r=>some (.inl (ar .add .i64 s.1 r.1,mx s.2 r.2))) (fin:=fun s=>s) (s:=(1,0)) (by omega) ?_ ?_]
  ·have hp:=EB x.cO;have hd:=EK x.cO;have hbe:=A0.bulk_eq x
   obtain⟨s',k1,k2⟩:=Z0 (R:=Int×Int) (step:=fun(s:Int×Int) a=>(U2 N n a).bind fun r=>some (.inl (ar .add .i64 s.1 r.1,mx s.2 r.2))) (fun r s=>(∀a∈r,a∈x.cO)∧0≤s.2∧0≤s.1∧s.1+(A0.pres r).length=(A0.pres x.cO).length+1∧max s.2 (A0.deps r:Int)=(A0.deps x.cO:Int)) (fun a r s ⟨h1,h2,h3,h4,h5⟩=>by
    have hm:=Jk (h1 a (by simp))
    simp only[A0.pres,List.length_append,A0.deps]at h4 h5
    refine⟨_,by rw[ih a (by omega) (by omega)];rfl,fun b hb=>h1 b (by simp[hb]),?_,?_,?_,?_⟩
    ·simp only[GX];split<;>omega
    ·rw[C5 (by omega) (by omega)];omega
    ·rw[C5 (by omega) (by omega)];omega
    rw[←h5];simp only[GX];split<;>omega) (l:=x.cO) (s:=(1,0)) ⟨fun a h=>h,by simp,by simp,by simp only;omega,by simp only;omega⟩
   simp only[k1,Option.bind_some];obtain⟨_,_,_,e1,e2⟩:=k2
   simp only[A0.pres,List.length_nil,A0.deps]at e1 e2
   have e3:s'.1=(x.pre.length:Int):=by rw[A0.pre_eq];simp only[List.length_cons];omega
   have e4:s'.2=(A0.deps x.cO:Int):=by omega
   rw[e3,e4,C5 (by omega) (by omega),A0.dep_eq];rfl
  ·intro s i a ha hi;have e:ar .add .i64 (i:Int) 1=i+1:=C5 (by omega) (by omega);simp only[C1,B5,hi,decide_true,if_true,D9,ha,Option.bind_some,e];cases U2 N n a<;>rfl
  intro s;simp[C1,B5]
theorem Zj {N:Nat} (hN:40000000≤N):∀(n:Nat) (x:A0),x.bulk≤n→x.bulk≤16777216→U1 N n x=some x.pre:=by
 intro n
 induction n with
 |zero=>intro x h;have:=JD x;omega
 | succ n ih=>
  intro x hx hb;have hl:=Jo x;unfold U1;rw[Ti x.cO (mk:=fun(_:Unit) i=>i) (body:=fun(_:Unit) a=>(U1 N n a).bind fun l=>some (l,.inl ())) (fin:=fun _=>()) (s:=()) (by omega) ?_ ?_]
  ·obtain⟨w,s',k1,k2⟩:=Ma (R:=Unit) (step:=fun(_:Unit) a=>(U1 N n a).bind fun l=>some (l,.inl ())) (fun r w s=>(∀a∈r,a∈x.cO)∧w++A0.pres r=A0.pres x.cO) (fun a r w s ⟨h1,h2⟩=>by
    have hm:=Jk (h1 a (by simp));refine⟨a.pre,(),by rw[ih a (by omega) (by omega)];rfl,fun b hb=>h1 b (by simp[hb]),?_⟩
    rw[←h2];simp[A0.pres]) (l:=x.cO) (w:=[]) (s:=()) ⟨fun a h=>h,by simp⟩
   have e:w=A0.pres x.cO:=by have:=k2.2;simpa[A0.pres]using this
   rw[k1,e,A0.pre_eq];simp[N5]
  ·intro s i a ha hi;have e:ar .add .i64 (i:Int) 1=i+1:=C5 (by omega) (by omega);simp only[C1,B5,hi,decide_true,if_true,D9,ha,Option.bind_some,e];cases U1 N n a<;>simp[N5]
  intro s;simp[C1,B5]
end Go.Ab
namespace Go.Ab
theorem RK {N:Nat} (hN:40000000≤N) (lim:Int):∀(n:Nat) (x:A3),x.bulk≤n→x.bulk≤16777216→∃r,U9 N n x lim=some r∧Cut lim x.pre.length r:=by
 intro n
 induction n with
 |zero=>intro x h;have:=Y2 x;omega
 | succ n ih=>
  intro x hx hb;have hxb:=A3.bulk_eq x;have hB:=Lu x.cO;have hpb:=EC x.cO;unfold U9;rw[I7 x.cO (by omega) (mk:=fun(s:Int) i=>(s,i)) (body:=fun(s:Int) a=>if s≤lim then(U9 N n a lim).bind fun r=>some (.inl (ar .add .i64 s r))else some (.inr s)) (fin:=fun s=>s) (s:=1) (by omega) ?_ ?_]
  ·obtain⟨o,k1,v,k2,k3,k4,k5⟩:=GP (lim:=lim) (f:=fun a=>U9 N n a lim) (cnt:=fun a=>a.pre.length) (B:=40000000) (by omega) x.cO 1 (by omega) (by rw[Ih];omega) fun a ha=>ih a (by have:=hB.1 a ha;omega) (by have:=hB.1 a ha;omega)
   rw[Ih]at k4 k5
   have hpe:x.pre.length=(A3.pres x.cO).length+1:=by rw[A3.pre_eq];rfl
   simp only[k1,Option.bind_some];refine⟨v,?_,by omega,by omega,?_⟩
   ·cases o<;>simp_all
   rcases k5 with k5|k5
   ·left;omega
   right;exact k5
  ·intro s i a ha hi;have e:ar .add .i64 (i:Int) 1=i+1:=C5 (by omega) (by omega);simp only[C1,DF,L4,B5,hi,decide_true,Bool.true_and,D9,ha,Option.bind_some,e,decide_eq_true_eq]
   split
   ·cases U9 N n a lim<;>rfl
   rfl
  intro s;simp[C1,L4,B5]
theorem MS {N:Nat} (hN:40000000≤N):∀(n:Nat) (x:A3),x.bulk≤n→x.bulk≤16777216→U8 N n x=some (x.dep:Int):=by
 intro n
 induction n with
 |zero=>intro x h;have:=Y2 x;omega
 | succ n ih=>
  intro x hx hb;have hl:=AQ x;unfold U8;rw[I7 x.cO (by omega) (mk:=fun(s:Int) i=>(s,i)) (body:=fun(s:Int) a=>(U8 N n a).bind fun r=>some (.inl (mx s r))) (fin:=fun s=>s) (s:=0) (by omega) ?_ ?_]
  ·obtain⟨s',k1,k2⟩:=Z0 (R:=Int) (step:=fun(s:Int) a=>(U8 N n a).bind fun r=>some (.inl (mx s r))) (fun r s=>(∀a∈r,a∈x.cO)∧0≤s∧max s (A3.deps r:Int)=(A3.deps x.cO:Int)) (fun a r s ⟨h1,h2,h3⟩=>by
    have hm:=Q5 (h1 a (by simp));refine⟨_,by rw[ih a (by omega) (by omega)];rfl,fun b hb=>h1 b (by simp[hb]),?_,?_⟩
    ·rw[GX];split<;>omega
    rw[←h3,GX];simp only[A3.deps];split<;>omega) (l:=x.cO) (s:=0) ⟨fun a h=>h,Int.le_refl _,by omega⟩
   simp only[k1,Option.bind_some]
   have e:s'=(A3.deps x.cO:Int):=by have:=k2.2.2;simp only[A3.deps]at this;omega
   have hd:=EL x.cO;have hd2:=A3.bulk_eq x;rw[e,C5 (by omega) (by omega),A3.dep_eq];rfl
  ·intro s i a ha hi;have e:ar .add .i64 (i:Int) 1=i+1:=C5 (by omega) (by omega);simp only[C1,B5,hi,decide_true,if_true,D9,ha,Option.bind_some,e];cases U8 N n a<;>rfl
  intro s;simp[C1,B5]
theorem Vn {N:Nat} (hN:40000000≤N):∀(n:Nat) (x:A3),x.bulk≤n→x.bulk≤16777216→Bf N n x=some ((x.pre.length:Int),(x.dep:Int)):=by
 intro n
 induction n with
 |zero=>intro x h;have:=Y2 x;omega
 | succ n ih=>
  intro x hx hb;have hl:=AQ x;unfold Bf;rw[I7 x.cO (by omega) (mk:=fun(s:Int×Int) i=>(s.1,s.2,i)) (body:=fun(s:Int×Int) a=>(Bf N n a).bind fun r=>some (.inl (ar .add .i64 s.1 r.1,mx s.2 r.2))) (fin:=fun s=>s) (s:=(1,0)) (by omega) ?_ ?_]
  ·have hp:=EC x.cO;have hd:=EL x.cO;have hbe:=A3.bulk_eq x
   obtain⟨s',k1,k2⟩:=Z0 (R:=Int×Int) (step:=fun(s:Int×Int) a=>(Bf N n a).bind fun r=>some (.inl (ar .add .i64 s.1 r.1,mx s.2 r.2))) (fun r s=>(∀a∈r,a∈x.cO)∧0≤s.2∧0≤s.1∧s.1+(A3.pres r).length=(A3.pres x.cO).length+1∧max s.2 (A3.deps r:Int)=(A3.deps x.cO:Int)) (fun a r s ⟨h1,h2,h3,h4,h5⟩=>by
    have hm:=Q5 (h1 a (by simp))
    simp only[A3.pres,List.length_append,A3.deps]at h4 h5
    refine⟨_,by rw[ih a (by omega) (by omega)];rfl,fun b hb=>h1 b (by simp[hb]),?_,?_,?_,?_⟩
    ·simp only[GX];split<;>omega
    ·rw[C5 (by omega) (by omega)];omega
    ·rw[C5 (by omega) (by omega)];omega
    rw[←h5];simp only[GX];split<;>omega) (l:=x.cO) (s:=(1,0)) ⟨fun a h=>h,by simp,by simp,by simp only;omega,by simp only;omega⟩
   simp only[k1,Option.bind_some];obtain⟨_,_,_,e1,e2⟩:=k2
   simp only[A3.pres,List.length_nil,A3.deps]at e1 e2
   have e3:s'.1=(x.pre.length:Int):=by rw[A3.pre_eq];simp only[List.length_cons];omega
   have e4:s'.2=(A3.deps x.cO:Int):=by omega
   rw[e3,e4,C5 (by omega) (by omega),A3.dep_eq];rfl
  ·intro s i a ha hi;have e:ar .add .i64 (i:Int) 1=i+1:=C5 (by omega) (by omega);simp only[C1,B5,hi,decide_true,if_true,D9,ha,Option.bind_some,e];cases Bf N n a<;>rfl
  intro s;simp[C1,B5]
theorem Na {f:A3→Int}:∀l:List A3,V5 (fun a=>V5 f a.pre) l=V5 f (A3.pres l)
 |[]=>rfl
 |a::l=>by rw[A3.pres,KU,V5,Na l]
theorem LF {a y:A3} (hy:y∈a.pre):∀l:List A3,a∈l→y∈A3.pres l
 |[],h=>by simp at h
 |b::l,h=>by
  rcases List.mem_cons.1 h with rfl|h
  ·simp[A3.pres,hy]
  simp[A3.pres,LF hy l h]
theorem WU {N:Nat} (hN:40000000≤N) {F:A3→Option Int} {f:A3→Int}:∀(n:Nat) (x:A3),x.bulk≤n→x.bulk≤16777216→(∀y∈x.pre,F y=some (f y))→AR N n x F=some (V5 f x.pre):=by
 intro n
 induction n with
 |zero=>intro x h;have:=Y2 x;omega
 | succ n ih=>
  intro x hx hb hF;have hl:=AQ x;have hpe:=A3.pre_eq x;unfold AR;rw[hF x (by rw[hpe];simp)];simp only[Option.bind_some,H9];rw[hpe,V5]
  by_cases hz:f x=0
  ·simp only[hz,decide_true,Bool.not_true,Bool.false_eq_true,if_false,if_true];rw[I7 x.cO (by omega) (mk:=fun(_:Unit) i=>i) (body:=Ax fun a=>AR N n a F) (fin:=fun _=>.inl ()) (s:=()) (by omega) ?_ ?_]
   ·rw[Y1 (f:=fun a=>V5 f a.pre) fun a ha=>ih a (by have:=Q5 ha;omega) (by have:=Q5 ha;omega) fun y hy=>hF y (by rw[hpe];exact List.mem_cons_of_mem _ (LF hy _ ha)),Na]
    by_cases hz3:V5 f (A3.pres x.cO)=0
    ·simp[hz3]
    simp[hz3]
   ·intro s i a ha hi;have e:ar .add .i64 (i:Int) 1=i+1:=C5 (by omega) (by omega);simp only[C1,B5,hi,decide_true,if_true,D9,ha,Option.bind_some,e,Ax,H9]
    cases AR N n a F with
    |none=>rfl
    |some r=>by_cases h:r=0<;>simp[h]
   intro s;simp[C1,B5]
  simp[hz]
theorem VT {N:Nat} (hN:40000000≤N) {f:A3→Int} (hF:∀y,CB N y=some (f y)):∀(n:Nat) (x:A3),x.bulk≤n→x.bulk≤16777216→Aa N n x=some (V5 f x.pre):=by
 intro n
 induction n with
 |zero=>intro x h;have:=Y2 x;omega
 | succ n ih=>
  intro x hx hb;have hl:=AQ x;have hpe:=A3.pre_eq x;unfold Aa;rw[hF x];simp only[Option.bind_some,H9];rw[hpe,V5]
  by_cases hz:f x=0
  ·simp only[hz,decide_true,Bool.not_true,Bool.false_eq_true,if_false,if_true];rw[I7 x.cO (by omega) (mk:=fun(_:Unit) i=>i) (body:=Ax fun a=>Aa N n a) (fin:=fun _=>.inl ()) (s:=()) (by omega) ?_ ?_]
   ·rw[Y1 (f:=fun a=>V5 f a.pre) fun a ha=>ih a (by have:=Q5 ha;omega) (by have:=Q5 ha;omega),Na]
    by_cases hz3:V5 f (A3.pres x.cO)=0
    ·simp[hz3]
    simp[hz3]
   ·intro s i a ha hi;have e:ar .add .i64 (i:Int) 1=i+1:=C5 (by omega) (by omega);simp only[C1,B5,hi,decide_true,if_true,D9,ha,Option.bind_some,e,Ax,H9]
    cases Aa N n a with
    |none=>rfl
    |some r=>by_cases h:r=0<;>simp[h]
   intro s;simp[C1,B5]
  simp[hz]
end Go.Ab
namespace Go.Ab
theorem LC {a b:ByteArray}:a.toList=b.toList↔a=b:=by
 rw[ByteArray.toList_eq,ByteArray.toList_eq]
 constructor
 ·intro h;obtain⟨⟨a⟩⟩:=a;obtain⟨⟨b⟩⟩:=b
  simp at h
  subst h;rfl
 intro h;rw[h]
theorem QE (a b:ByteArray):scmp .neq a b= !decide (a=b):=by
 show(!(a.toList==b.toList))=_
 by_cases h:a=b
 ·subst h;simp
 have:a.toList≠b.toList:=fun e=>h (LC.1 e);simp[h,this]
theorem Fc (a b:ByteArray):scmp .eql a b=decide (a=b):=by
 show(a.toList==b.toList)=_
 by_cases h:a=b
 ·subst h;simp
 have:a.toList≠b.toList:=fun e=>h (LC.1 e);simp[h,this]
theorem Ak8 (N:Nat)(op:Int):Ei N op=some (if op<0∨12<op then(0,false)else if op<5 then(0,true)else if op=12 then(1,true)else(2,true)):=by
 unfold Ei;simp only[C1,Bg,C4,M9,Bool.or_eq_true,decide_eq_true_eq]
 split
 ·rfl
 split
 ·rfl
 split<;>rfl
theorem Ac4 (N:Nat) (op:Int):CY N op=some (if op<0∨12<op then -1 else if op<5 then 0 else if op=12 then 1 else 2):=by
 have h:op<0∨op=0∨op=1∨op=2∨op=3∨op=4∨op=5∨op=6∨op=7∨op=8∨op=9∨op=10∨op=11∨op=12∨12<op:=by omega
 unfold CY;simp only[C4]
 rcases h with h|h|h|h|h|h|h|h|h|h|h|h|h|h|h
 all_goals first
  |(subst h;rfl)
  | (have h0:op≠0:=by omega
     have h1:op≠1:=by omega
     have h2:op≠2:=by omega
     have h3:op≠3:=by omega
     have h4:op≠4:=by omega
     have h5:op≠5:=by omega
     have h6:op≠6:=by omega
     have h7:op≠7:=by omega
     have h8:op≠8:=by omega
     have h9:op≠9:=by omega
     have ha:op≠10:=by omega
     have hb:op≠11:=by omega
     have hc:op≠12:=by omega
     simp[h0,h1,h2,h3,h4,h5,h6,h7,h8,h9,ha,hb,hc,h])
theorem An6 (N:Nat)(op:Int):Fq N op=some (decide (op=1∨op=2∨op=3∨op=4),decide (op=1∨op=4)):=by
 unfold Fq;simp only[C4,decide_eq_true_eq]
 by_cases h1:op=1
 ·simp[h1]
 by_cases h4:op=4
 ·simp[h4]
 by_cases h2:op=2
 ·simp[h2]
 by_cases h3:op=3<;>simp[h1,h2,h3,h4]
theorem Sy (N:Nat)(op:Int):BH N op=some (decide (op=1∨op=2∨op=3∨op=4),decide (op=1∨op=4)):=by
 unfold BH;simp only[C4,M9]
 by_cases h1:op=1
 ·simp[h1]
 by_cases h4:op=4
 ·simp[h4]
 by_cases h2:op=2
 ·simp[h2]
 by_cases h3:op=3<;>simp[h1,h2,h3,h4]
def I9 (v:A5):Int:=
 if v.Kind=0∨v.Kind=1 then
  if v.Text≠⟨#[]⟩then 3
  else if v.Kind=0∧(v.Num< -1099511627776∨1099511627776<v.Num)∨v.Kind=1∧v.Num≠0∧v.Num≠1 then 2 else 0
 else if v.Kind=2 then(if v.Num≠0 then 3 else if 64<(v.Text.size:Int)then 13 else 0)else 1
theorem IU (N:Nat) (v:A5):U5 N v=some (I9 v):=by
 obtain⟨k,n,t⟩:=v;unfold U5 DT I9;simp only[C4,H9,C1,Bg,L4,M9,QE,Qs]
 by_cases h0:k=0
 ·subst h0
  by_cases ht:t=⟨#[]⟩
  ·subst ht
   by_cases h1:n< -1099511627776∨1099511627776<n
   ·simp[h1]
   simp[h1];decide
  simp[ht]
 by_cases h1:k=1
 ·subst h1
  by_cases ht:t=⟨#[]⟩
  ·subst ht
   by_cases h2:n=0
   ·simp[h2];decide
   by_cases h3:n=1
   ·simp[h3];decide
   simp[h2,h3]
  simp[ht]
 by_cases h2:k=2
 ·subst h2
  by_cases hn:n=0
  ·simp[hn];split<;>rfl
  simp[hn]
 simp[h0,h1,h2]
theorem Vd (N:Nat) (v:A5):Db N v=some (I9 v):=by
 obtain⟨k,n,t⟩:=v;unfold Db I9;simp only[C4,H9,C1,Bg,L4,M9,QE,Qs]
 by_cases h0:k=0
 ·subst h0
  by_cases ht:t=⟨#[]⟩
  ·subst ht
   by_cases h1:n< -1099511627776∨1099511627776<n
   ·simp[h1]
   simp[h1]
  simp[ht]
 by_cases h1:k=1
 ·subst h1
  by_cases ht:t=⟨#[]⟩
  ·subst ht
   by_cases h2:n=0
   ·simp[h2]
   by_cases h3:n=1
   ·simp[h3]
   have:n<0∨1<n:=by omega
   simp[h2,h3,this]
  simp[ht]
 by_cases h2:k=2
 ·subst h2
  by_cases hn:n=0
  ·simp[hn];split<;>rfl
  simp[hn]
 have:k<0∨2<k:=by omega
 simp[h0,h1,h2,this]
theorem Xd (N:Nat)(k:Int)(v:A5):Eh N k v=some (decide (v.Kind=0∨k=4∨k=5)):=by
 unfold Eh;simp only[C4,M9]
 by_cases h1:v.Kind=0<;>by_cases h2:k=4<;>by_cases h3:k=5<;>simp[h1,h2,h3]
theorem Vh (N:Nat)(k:Int)(v:A5)(h:k≠0):CZ N k v=some (decide (v.Kind=0∨k=4∨k=5)):=by
 unfold CZ;simp only[C4,M9]
 by_cases h1:v.Kind=0<;>by_cases h2:k=4<;>by_cases h3:k=5<;>simp[h,h1,h2,h3]
def Bs (op:Int):Bool:=decide (op=1∨op=2∨op=3∨op=4)
def WV (op:Int):Bool:=decide (op=1∨op=4)
noncomputable def Jf (x:A3):Bool:=Ar.or (an (Bs x.Op) (Ar.or (cmp .lss x.Var 0) (cmp .geq x.Var 16))) (an (WV x.Op) (Ar.or (cmp .lss x.Field 0) (cmp .geq x.Field 8)))
noncomputable def Jp (x:A3):Bool:=an (cmp .eql x.Op 4) (Ar.or (cmp .lss x.Kind 1) (cmp .gtr x.Kind 5))
noncomputable def Nv (v:A5):Bool:=an (cmp .eql v.Kind 0) (an (cmp .eql v.Num 0) (an (scmp .eql v.Text (⟨#[]⟩)) true))
noncomputable def DU (x:A3):Bool:=Ar.or (nt (decide (x.Value.Kind=0∨x.Kind=4∨x.Kind=5))) (an (cmp .eql x.Kind 1) (nt (Nv x.Value)))
noncomputable def Cx (x:A3):Bool:=Ar.or (Ar.or (Ar.or (an (nt (Bs x.Op)) (cmp .neq x.Var 0)) (an (nt (WV x.Op)) (cmp .neq x.Field 0))) (an (nt (cmp .eql x.Op 4)) (cmp .neq x.Kind 0))) (an (nt (Ar.or (cmp .eql x.Op 4) (cmp .eql x.Op 0))) (nt (Nv x.Value)))
noncomputable def R3 (x:A3):Int:=
 if x.Op<0∨12<x.Op then 1
 else if(x.cO.length:Int)≠(if x.Op<5 then 0 else if x.Op=12 then 1 else 2)then 15
 else if Jf x=true then 2
 else if Jp x=true then 1
 else if(x.Op=4∨x.Op=0)∧I9 x.Value≠0 then I9 x.Value
 else if x.Op=4∧DU x=true then 9
 else if Cx x=true then 3 else 0
theorem VU (N:Nat) (x:A3):CB N x=some (R3 x):=by
 unfold CB R3;rw[Ac4,Sy];simp only[Option.bind_some]
 by_cases h0:x.Op<0∨12<x.Op
 ·rw[if_pos h0,if_pos h0];rfl
 rw[if_neg h0,if_neg h0]
 have ha:¬(cmp .lss (if x.Op<5 then 0 else if x.Op=12 then 1 else 2) 0=true):=by
  rw[C1];simp only[decide_eq_true_eq];split
  ·omega
  split<;>omega
 rw[if_neg ha]
 by_cases h1:(x.cO.length:Int)≠(if x.Op<5 then 0 else if x.Op=12 then 1 else 2)
 ·rw[if_pos h1,if_pos (by simp[H9,B5,h1])]
 rw[if_neg h1,if_neg (by simp only[H9,B5];simpa using h1)]
 change (if Jf x=true then some 2 else _)=_
 by_cases h2:Jf x=true
 ·rw[if_pos h2,if_pos h2]
 rw[if_neg h2,if_neg h2]
 change (if Jp x=true then some 1 else _)=_
 by_cases h3:Jp x=true
 ·rw[if_pos h3,if_pos h3]
 rw[if_neg h3,if_neg h3];rw[Vd]
 have e4:(Ar.or (cmp .eql x.Op 4) (cmp .eql x.Op 0)=true)↔(x.Op=4∨x.Op=0):=by simp[C4,M9]
 have e6:(cmp .eql x.Op 4=true)↔x.Op=4:=by simp[C4]
 by_cases h4:x.Op=4∨x.Op=0
 ·rw [if_pos (e4.2 h4)];simp only[Option.bind_some]
  by_cases h5:I9 x.Value=0
  ·have n5:¬(cmp .neq (I9 x.Value) 0=true):=by simp[H9,h5]
   have n5':¬((x.Op=4∨x.Op=0)∧I9 x.Value≠0):=fun h=>h.2 h5;rw[if_neg n5,if_neg n5'];simp only[Option.bind_some]
   by_cases h6:x.Op=4
   ·rw[if_pos (e6.2 h6)]
    have hk:x.Kind≠0:=by
     intro e;apply h3;simp[Jp,L4,M9,C4,C1,h6,e]
    rw[Vh N _ _ hk];simp only[Option.bind_some]
    change (if DU x=true then some 9 else if Cx x=true then some 3 else some 0)=_
    by_cases h7:DU x=true
    ·rw[if_pos h7,if_pos (show x.Op=4∧DU x=true from⟨h6,h7⟩)]
    rw[if_neg h7,if_neg (show¬(x.Op=4∧DU x=true)from fun h=>h7 h.2)]
    by_cases h8:Cx x=true
    ·rw[if_pos h8,if_pos h8]
    rw[if_neg h8,if_neg h8]
   rw[if_neg (show¬(cmp .eql x.Op 4=true)from fun h=>h6 (e6.1 h)),if_neg (show¬(x.Op=4∧DU x=true)from fun h=>h6 h.1)]
   change (if Cx x=true then some 3 else some 0)=_
   by_cases h8:Cx x=true
   ·rw[if_pos h8,if_pos h8]
   rw[if_neg h8,if_neg h8]
  have n5:cmp .neq (I9 x.Value) 0=true:=by simp[H9,h5]
  rw[if_pos n5,if_pos (show(x.Op=4∨x.Op=0)∧I9 x.Value≠0 from⟨h4,h5⟩)];rfl
 rw[if_neg (show¬(Ar.or (cmp .eql x.Op 4) (cmp .eql x.Op 0)=true)from fun h=>h4 (e4.1 h)),if_neg (show¬((x.Op=4∨x.Op=0)∧I9 x.Value≠0)from fun h=>h4 h.1)];simp only[Option.bind_some];have h6:¬x.Op=4:=fun e=>h4 (.inl e);rw[if_neg (show¬(cmp .eql x.Op 4=true)from fun h=>h6 (e6.1 h)),if_neg (show¬(x.Op=4∧DU x=true)from fun h=>h6 h.1)]
 change (if Cx x=true then some 3 else some 0)=_
 by_cases h8:Cx x=true
 ·rw[if_pos h8,if_pos h8]
 rw[if_neg h8,if_neg h8]
theorem XF (N:Nat) (x:A3):DQ N x=some (R3 x):=by
 unfold DQ R3;rw[Ak8,An6];simp only[Option.bind_some]
 by_cases h0:x.Op<0∨12<x.Op
 ·rw[if_pos h0,if_pos h0];rfl
 rw[if_neg h0,if_neg h0]
 have ha:(if x.Op<5 then((0:Int),true)else if x.Op=12 then(1,true)else(2,true))=((if x.Op<5 then 0 else if x.Op=12 then 1 else 2),true):=by
  split
  ·rfl
  split<;>rfl
 rw[ha];rw[if_neg (by simp[U3])]
 by_cases h1:(x.cO.length:Int)≠(if x.Op<5 then 0 else if x.Op=12 then 1 else 2)
 ·rw[if_pos h1,if_pos (by simp[H9,B5,h1])]
 rw[if_neg h1,if_neg (by simp only[H9,B5];simpa using h1)]
 change (if Jf x=true then some 2 else _)=_
 by_cases h2:Jf x=true
 ·rw[if_pos h2,if_pos h2]
 rw[if_neg h2,if_neg h2]
 change (if Jp x=true then some 1 else _)=_
 by_cases h3:Jp x=true
 ·rw[if_pos h3,if_pos h3]
 rw[if_neg h3,if_neg h3];unfold Cj;rw[IU]
 have e4:(Ar.or (cmp .eql x.Op 4) (cmp .eql x.Op 0)=true)↔(x.Op=4∨x.Op=0):=by simp[C4,M9]
 have e6:(cmp .eql x.Op 4=true)↔x.Op=4:=by simp[C4]
 by_cases h4:x.Op=4∨x.Op=0
 ·rw[if_pos (e4.2 h4)];simp only[Option.bind_some]
  by_cases h5:I9 x.Value=0
  ·have n5:¬(cmp .neq (I9 x.Value) 0=true):=by simp[H9,h5]
   have n5':¬((x.Op=4∨x.Op=0)∧I9 x.Value≠0):=fun h=>h.2 h5;rw[if_neg n5,if_neg n5']
   by_cases h6:x.Op=4
   ·rw[if_pos (e6.2 h6),Xd];simp only[Option.bind_some]
    change (((if DU x=true then some 9 else some 0):Option Int).bind _).bind _=_
    by_cases h7:DU x=true
    ·rw[if_pos h7,if_pos (show x.Op=4∧DU x=true from⟨h6,h7⟩)];rfl
    rw[if_neg h7,if_neg (show¬(x.Op=4∧DU x=true)from fun h=>h7 h.2)]
    change (if Cx x=true then some 3 else some 0)=_
    by_cases h8:Cx x=true
    ·rw[if_pos h8,if_pos h8]
    rw[if_neg h8,if_neg h8]
   rw[if_neg (show¬(cmp .eql x.Op 4=true)from fun h=>h6 (e6.1 h)),if_neg (show¬(x.Op=4∧DU x=true)from fun h=>h6 h.1)]
   change (if Cx x=true then some 3 else some 0)=_
   by_cases h8:Cx x=true
   ·rw[if_pos h8,if_pos h8]
   rw[if_neg h8,if_neg h8]
  have n5:cmp .neq (I9 x.Value) 0=true:=by simp[H9,h5]
  rw[if_pos n5,if_pos (show(x.Op=4∨x.Op=0)∧I9 x.Value≠0 from⟨h4,h5⟩)];simp only[Option.bind_some];rw[if_pos n5];rfl
 rw[if_neg (show¬(Ar.or (cmp .eql x.Op 4) (cmp .eql x.Op 0)=true)from fun h=>h4 (e4.1 h)),if_neg (show¬((x.Op=4∨x.Op=0)∧I9 x.Value≠0)from fun h=>h4 h.1)];have h6:¬x.Op=4:=fun e=>h4 (.inl e);rw[if_neg (show¬(x.Op=4∧DU x=true)from fun h=>h6 h.1)]
 change (if Cx x=true then some 3 else some 0)=_
 by_cases h8:Cx x=true
 ·rw[if_pos h8,if_pos h8]
 rw[if_neg h8,if_neg h8]
end Go.Ab
namespace Go.Ab
theorem Be {a b:Int}(h:b<a):cmp .gtr a b=true:=by rw[Bg];exact decide_eq_true h
theorem X7 {a b:Int}(h:¬b<a):¬(cmp .gtr a b=true):=by rw[Bg];simpa using h
theorem S5 {a b:Int}(h:a≠b):cmp .neq a b=true:=by rw[H9];simpa using h
theorem N2 {a b:Int}(h:a=b):¬(cmp .neq a b=true):=by rw[H9];simpa using h
noncomputable def E7 (x:A3):Int:=if 64<x.pre.length then 5 else if 12<x.dep then 12 else V5 R3 x.pre
theorem Ox {N:Nat}(hN:40000000≤N){x:A3}(hb:x.bulk≤16777216):CH N x=some (E7 x):=by
 unfold CH E7;rw[Vn hN N x (by omega) hb];simp only[Option.bind_some]
 by_cases h1:64<x.pre.length
 ·rw[if_pos h1,if_pos (Be (by omega))]
 rw[if_neg h1,if_neg (X7 (by omega))]
 by_cases h2:12<x.dep
 ·rw[if_pos h2,if_pos (Be (by omega))]
 rw[if_neg h2,if_neg (X7 (by omega)),WU hN N x (by omega) hb fun y _=>XF N y];rfl
theorem MW {N:Nat}(hN:40000000≤N){x:A3}(hb:x.bulk≤16777216):AM N x=some (E7 x):=by
 unfold AM E7;obtain⟨r,h0,c1,c2,c3⟩:=RK hN 64 N x (by omega) hb;rw[h0];simp only[Option.bind_some]
 by_cases h1:64<x.pre.length
 ·rw[if_pos h1,if_pos (Be (by omega))]
 rw[if_neg h1,if_neg (X7 (by omega)),MS hN N x (by omega) hb];simp only[Option.bind_some]
 by_cases h2:12<x.dep
 ·rw[if_pos h2,if_pos (Be (by omega))]
 rw[if_neg h2,if_neg (X7 (by omega)),VT hN (fun y=>VU N y) N x (by omega) hb];rfl
noncomputable def MD (a b:A3):Bool:=Ar.or (Ar.or (Ar.or (Ar.or (Ar.or (cmp .neq a.Op b.Op) (cmp .neq a.Var b.Var)) (cmp .neq a.Field b.Field)) (cmp .neq a.Kind b.Kind)) (nt (an (cmp .eql a.Value.Kind b.Value.Kind) (an (cmp .eql a.Value.Num b.Value.Num) (an (scmp .eql a.Value.Text b.Value.Text) true))))) (cmp .neq (Ar.len a.cO) (Ar.len b.cO))
theorem NI (N:Nat):∀(n:Nat) (a b:A3),DR N n a b=O5 N n a b
 |0,_,_=>rfl
 |n+1,a,b=>by
  unfold DR O5;simp only[NI N n]
theorem NH {N:Nat} (hN:40000000≤N) (x:A3):∃b,O5 N N x (⟨0,[],0,0,0,(⟨0,0,⟨#[]⟩⟩:A5)⟩:A3)=some b:=by
 obtain⟨M,rfl⟩:∃M,N=M+1:=⟨N - 1,by omega⟩;rw[O5];generalize hz:(⟨0,[],0,0,0,(⟨0,0,⟨#[]⟩⟩:A5)⟩:A3)=z
 change ∃b,(if MD x z=true then some false else _)=some b
 by_cases h:MD x z=true
 ·rw[if_pos h];exact⟨_,rfl⟩
 rw[if_neg h]
 have hlen:x.cO.length=0:=by
  subst hz
  simp only[MD,M9,H9,B5,List.length_nil]at h
  simp at h
  simpa using h.2
 have:x.cO=[]:=List.length_eq_zero_iff.1 hlen;refine⟨true,?_⟩;rw[show M+1=(M+1 - 1)+1 by omega];simp only[loopN,this,C1,B5];rfl
end Go.Ab
namespace Go.Ab
def BC (u:Bool)(n m:Int):Bool:=u&&(decide (n<0)||decide (m<n))
def N3 (u:Bool)(n:Int):Bool:=u||decide (n=0)
theorem Hr (N:Nat)(u:Bool)(n m:Int):R7 N u n m=some (!BC u n m):=by
 unfold R7;simp only[M9,L4,U3,K2,DF,BC];cases u
 ·rfl
 by_cases h1:n<0<;>by_cases h2:m<n<;>simp[h1,h2]<;>omega
theorem Ve (N:Nat)(u:Bool)(n:Int):K8 N u n=some (N3 u n):=rfl
theorem Ak7 (N:Nat)(u:Bool)(n m:Int):Y9 N u n m=some (BC u n m):=rfl
noncomputable def ET (s:J3)(x:A0)(sz:Bool):Int:=
 if BC s.cS x.Typ 15=true then 2
 else if BC s.cS x.Var 15=true then 2
 else if BC s.scope x.cR 63=true then 2
 else if BC s.span x.Span 1099511627776=true then 2
 else if s.cond=true∧E7 x.cP≠0 then E7 x.cP
 else if(s.cond||sz)=true∧N3 s.cS x.Typ=true∧N3 s.cS x.Var=true∧N3 s.scope x.cR=true∧N3 s.span x.Span=true then 0 else 3
structure Ge (N:Nat) (x:A0) (s:J3) (ng:Bool):Prop where
 tab:B7 D0 x.Op=some s
 var:O4 N x=some s.cS
 neg:N7 N x=some ng
 tim:N1 N x=some s.span
 con:W7 N x=some s.cond
 sco:s.scope=(ng||s.span)
 ari:CX N x=some (decide (s.cU≤x.cO.length∧(x.cO.length:Int)≤s.most))
theorem Aj7 (n k:Int):decide (n=k)=(decide (k≤n)&&decide (n≤k)):=by
 rw[←Bool.decide_and];exact decide_eq_decide.2 ⟨fun h=>by omega,fun h=>by omega⟩
theorem Ja (N:Nat) (x:A0) (h0:0≤x.Op) (h1:x.Op≤10) (hl:x.cO.length≤64):∃s ng,Ge N x s ng:=by
 obtain⟨op,args,typ,var,scope,span,c⟩:=x
 simp only at h0 h1 hl
 have h:op=0∨op=1∨op=2∨op=3∨op=4∨op=5∨op=6∨op=7∨op=8∨op=9∨op=10:=by omega
 rcases h with h|h|h|h|h|h|h|h|h|h|h
 all_goals
  subst h;refine⟨_,_,rfl,rfl,rfl,rfl,rfl,rfl,?_⟩;unfold CX;simp only[C4,K2,B5];simp
  try first|omega|exact Aj7 _ _
theorem Ao2 {x:A0}(h0:0≤x.Op)(h1:x.Op≤10):¬(Ar.or (cmp .lss x.Op 0) (cmp .geq x.Op 11)=true):=by
 simp only[M9,C1,K2,Bool.or_eq_true,decide_eq_true_eq];omega
theorem Ah9 {x:A0}(h0:0≤x.Op)(h1:x.Op≤10):¬(Ar.or (cmp .lss x.Op 0) (cmp .gtr x.Op 10)=true):=by
 simp only[M9,C1,Bg,Bool.or_eq_true,decide_eq_true_eq];omega
theorem Ae7 {x:A0}(h:¬(0≤x.Op∧x.Op≤10)):Ar.or (cmp .lss x.Op 0) (cmp .geq x.Op 11)=true∧Ar.or (cmp .lss x.Op 0) (cmp .gtr x.Op 10)=true:=by
 simp only[M9,C1,K2,Bg,Bool.or_eq_true,decide_eq_true_eq];omega
theorem Wv {N:Nat} (hN:40000000≤N) {x:A0} (hb:x.cP.bulk≤16777216) (h0:0≤x.Op) (h1:x.Op≤10) {s:J3} {ng:Bool} (hs:Ge N x s ng) {sz:Bool}
 (hz:O5 N N x.cP (⟨0,[],0,0,0,(⟨0,0,⟨#[]⟩⟩:A5)⟩:A3)=some sz):
 Q8 N x=some (if s.cU≤x.cO.length∧(x.cO.length:Int)≤s.most then ET s x sz else 15):=by
 unfold Q8;rw[if_neg (Ao2 h0 h1),hs.tab];simp only[Option.bind_some]
 by_cases ha:s.cU≤x.cO.length∧(x.cO.length:Int)≤s.most
 ·rw [if_pos ha,if_neg (by simp only[M9,C1,Bg,B5,Bool.or_eq_true,decide_eq_true_eq];omega)];rw[Hr,Hr,Hr,Hr,Ox hN hb,NI,hz];simp only[Ve,Option.bind_some];unfold ET;generalize BC s.cS x.Typ 15=b1;generalize BC s.cS x.Var 15=b2;generalize BC s.scope x.cR 63=b3;generalize BC s.span x.Span 1099511627776=b4;generalize N3 s.cS x.Typ=c1;generalize N3 s.cS x.Var=c2;generalize N3 s.scope x.cR=c3;generalize N3 s.span x.Span=c4;generalize E7 x.cP=ec
  cases b1 with
  |true=>rfl
  | false =>
   cases b2 with
   |true=>rfl
   | false =>
    cases b3 with
    |true=>rfl
    | false=>
     cases b4 with
     |true=>rfl
     | false=>
      cases s.cond with
      | false=>
       cases sz with
       |false=>rfl
       | true=>
        cases c1 with
        |false=>rfl
        | true=>
         cases c2 with
         |false=>rfl
         | true=>
          cases c3 with
          |false=>rfl
          |true=>
           cases c4<;>rfl
      | true=>
       by_cases he:ec=0
       ·subst he
        cases c1 with
        |false=>cases sz<;>rfl
        | true=>
         cases c2 with
         |false=>cases sz<;>rfl
         | true=>
          cases c3 with
          |false=>cases sz<;>rfl
          |true=>
           cases c4<;>cases sz<;>rfl
       simp[U3,S5 he,he]
 rw[if_neg ha,if_pos (by simp only[M9,C1,Bg,B5,Bool.or_eq_true,decide_eq_true_eq];omega)]
theorem MB (u:Bool)(n:Int):an (nt u) (cmp .neq n 0)= !N3 u n:=by
 simp only[L4,U3,H9,N3,Bool.not_or]
theorem UF (u w:Bool)(t v sc:Int):Ar.or (an (nt u) (Ar.or (cmp .neq t 0) (cmp .neq v 0))) (an (nt w) (cmp .neq sc 0))=((!N3 u t|| !N3 u v)|| !N3 w sc):=by
 rw[MB];simp only[M9,L4,U3,H9,N3];cases u<;>simp
theorem El {N:Nat} (hN:40000000≤N) {x:A0} (hb:x.cP.bulk≤16777216) (h0:0≤x.Op) (h1:x.Op≤10) {s:J3} {ng:Bool} (hs:Ge N x s ng) {sz:Bool}
 (hz:O5 N N x.cP (⟨0,[],0,0,0,(⟨0,0,⟨#[]⟩⟩:A5)⟩:A3)=some sz):
 V8 N x=some (if s.cU≤x.cO.length∧(x.cO.length:Int)≤s.most then ET s x sz else 15):=by
 unfold V8;rw[if_neg (Ah9 h0 h1),hs.ari,hs.var,hs.neg,hs.tim,hs.con,MW hN hb,hz];simp only[Option.bind_some]
 by_cases ha:s.cU≤x.cO.length∧(x.cO.length:Int)≤s.most
 ·rw [if_pos ha,if_neg (by simp[U3,ha])];have sco:=hs.sco;simp only[Ak7,Option.bind_some];cases ng
  ·rw [if_neg (by simp)]
   simp only[Bool.false_or]at sco
   rw[UF,MB];unfold ET;rw[sco];generalize BC s.cS x.Typ 15=b1;generalize BC s.cS x.Var 15=b2;generalize BC s.span x.cR 63=b3;generalize BC s.span x.Span 1099511627776=b4;generalize N3 s.cS x.Typ=c1;generalize N3 s.cS x.Var=c2;generalize N3 s.span x.cR=c3;generalize N3 s.span x.Span=c4;generalize E7 x.cP=ec
   cases b1 with
   |true=>rfl
   | false=>
    cases b2 with
    |true=>rfl
    | false=>
     cases b3 with
     |true=>rfl
     | false=>
      cases b4 with
      |true=>rfl
      | false=>
       cases s.cond with
       |false=>cases sz<;>cases c1<;>cases c2<;>cases c3<;>cases c4<;>rfl
       |true=>
        by_cases he:ec=0
        ·subst he;cases sz<;>cases c1<;>cases c2<;>cases c3<;>cases c4<;>rfl
        simp[S5 he,he]
  rw[if_pos rfl]
  simp only[Bool.true_or]at sco
  rw[UF,MB];unfold ET;rw[sco];generalize BC s.cS x.Typ 15=b1;generalize BC s.cS x.Var 15=b2;generalize BC true x.cR 63=b3;generalize BC s.span x.Span 1099511627776=b4;generalize N3 s.cS x.Typ=c1;generalize N3 s.cS x.Var=c2;generalize N3 true x.cR=c3;generalize N3 s.span x.Span=c4;generalize E7 x.cP=ec
  cases b1 with
  |true=>rfl
  | false=>
   cases b2 with
   |true=>rfl
   | false=>
    cases b3 with
    |true=>rfl
    | false=>
     cases b4 with
     |true=>rfl
     | false=>
      cases s.cond with
      |false=>cases sz<;>cases c1<;>cases c2<;>cases c3<;>cases c4<;>rfl
      |true=>
       by_cases he:ec=0
       ·subst he;cases sz<;>cases c1<;>cases c2<;>cases c3<;>cases c4<;>rfl
       simp[S5 he,he]
 rw[if_neg ha,if_pos (by simp only[U3,decide_eq_false ha];rfl)]
end Go.Ab
namespace Go.Ab
mutual
theorem EE :∀(x y:A0),y∈x.pre→y.bulk≤x.bulk∧y.pre.length≤x.pre.length
 |⟨op,args,typ,var,scope,span,c⟩,y,h=>by
  rw[A0.pre]at h
  rcases List.mem_cons.1 h with rfl|h
  ·exact⟨Nat.le_refl _,Nat.le_refl _⟩
  have:=Ms args y h;simp only[A0.bulk,A0.pre,List.length_cons];omega
theorem Ms :∀(l:List A0) (y:A0),y∈A0.pres l→y.bulk≤A0.bulks l∧y.pre.length≤(A0.pres l).length
 |[],y,h=>by simp[A0.pres]at h
 |a::l,y,h=>by
  rw[A0.pres]at h
  rcases List.mem_append.1 h with h|h
  ·have:=EE a y h;simp only[A0.bulks,A0.pres,List.length_append];omega
  have:=Ms l y h;simp only[A0.bulks,A0.pres,List.length_append];omega
end
theorem Oz :∀l:List A0,l.length≤(A0.pres l).length
 |[]=>Nat.le_refl _
 |a::l=>by
  have:=Oz l;simp only[A0.pres,A0.pre_eq a,List.length_append,List.length_cons];omega
theorem Dh (x:A0):x.cO.length<x.pre.length:=by
 rw[A0.pre_eq];have:=Oz x.cO;simp only[List.length_cons];omega
noncomputable def Q9 (N:Nat)(y:A0):Int:=(V8 N y).getD 0
theorem CE {N:Nat} (hN:40000000≤N) {y:A0} (hb:y.bulk≤16777216) (hl:y.cO.length≤64):Q8 N y=some (Q9 N y)∧V8 N y=some (Q9 N y):=by
 have hc:y.cP.bulk≤16777216:=by have:=A0.bulk_eq y;omega
 have key:∃r,Q8 N y=some r∧V8 N y=some r:=by
  by_cases h:0≤y.Op∧y.Op≤10
  ·obtain⟨s,ng,hs⟩:=Ja N y h.1 h.2 hl;obtain⟨sz,hz⟩:=NH hN y.cP;exact⟨_,Wv hN hc h.1 h.2 hs hz,El hN hc h.1 h.2 hs hz⟩
  obtain⟨h1,h2⟩:=Ae7 h;exact⟨1,by unfold Q8;rw[if_pos h1],by unfold V8;rw[if_pos h2]⟩
 obtain⟨r,h1,h2⟩:=key
 have e:Q9 N y=r:=by unfold Q9;rw[h2];rfl
 rw[e];exact⟨h1,h2⟩
noncomputable def I4 (N:Nat)(x:A0):Int:=if 64<x.pre.length then 5 else if 12<x.dep then 12 else V5 (Q9 N) x.pre
theorem GQ {N:Nat}(hN:40000000≤N){x:A0}(hb:x.bulk≤16777216):Q4 N x=some x.pre:=by
 unfold Q4 Af;rw[Zj hN N x (by omega) hb];simp[N5]
theorem Zy {N:Nat}(hN:40000000≤N){x:A0}(hb:x.bulk≤16777216):X5 N x=some (I4 N x):=by
 unfold X5 I4;rw[Zr hN N x (by omega) hb];simp only[Option.bind_some]
 by_cases h1:64<x.pre.length
 ·rw[if_pos h1,if_pos (Be (by omega))]
 rw[if_neg h1,if_neg (X7 (by omega))]
 by_cases h2:12<x.dep
 ·rw[if_pos h2,if_pos (Be (by omega))]
 rw[if_neg h2,if_neg (X7 (by omega)),GQ hN hb];simp only[Option.bind_some];rw[NO (f:=Q9 N) fun y hy=>(CE hN (by have:=EE x y hy;omega) (by have:=EE x y hy;have:=Dh y;omega)).1]
 by_cases h3:V5 (Q9 N) x.pre=0
 ·rw[if_pos h3];simp[h3]
 rw[if_neg h3];rfl
theorem Xt {N:Nat} (hN:40000000≤N) {x:A0} (hb:x.bulk≤16777216):W8 N x=some (I4 N x):=by
 unfold W8 I4;obtain⟨r,h0,c1,c2,c3⟩:=Qh hN 64 N x (by omega) hb;rw[h0];simp only[Option.bind_some]
 by_cases h1:64<x.pre.length
 ·rw[if_pos h1,if_pos (Be (by omega))]
 rw[if_neg h1,if_neg (X7 (by omega)),RI hN N x (by omega) hb];simp only[Option.bind_some]
 by_cases h2:12<x.dep
 ·rw[if_pos h2,if_pos (Be (by omega))]
 rw[if_neg h2,if_neg (X7 (by omega)),Mk hN N x (by omega) hb];simp only[Option.bind_some];rw[I7 x.pre (by omega) (mk:=fun(_:Unit) i=>i) (body:=Ax (V8 N)) (fin:=fun _=>.inl ()) (s:=()) (by omega) ?_ ?_]
 ·rw[Y1 (f:=Q9 N) fun y hy=>(CE hN (by have:=EE x y hy;omega) (by have:=EE x y hy;have:=Dh y;omega)).2]
  by_cases h3:V5 (Q9 N) x.pre=0
  ·simp[h3]
  simp[h3]
 ·intro s i a ha hi;have e:ar .add .i64 (i:Int) 1=i+1:=C5 (by omega) (by omega);simp only[C1,B5,hi,decide_true,if_true,D9,ha,Option.bind_some,e,Ax,H9]
  cases V8 N a with
  |none=>rfl
  |some r=>by_cases h:r=0<;>simp[h]
 intro s;simp[C1,B5]
end Go.Ab
namespace Go.Ab
def Good (N:Nat)(x:A0):Prop:=∀y∈x.pre,Q9 N y=0
theorem Ii {a y:A0} (hy:y∈a.pre):∀l:List A0,a∈l→y∈A0.pres l
 |[],h=>by simp at h
 |b::l,h=>by
  rcases List.mem_cons.1 h with rfl|h
  ·simp[A0.pres,hy]
  simp[A0.pres,Ii hy l h]
theorem Good.arg {N:Nat}{x a:A0}(h:Good N x)(ha:a∈x.cO):Good N a:=fun y hy=>h y (by
 rw[A0.pre_eq];exact List.mem_cons_of_mem _ (Ii hy _ ha))
theorem P8 {x a:A0}(ha:a∈x.cO):a.pre.length<x.pre.length:=by
 have:=(Ms x.cO a (Ii (by rw[A0.pre_eq];simp) _ ha)).2;rw[A0.pre_eq x];simp only[List.length_cons];omega
theorem YT {N:Nat} (hN:40000000≤N) {y:A0} (hb:y.bulk≤16777216) (hl:y.cO.length≤64) (h:Q9 N y=0) (ho:y.Op=1∨y.Op=7∨y.Op=8∨y.Op=9∨y.Op=10):∃a r,y.cO=a::r:=by
 have hc:y.cP.bulk≤16777216:=by have:=A0.bulk_eq y;omega
 obtain⟨s,ng,hs⟩:=Ja N y (by omega) (by omega) hl;obtain⟨sz,hz⟩:=NH hN y.cP;have h1:=El hN hc (by omega) (by omega) hs hz
 rw[(CE hN hb hl).2,h]at h1
 have h2:s.cU≤y.cO.length:=by
  have h1:=Option.some.inj h1
  by_cases hc:s.cU≤y.cO.length∧(y.cO.length:Int)≤s.most
  ·exact hc.1
  rw[if_neg hc]at h1;cases h1
 have h3:1≤s.cU:=by
  have ht:=hs.tab
  rcases ho with h|h|h|h|h<;>rw[h]at ht<;>cases ht<;>decide
 match he:y.cO,h2 with
 |[],h2=>simp at h2;omega
 |a::r,_=>exact⟨a,r,rfl⟩
theorem few8 {N:Nat}(hN:40000000≤N){x:A3}(hb:x.bulk≤16777216):∃b,BR N x=some b:=by
 unfold BR;obtain⟨r,h0,_⟩:=RK hN 200 N x (by omega) hb;rw[h0];simp only[Option.bind_some]
 split
 ·rw[MS hN N x (by omega) hb];exact⟨_,rfl⟩
 exact⟨_,rfl⟩
theorem GO {α:Type} {F:α→Option Bool}:∀(l:List α),(∀a∈l,∃b,F a=some b)→∃o,H7 (fun(_:Unit) a=>(F a).bind fun r=>if nt r=true then some (Sum.inr (Sum.inr (α:=Unit) ()))else some (.inl ())) l ()=some o
 |[],_=>⟨_,rfl⟩
 |a::l,h=>by
  obtain⟨b,hb⟩:=h a (by simp);unfold H7;rw[hb]
  cases b with
  |false=>exact⟨_,rfl⟩
  |true=>exact GO l fun a ha=>h a (by simp[ha])
theorem few9 {N:Nat} (hN:40000000≤N) {x:A0} (hb:x.bulk≤16777216):∃b,Ff N x=some b:=by
 unfold Ff;obtain⟨r,h0,_⟩:=Qh hN 150 N x (by omega) hb;rw[h0];simp only[Option.bind_some]
 split
 ·exact⟨_,rfl⟩
 rw[RI hN N x (by omega) hb];simp only[Option.bind_some]
 split
 ·exact⟨_,rfl⟩
 rw[Mk hN N x (by omega) hb];simp only[Option.bind_some];have hp:=DY x;rw[I7 x.pre (by omega) (mk:=fun(_:Unit) i=>i) (body:=fun(_:Unit) a=>(BR N a.cP).bind fun r=>if nt r=true then some (.inr (.inr ()))else some (.inl ())) (fin:=fun _=>.inl ()) (s:=()) (by omega) ?_ ?_]
 ·obtain⟨o,ho⟩:=GO (F:=fun(a:A0)=>BR N a.cP) x.pre fun a ha=>few8 hN (by have:=(EE x a ha).1;have:=A0.bulk_eq a;omega);rw[ho]
  cases o with
  |inl _=>exact⟨_,rfl⟩
  |inr o=>cases o<;>exact⟨_,rfl⟩
 ·intro s i a ha hi;have e:ar .add .i64 (i:Int) 1=i+1:=C5 (by omega) (by omega);simp only[C1,B5,hi,decide_true,if_true,D9,ha,Option.bind_some,e]
  cases BR N a.cP with
  |none=>rfl
  |some r=>cases r<;>rfl
 intro s;simp[C1,B5]
end Go.Ab
namespace Go.Ab
theorem Jl {S R:Type} {step:S→Option (S ⊕ R)} (I:Nat→S→Prop) (Q:R→Prop):∀(k i:Nat) (s:S) (N:Nat),k<N→I i s→
 (∀j s,i≤j→j<i+k→I j s→∃o,step s=some o∧(match o with| .inl s'=>I (j+1) s'| .inr r=>Q r))→
 (∀s,I (i+k) s→∃r,step s=some (.inr r)∧Q r)→∃r,loopN step N s=some r∧Q r
 |0,i,s,N,hN,h0,_,he=>by
  obtain⟨N,rfl⟩:∃M,N=M+1:=⟨N - 1,by omega⟩;obtain⟨r,h1,h2⟩:=he s h0;exact⟨r,by simp only[loopN,h1],h2⟩
 | k+1,i,s,N,hN,h0,hs,he=>by
  obtain⟨N,rfl⟩:∃M,N=M+1:=⟨N - 1,by omega⟩;obtain⟨o,h1,h2⟩:=hs i s (Nat.le_refl _) (by omega) h0
  cases o with
  |inl s'=>
   obtain⟨r,h3,h4⟩:=Jl I Q k (i+1) s' N (by omega) h2 (fun j s a b c=>hs j s (by omega) (by omega) c) (fun s h=>he s (by rw[show i+(k+1)=i+1+k by omega];exact h));exact⟨r,by simp only[loopN,h1,h3],h4⟩
  |inr r=>exact⟨r,by simp only[loopN,h1],h2⟩
noncomputable instance :DecidableEq A3:=Classical.typeDecidableEq _
noncomputable instance :DecidableEq A0:=Classical.typeDecidableEq _
noncomputable instance :DecidableEq JK:=Classical.typeDecidableEq _
noncomputable instance :DecidableEq PM:=Classical.typeDecidableEq _
noncomputable instance :DecidableEq J7:=Classical.typeDecidableEq _
theorem EI {i:Nat}(h:i<1000000000000):ar .add .i64 (i:Int) 1=((i+1:Nat):Int):=by rw[C5 (by omega) (by omega)];omega
theorem Ab7 {α:Type} [DecidableEq α] {N:Nat} (l m:List α) (hl:l.length=m.length) (hs:l.length<1000000000000) (f:α→α→Option Bool) (hf:∀x∈l,∀y∈m,f x y=some (decide (x=y))) (hN:l.length<N):
 loopN (fun(i:Int)=>if cmp .lss i (Ar.len l)=true then(B7 l i).bind fun x=>(B7 m i).bind fun y=>(f x y).bind fun r=>if nt r=true then some (Sum.inr (Sum.inr (α:=Unit) ()))else some (.inl (ar .add .i64 i 1))else some (.inr (.inl ()))) N 0=some (if l=m then .inl ()else .inr ()):=by
 obtain⟨r,h1,h2⟩:=Jl (step:=fun(i:Int)=>if cmp .lss i (Ar.len l)=true then(B7 l i).bind fun x=>(B7 m i).bind fun y=>(f x y).bind fun r=>if nt r=true then some (Sum.inr (Sum.inr (α:=Unit) ()))else some (.inl (ar .add .i64 i 1))else some (.inr (.inl ())))
  (fun j s=>s=(j:Int)∧l.take j=m.take j) (fun r=>r=if l=m then .inl ()else .inr ()) l.length 0 0 N hN ⟨rfl,by simp⟩
  (fun j s _ hj ⟨e,ht⟩=>by
   subst e
   simp only[Nat.zero_add]at hj
   have hj2:j<m.length:=by omega
   have e1:l[j]? =some l[j]:=by simp[hj]
   have e2:m[j]? =some m[j]:=by simp[hj2]
   simp only[C1,B5,show((j:Int)<(l.length:Int)) by omega,decide_true,if_true,D9,e1,e2,Option.bind_some,hf _ (List.getElem_mem hj) _ (List.getElem_mem hj2)]
   by_cases h:l[j]=m[j]
   ·simp only[h,decide_true,U3,Bool.not_true,Bool.false_eq_true,if_false];refine⟨_,rfl,EI (by omega),?_⟩;rw[List.take_add_one,List.take_add_one,ht,e1,e2,h]
   simp only[h,decide_false,U3,Bool.not_false,if_true];refine⟨_,rfl,?_⟩
   rw[if_neg fun he=>h (by subst he;rfl)])
  (fun s ⟨e,ht⟩=>by
   subst e
   simp only[Nat.zero_add]at ht ⊢
   refine⟨.inl (),by simp[C1,B5],?_⟩
   rw[List.take_length,hl,List.take_length]at ht
   rw[if_pos ht])
 rw[h1,h2]
theorem Js {a b:A3}:a=b↔(a.Op=b.Op∧a.Var=b.Var∧a.Field=b.Field∧a.Kind=b.Kind∧a.Value=b.Value)∧a.cO=b.cO:=by
 cases a;cases b;simp;constructor
 ·rintro⟨h1,h2,h3,h4,h5,h6⟩;exact⟨⟨h1,h3,h4,h5,h6⟩,h2⟩
 rintro⟨⟨h1,h3,h4,h5,h6⟩,h2⟩;exact⟨h1,h2,h3,h4,h5,h6⟩
theorem We {a b:A5}:a=b↔a.Kind=b.Kind∧a.Num=b.Num∧a.Text=b.Text:=by cases a;cases b;simp
theorem Of (a b:A3):MD a b=true↔¬((a.Op=b.Op∧a.Var=b.Var∧a.Field=b.Field∧a.Kind=b.Kind∧a.Value=b.Value)∧a.cO.length=b.cO.length):=by
 simp only[MD,M9,L4,U3,H9,C4,Fc,B5,We,Bool.or_eq_true,Bool.not_eq_true',decide_eq_false_iff_not,Bool.and_eq_false_iff,Bool.and_true,decide_eq_true_eq,Classical.not_and_iff_not_or_not]
 constructor
 ·rintro(((((h|h)|h)|h)|h)|h)
  ·simp[h]
  ·simp[h]
  ·simp[h]
  ·simp[h]
  ·rcases h with h|h|h<;>simp[h]
  right;omega
 rintro((h|h|h|h|h)|h)
 ·simp[h]
 ·simp[h]
 ·simp[h]
 ·simp[h]
 ·rcases h with h|h|h<;>simp[h]
 right;omega
theorem Xq {N:Nat} (hN:40000000≤N):∀(n:Nat) (a b:A3),a.bulk≤n→a.bulk≤16777216→O5 N n a b=some (decide (a=b)):=by
 intro n
 induction n with
 |zero=>intro a b h;have:=Y2 a;omega
 | succ n ih=>
  intro a b hx hb;have hl:=AQ a;unfold O5
  change (if MD a b=true then some false else _)=_
  by_cases h:MD a b=true
  ·rw[if_pos h]
   rw[Of]at h
   rw[decide_eq_false];intro e;exact h ⟨(Js.1 e).1,by rw[(Js.1 e).2]⟩
  rw[if_neg h]
  rw[Of,Classical.not_not]at h
  rw[Ab7 a.cO b.cO h.2 (by omega) _ (fun x hx y hy=>ih x y (by have:=Q5 hx;omega) (by have:=Q5 hx;omega)) (by omega)];simp only[Option.bind_some]
  by_cases he:a.cO=b.cO
  ·rw[if_pos he,decide_eq_true (Js.2 ⟨h.1,he⟩)]
  rw[if_neg he,decide_eq_false fun e=>he (Js.1 e).2]
structure Arity (y:A0):Prop where
 op:0≤y.Op∧y.Op≤10
 ev:y.Op=0→y.cO=[]
 two:1≤y.Op→y.Op≤3→2≤y.cO.length
 one:4≤y.Op→y.Op≠8→∃a,y.cO=[a]
 more:y.Op=8→∃a b,y.cO=[a,b]
end Go.Ab
namespace Go.Ab
abbrev Pr :=JK×J7
def zE :A3:=⟨0,[],0,0,0,⟨0,0,⟨#[]⟩⟩⟩
def zP :A0:=⟨0,[],0,0,0,0,zE⟩
def nd (op:Int)(args:List A0):A0:=⟨op,args,0,0,0,0,zE⟩
def Af6 :J7:=⟨true,zP⟩
def Af1 (op:Int)(l:List A0):A0:=match l with|[x]=>x|l=>nd op l
def Ap8 (r:J7)(more:List A0):J7:=
 match(if r.done=true then more else r.p::more)with
 |[]=>Af6
 |l=>⟨false,Af1 1 l⟩
def Ap2 (args:List A0)(i:Nat)(r:J7):J7:=
 ⟨false,Af1 3 (if r.done=true then args.take i++args.drop (i+1)else args.set i r.p)⟩
def Esz (e:JK)(k:Nat):Prop:=e.Opens.length≤k∧e.Closes.length≤k∧e.Checks.length≤k∧e.Limits.length≤k∧e.Inside.length≤k
def An7 (p:A0) (x:JK) (done opens:Bool):JK:=
 {x with
  Opens:=if opens=true then p.cR::x.Opens else x.Opens
  Inside:=if p.Op=5∨p.Op=9 then p.cR::x.Inside else x.Inside
  Limits:=if p.Op=5∨p.Op=9 then x.Limits else⟨p.cR,p.Span⟩::x.Limits
  Closes:=if done=true then x.Closes++[p.cR]else x.Closes}
def rep (again:A0)(y:Pr):List Pr:=
 if y.2.done=true then[y,(y.1,⟨false,again⟩)]else match again.cO with|b::_=>[(y.1,⟨false,nd 8 [y.2.p,b]⟩)]|[]=>[]
def innE (x:A0)(y:Pr):JK:=
 if x.Op=7 then(if y.2.done=true then{y.1 with Checks:=y.1.Checks++[x.cP]}else y.1)
 else An7 x y.1 y.2.done (if x.Op=5∨x.Op=9 then decide (x.Op=5)else decide (x.Op=6))
def Ap4 (x:A0):Int:=if x.Op=7 then 7 else if x.Op=5∨x.Op=9 then 9 else 10
def innR (x:A0)(r:J7):J7:=if r.done=true then r else{r with p:={x with Op:=Ap4 x,cO:=[r.p]}}
def inn (x:A0)(y:Pr):Pr:=(innE x y,innR x y.2)
def comb (x:A0)(ls:List (List Pr)):List Pr:=
 if x.Op=0 then[(⟨0,0,x.Var,x.Typ,x.cP,[],[],[],[],[]⟩,Af6)]
 else if x.Op=1 then(ls.headD []).map fun y=>(y.1,Ap8 y.2 (x.cO.drop 1))
 else if x.Op=2 then(List.range x.cO.length).flatMap fun i=>ls.getD i []
 else if x.Op=3 then(List.range x.cO.length).flatMap fun i=>(ls.getD i []).map fun y=>(y.1,Ap2 x.cO i y.2)
 else if x.Op=4 then(ls.headD []).flatMap (rep x)
 else if x.Op=8 then(ls.headD []).flatMap (rep (nd 4 (x.cO.drop 1)))
 else(ls.headD []).map (inn x)
mutual
def raw :A0→List Pr
 |⟨op,args,typ,var,scope,span,c⟩=>comb ⟨op,args,typ,var,scope,span,c⟩ (raws args)
def raws :List A0→List (List Pr)
 |[]=>[]
 |a::l=>raw a::raws l
end
theorem Esz.mono {e:JK}{k m:Nat}(h:Esz e k)(hm:k≤m):Esz e m:=by obtain⟨h1,h2,h3,h4,h5⟩:=h;exact⟨by omega,by omega,by omega,by omega,by omega⟩
end Go.Ab
namespace Go.Ab
end Go.Ab
