/- . -/
import Derived.Test.YtjhobbohibnioaaGreatDoorF14
set_option linter.all false
open Go.Ab.Ar (lst)
namespace Go.Ab
open Go.RowKit Go.Proofs Go.Proofs.Tryz O6
variable [Ar][O6]
set_option maxRecDepth 100000
theorem c130 (N:Nat) (bP:List E1) (aO:Int) (bA:V) (aX:E1→E1→Option Int) (bR:∀y1 y2 q,aX y1 y2=some q→AL prog bA [(BY y1),(BY y2)] (vi q)) (r:(List E1)) (h:BU N bP aO aX=some r):ZL prog 130 (fun q=>[.own q.id q.lo q.n,vi aO,bA]) 4 (lst eBh1 bP) (lst eBh1 r):=by
 refine QC (T:=TT) (m:=3) cf0 O7 func130 (by rfl) (by kernel_rfl) call130 ntmps130 (by rfl) (fun _=>rfl) (by rfl) ?_;intro E H0 q0 K hE hq0 hO hK;cbv;obtain⟨s2,hx,h⟩:=bind_some h;refine H9 cf0 hE O7 (fun s1=>[(0,.v (.own q0.id q0.lo q0.n)),fi 1 aO,(2,.v (bA)),fi 6 20,fi 7 0,fi 8 20]) (fun s1 H1=>C5 Eq (upd H0 q0.id none) [ob q0 4 eBh1 bP] H1) (fun x e l H1=>e= .exit 0∧l=[(0,.v (.own q0.id q0.lo q0.n)),fi 1 aO,(2,.v (bA)),fi 6 20,fi 7 0]∧C5 Eq (upd H0 q0.id none) [ob q0 4 eBh1 bP] H1) (by kernel_rfl) ?_ hx ?_ hO ?_
 ·intro s1 H o hO h;cbv;apply C4 hE h<;>intro _ h
  ·cbv;cases h
  cbv;cases h;exact⟨_,_,rfl,⟨rfl,rfl,hO⟩,.e rfl (.e4 .z),rfl⟩
 ·exact .e2 (.e4 .z)
 clear hx;rintro e l H ⟨rfl,rfl,hO⟩;cbv;refine Wo hE hO hq0 0 rfl h (c172 N bP 0 aO bA aX bR) .z fun l3 H hq0 hO h=>?_;cbv;obtain⟨s5,hx,h⟩:=bind_some h;refine H9 cf0 hE O7 (fun s4=>[(0,.v (.own q0.id q0.lo q0.n)),fi 1 aO,(2,.v (bA)),fi 6 20]) (fun s4 H1=>C5 Eq (upd H0 q0.id none) [ob q0 4 eBh1 l3] H1) (fun x e l H1=>e= .exit 2∧l=[(0,.v (.own q0.id q0.lo q0.n))]∧C5 Eq (upd H0 q0.id none) [ob q0 4 eBh1 l3] H1) (by kernel_rfl) ?_ hx ?_ hO ?_
 ·intro s4 H o hO h;cbv;apply C4 hE h<;>intro _ h
  ·cbv;cases h
  cbv;cases h;exact⟨_,_,rfl,⟨rfl,rfl,hO⟩,.e rfl .z,rfl⟩
 ·exact .e4 .z
 clear hx;rintro e l H ⟨rfl,rfl,hO⟩;cbv;cases h;exact hK _ 0 _ hq0 rfl hO
theorem c63 (N:Nat)(aF:List E1)(bA:V)(aX:E1→E1→Option Int)(bR:∀y1 y2 q,aX y1 y2=some q→AL prog bA [(BY y1),(BY y2)] (vi q))(r:(List E1))(h:Z1 N aF aX=some r):ZL prog 63 (fun q=>[.own q.id q.lo q.n,bA]) 4 (lst eBh1 aF) (lst eBh1 r):=by
 refine QC (T:=TT) (m:=2) cf0 O7 func63 (by rfl) (by kernel_rfl) call63 ntmps63 (by rfl) (fun _=>rfl) (by rfl) ?_;intro E H0 q0 K hE hq0 hO hK;cbv;apply Td hE hq0;cbv;refine Wo hE hO hq0 0 rfl h (c130 N aF (Ar.len aF) bA aX bR) .z fun l1 H hq0 hO h=>?_;cbv;cases h;exact hK _ 0 _ hq0 rfl hO
theorem c65 (N aC aD r)(h:JZ N aC aD=some r):B9 prog 65 [(Dy aC),(Dy aD)] (vi r):=by
 refine O0 cf0 func65 call65 ntmps65 ?_;intro E H0 K hE hK hO;cbv;refine B0 hE h (c72 N (⟨aC.Source,aC.Seq,0,aC.Time,[]⟩:A8) (⟨aD.Source,aD.Seq,0,aD.Time,[]⟩:A8)) (.cons (.agg (.r (.r (.r (.r (.cons (.lit _ (E4)) .z)))))) (.cons (.agg (.r (.r (.r (.r (.cons (.lit _ (E4)) .z)))))) .z)) fun r1 h=>?_;cbv;cases h;exact hK hO .z
theorem c64 (N aC aD r)(h:Eh N aC aD=some r):B9 prog 64 [(BY aC),(BY aD)] (vi r):=by
 refine O0 cf0 func64 call64 ntmps64 ?_;intro E H0 K hE hK hO;cbv;refine B0 hE h (c65 N aC.Ref aD.Ref) .z fun r1 h=>?_;cbv;cases h;exact hK hO .z
def cfo62:Cf:=⟨[7,6000004,6000005,6000017],[(5,10),(10,12)],[],[],[],[]⟩
theorem o62 (N:Nat):∀n aA aK r,Cl N n aA aK=some r→VG prog 62 [(C8 aA),(G0 aK)] 4 (lst eBh1 r):=by
 intro n
 cases n with
 |zero=>intro aA aK r h;cases h
 |succ n=>
 intro aA aK r h
 unfold Cl at h
 intro H0;refine Nq (T:=TT) (F:=H0) cfo62 O7 func62 (by rfl) (by kernel_rfl) call62 ntmps62 (by rfl) (by rfl) ?_;intro E K hE hK hN;have hO:C5 Eq H0 [] H0:=.start M5 rfl;cbv;refine Ad4 hE (f:=eBh1) hO fun q1 H hq1 hO=>?_
 repeat' (cbv;first|apply C4 hE h<;>intro _ h|apply I8 hE|(cases h;exact hK q2 _ _ (Hl hE hq2) (hO))|(cases h;done)|refine AD3 hE (f:=eBh1) (l:=([(⟨aA.Var,aK.Ref⟩:E1)]:List E1)) (.lstc (.eq (eBi1 (⟨aA.Var,aK.Ref⟩:E1)) .z) (.lst0)) hO fun q2 H hq2 hO=>?_|refine Ad4 hE (f:=eBh1) hO fun q3 H hq3 hO=>?_)
 cbv;obtain⟨s6,hx,h⟩:=bind_some h;refine P6 cfo62 hE O7 (γ:=OG) (fun s4 g=>[(2,.v (.eref (D2 aA) 0)),(5,.v (.own g.id g.lo g.n)),(32,.v (sr eBg6 aK.Kids)),fi 33 (Ar.len aK.Kids),fi 34 s4.1]) (fun s4 g H1=>BD g (Ar.len s4.2)∧C5 Eq H0 [ob g 4 eBh1 s4.2,ob q1 4 eBh1 ([]:List E1)] H1) (fun x e l H1=>∃u1:OG,BD u1 (Ar.len x)∧e= .exit 1∧l=[(5,.v (.own u1.id u1.lo u1.n))]∧C5 Eq H0 [ob u1 4 eBh1 x,ob q1 4 eBh1 ([]:List E1)] H1) (by kernel_rfl) ?_ q3 hx ?_ ?_ ?_
 ·rintro s4 q5 H o ⟨hq5,hO⟩ h;cbv;apply C4 hE h<;>intro _ h
  ·repeat' (cbv;first|apply I8 hE|refine D9 hE eBg8 h fun _ h=>?_|refine D9 hE eBh2 h fun _ h=>?_|apply C0 hE hO 0 rfl|refine C1 hE hO 0 rfl rfl fun H hO=>?_|refine E5 hE (g:=fun r10=>sr eBh1 r10) h (c62 _ _ _ _) .z fun r10 h=>?_|refine E2 hE hO fun _ H hO=>?_|(cases h;exact⟨_,q11,rfl,.e rfl (.e4 .z),rfl,hq11,hO.tail⟩)|refine RZ hE h fun h=>?_|refine Wl (f:=eBh1) hE Gv (by decide) hO hq5 1 rfl (m:=r10) (Qe (f:=eBh1) hE Gv .z) h fun _ q11 H hq11 hO h=>?_)
  cbv;cases h;exact⟨_,_,rfl,⟨q5,hq5,rfl,rfl,hO⟩,.e rfl .z,rfl⟩
 ·exact .e rfl (.e4 .z)
 ·exact⟨hq3,hO⟩
 clear hx;rintro e l H ⟨q13,hq13,rfl,rfl,hO⟩;cbv;cases h;exact hK q13 _ _ (Hl hE hq13) (hO)
def cf17:Cf:=⟨[4],[(9,11)],[],[],[(42,7)],[]⟩
theorem c17 (N aA aK r) (h:FH N aA aK=some r):B9 prog 17 [(C8 aA),(G0 aK)] (.tup [(Kg r.1),vi r.2]):=by
 refine O0 cf17 func17 call17 ntmps17 ?_;intro E H0 K hE hK hO;cbv;refine E2 hE hO fun b1 H hO=>?_;cbv;refine B0 hE h (c26 N aA aK) .z fun r2 h=>?_;cbv;apply C4 hE h<;>intro _ h
 ·cbv;cases h
 cbv;refine Wp hE (f:=eBh1) h (o62 N N aA aK) .z hO fun l3 q4 H hq4 hO h=>?_;cbv;refine Wo hE hO hq4 0 rfl h (fun l5 hx=>c63 N l3 (.func (.func 64) [] []) (fun y1 y2=>Eh N y1 y2) (fun y1 y2 r hx=>B9.value (F:=[]) (C:=[]) (c64 N y1 y2 r hx)) l5 hx) .z fun l5 H hq4 hO h=>?_;cbv;obtain⟨s7,hx,h⟩:=bind_some h;refine H9 cf17 hE O7 (fun s6=>[(4,.v (.ref b1 0)),(7,.v (.own q4.id q4.lo q4.n)),fi 8 s6]) (fun s6 H1=>C5 Eq H0 [ob q4 4 eBh1 l5,cb b1 [.sl [] .nil]] H1) (fun x e l H1=>e= .exit 0∧l=[(4,.v (.ref b1 0)),(7,.v (.own q4.id q4.lo q4.n))]∧C5 Eq H0 [ob q4 4 eBh1 l5,cb b1 [.sl [] .nil]] H1) (by kernel_rfl) ?_ hx ?_ hO ?_
 ·intro s6 H o hO h
  repeat' (cbv;first|apply C4 hE h<;>intro _ h|(cases h;done)|(cases h;exact⟨_,rfl,.e rfl (.e2 .z),rfl,hO⟩)|(cases h;exact⟨_,_,rfl,⟨rfl,rfl,hO⟩,.e2 .z,rfl⟩)|apply Td hE hq4|refine Dd hE hO hq4 0 rfl h fun h=>?_|refine EM hE eBi1 hO hq4 0 rfl h fun _ h=>?_)
 ·exact .e rfl (.e2 .z)
 clear hx;rintro e l H ⟨rfl,rfl,hO⟩
 repeat' (cbv;first|apply C4 hE h<;>intro _ h|refine B0 hE h (c59 _ _) .z fun _ h=>?_|apply C0 hE hO 0 rfl|refine C1 hE hO 0 rfl rfl fun H hO=>?_|(cases h;done)|(cases h;exact hK hO .z)|refine AY7 hE hO hq4 0 rfl fun H hO=>?_)
theorem c84 (N aC aD r)(h:Rc N aC aD=some r):B9 prog 84 [(BY aC),(BY aD)] (vi r):=by
 refine O0 cf0 func84 call84 ntmps84 ?_;intro E H0 K hE hK hO
 repeat' (cbv;first|apply C4 hE h<;>intro _ h|refine B0 hE h (c106 _ _ _) .z fun _ h=>?_|(cases h;done)|(cases h;exact hK hO .z))
def cf28:=cfB [] [(4,10)]
theorem c28 (N aC aD r) (h:NH N aC aD=some r):B9 prog 28 [(Kg aC),(Kg aD)] (vi r):=by
 refine O0 cf28 func28 call28 ntmps28 ?_;intro E H0 K hE hK hO;cbv;obtain⟨s2,hx,h⟩:=bind_some h;refine H9 cf28 hE O7 (fun s1=>[(2,.v (.eref (Nr aC) 0)),(3,.v (.eref (Nr aD) 0)),fi 5 s1]) (fun s1 H1=>C5 Eq H0 [] H1) (fun x e l H1=>e= .exit 0∧l=[(2,.v (.eref (Nr aC) 0)),(3,.v (.eref (Nr aD) 0))]∧C5 Eq H0 [] H1) (by kernel_rfl) ?_ hx ?_ hO ?_
 ·intro s1 H o hO h
  repeat' (cbv;first|apply C4 hE h<;>intro _ h|apply I8 hE|refine B0 hE h (c84 _ _ _) .z fun _ h=>?_|refine D9 hE eBi1 h fun _ h=>?_|(cases h;done)|(cases h;exact⟨_,rfl,.e rfl (.e2 .z),rfl,hO⟩)|(cases h;exact⟨_,_,rfl,⟨rfl,rfl,hO⟩,.e2 .z,rfl⟩))
 ·exact .e rfl (.e2 .z)
 clear hx;rintro e l H ⟨rfl,rfl,hO⟩
 repeat' (cbv;first|apply C4 hE h<;>intro _ h|apply I8 hE|(cases h;done)|(cases h;exact hK hO .z))
theorem c85 (N aA aK r) (h:KV N aA aK=some r):B9 prog 85 [(C8 aA),(G0 aK)] (sr eBi6 r):=by
 refine O0 cf0 func85 call85 ntmps85 ?_;intro E H0 K hE hK hO;cbv;refine B0 hE h (c62 N N aA aK) .z fun r1 h=>?_;cbv;apply I8 hE;cbv;replace hO:=hO.tl0 (t:=.nil) rfl;obtain⟨s4,hx,h⟩:=bind_some h;refine P6 cf0 hE O7 (γ:=G6) (fun s2 g=>[(5,.v (.sl (lst eBi6 s2.1) g)),(10,.v (sr eBh1 r1)),fi 11 (Ar.len r1),fi 12 s2.2]) (fun s2 g H1=>T3 g∧C5 Eq H0 [.tl g] H1) (fun x e l H1=>∃u1:G6,T3 u1∧e= .exit 0∧l=[(5,.v (.sl (lst eBi6 x) u1))]∧C5 Eq H0 [.tl u1] H1) (by kernel_rfl) ?_ .nil hx ?_ ?_ ?_
 ·rintro s2 t3 H o ⟨ht3,hO⟩ h;cbv;apply C4 hE h<;>intro _ h
  ·cbv;refine D9 hE eBi1 h fun x5 h=>?_;cbv;refine S7 (f:=eBi6) hE AL5 (by decide) hO 0 rfl ht3 (l:=s2.1) (m:=[x5.Ref]) .z (.lstc (.eq (eBj3 x5.Ref) .z) (.lst0)) h fun l7 t6 H hO ht6 h=>?_;cbv;cases h;exact⟨_,t6,rfl,.e4 .z,rfl,ht6,hO⟩
  cbv;cases h;exact⟨_,_,rfl,⟨t3,ht3,rfl,rfl,hO⟩,.e rfl .z,rfl⟩
 ·exact .v (.slt _ (.lst0)) (.e rfl (.e2 .z))
 ·exact⟨trivial,hO⟩
 clear hx;rintro e l H ⟨t8,ht8,rfl,rfl,hO⟩;cbv;cases h;exact hK hO (.ro _ _)
def cf86:=cfC [17] [(3,13),(4,19),(6,16),(14,18)] [(89,14)]
theorem c86 (N:Nat):∀n aF aA aK aI aL r,N1 N n aF aA aK aI aL=some r→B9 prog 86 [.eref (D7 aF) 0,(C8 aA),(G0 aK),sr eBg4 aI,vi aL] (.tup [sr eBg4 r.1,.bool r.2]):=by
 intro n
 induction n with
 |zero=>intro aF aA aK aI aL r h;cases h
 |succ n ih=>
 intro aF aA aK aI aL r h
 unfold N1 at h
 refine O0 cf86 func86 call86 ntmps86 ?_;intro E H0 K hE hK hO;cbv;refine C4 hE h (fun _ h=>?_) fun _ h=>?_
 ·cbv;refine E5 hE (g:=fun r1=>.tup [vi r1.1,.bool r1.2.1,vi r1.2.2]) h (c60 N aF.cQ aK.Ref) (.refl _) fun r1 h=>?_;cbv;refine C4 hE h (fun _ h=>?_) fun _ h=>?_
  ·cbv;refine E5 hE (g:=fun r2=>.bool r2) h (c139 N aF aA aI r1.1) (.refl _) fun r2 h=>?_;cbv;cases h;exact hK hO (.tup (.cons (.lit _ (G8 ((eBh8 (⟨aA.Var,r1.1⟩:A6)).symm) (E4))) (.refl _)))
  cbv;cases h;exact hK hO (.tup (.cons (.lit _ (G8 ((eBh8 (⟨aA.Var,r1.1⟩:A6)).symm) (E4))) (.refl _)))
 cbv;refine C4 hE h (fun _ h=>?_) fun _ h=>?_
 ·cbv;refine D9 hE eBh2 h fun x3 h=>?_;cbv;refine D9 hE eBg8 h fun x4 h=>?_;cbv;refine E5 hE (g:=fun r5=>.tup [sr eBg4 r5.1,.bool r5.2]) h (ih aF x3 x4 aI aL) (.refl _) fun r5 h=>?_;cbv;cases h;exact hK hO (.refl _)
 cbv;refine I8 hE ?_;cbv;replace hO:=hO.tl0 (t:=.nil) rfl;obtain⟨s7,hx,h⟩:=bind_some h;refine H9 cf86 hE O7 (fun s6=>[(0,.v (.eref (D7 aF) 0)),(3,.v (sr eBg4 aI)),fi 4 s6.1,(6,.v (.eref (D2 aA) 0)),(15,.v (sr eBg4 s6.2.1)),(74,.v (sr eBg6 aK.Kids)),fi 75 (Ar.len aK.Kids),fi 76 s6.2.2]) (fun s6 H1=>C5 Eq H0 [.tl .nil] H1) (fun x e l H1=>match(generalizing:=false) x with| .inl y=>e= .exit 1∧l=[(0,.v (.eref (D7 aF) 0)),(3,.v (sr eBg4 aI)),(6,.v (.eref (D2 aA) 0)),(15,.v (sr eBg4 y))]∧C5 Eq H0 [.tl .nil] H1| .inr y=>e= .ret∧l=[(10,.v (.sl [] .nil)),(11,.b false)]∧C5 Eq H0 [.tl .nil] H1) (by kernel_rfl) ?_ hx ?_ hO ?_
 ·intro s6 H o hO h;clear hx;cbv;refine C4 hE h (fun _ h=>?_) fun _ h=>?_
  ·cbv;refine D9 hE eBg8 h fun x8 h=>?_;cbv;refine E2 hE hO fun b9 H hO=>?_;cbv;refine C1 hE hO 0 rfl rfl fun H hO=>?_;cbv;obtain⟨s10,hx,h⟩:=bind_some h;refine N2 cf86 hE O7 (fun e l H1=>e= .normal∧l=[(0,.v (.eref (D7 aF) 0)),(3,.v (sr eBg4 aI)),fi 4 s6.1,(6,.v (.eref (D2 aA) 0)),(15,.v (sr eBg4 s6.2.1)),fi 16 s6.2.2,(17,.v (.ref b9 0)),(18,.v (sr eBg4 s10)),(74,.v (sr eBg6 aK.Kids)),fi 75 (Ar.len aK.Kids),fi 76 s6.2.2]∧C5 Eq H0 [cb b9 (U6 x8),.tl .nil] H1) (by kernel_rfl) ?_ ?_
   ·clear h;have h:=hx;clear hx;cbv;refine C4 hE h (fun _ h=>?_) fun _ h=>?_
    ·cbv;refine B0 hE h (c140 N aI s6.2.1) (.refl _) fun r11 h=>?_;cbv;cases h;exact⟨_,⟨rfl,rfl,hO⟩,.e rfl (.e2 (.e4 (.e4 .z))),rfl⟩
    cbv;cases h;exact⟨_,⟨rfl,rfl,hO⟩,.e rfl (.e2 (.e4 (.e4 .z))),rfl⟩
   clear hx;rintro e l H ⟨rfl,rfl,hO⟩;cbv;refine I8 hE ?_;cbv;refine RZ hE h fun h=>?_;cbv;refine D9 hE eBh2 h fun x12 h=>?_;cbv;refine C0 hE hO 0 rfl ?_;cbv;refine E5 hE (g:=fun r13=>.tup [sr eBg4 r13.1,.bool r13.2]) h (ih aF x12 x8 s10 s6.1) (.refl _) fun r13 h=>?_;cbv;refine C4 hE h (fun _ h=>?_) fun _ h=>?_
   ·cbv;cases h;exact⟨_,_,rfl,⟨rfl,rfl,hO.tail⟩,.e rfl (.b rfl (.z)),rfl⟩
   cbv;refine B0 hE h (c141 N s6.2.1 r13.1) (.refl _) fun r14 h=>?_;cbv;refine C4 hE h (fun _ h=>?_) fun _ h=>?_
   ·cbv;cases h;exact⟨_,_,rfl,⟨rfl,rfl,hO.tail⟩,.e rfl (.b rfl (.z)),rfl⟩
   cbv;refine C4 hE h (fun _ h=>?_) fun _ h=>?_
   ·cbv;refine B0 hE h (c142 N r13.1) (.refl _) fun r15 h=>?_;cbv;refine B0 hE h (c140 N s6.2.1 r13.1) (.refl _) fun r16 h=>?_;cbv;cases h;exact⟨_,rfl,.e4 (.e4 .z),rfl,hO.tail⟩
   cbv;refine B0 hE h (c140 N s6.2.1 r13.1) (.refl _) fun r17 h=>?_;cbv;cases h;exact⟨_,rfl,.e4 (.e4 .z),rfl,hO.tail⟩
  cbv;cases h;exact⟨_,_,rfl,⟨rfl,rfl,hO⟩,.e4 .z,rfl⟩
 ·exact .e4 (.v (.lit _ (E4)) (.e rfl (.e rfl (.e rfl (.z)))))
 clear hx
 rcases s7 with y18|y20
 ·rintro e l H ⟨rfl,rfl,hO⟩;cbv;refine C4 hE h (fun _ h=>?_) fun _ h=>?_
  ·cbv;cases h;exact hK hO (.refl _)
  cbv;refine B0 hE h (c143 N aF aA aI y18) (.refl _) fun r19 h=>?_;cbv;cases h;exact hK hO (.refl _)
 rintro e l H ⟨rfl,rfl,hO⟩;cbv;cases h;exact hK hO (.tup (.cons (.lit _ (E4)) (.refl _)))
theorem c31 (N aA aH aK r) (h:Ba N aA aH aK=some r):B9 prog 31 [(C8 aA),sr eBg5 aH,(G0 aK)] (vi r):=by
 refine O0 cf0 func31 call31 ntmps31 ?_;intro E H0 K hE hK hO
 repeat' (cbv;first|apply C4 hE h<;>intro _ h|apply I8 hE|refine B0 hE h (c26 _ _ _) .z fun _ h=>?_|refine B0 hE h (c56 _ _) .z fun _ h=>?_|refine B0 hE h (c85 _ _ _) .z fun r3 h=>?_|(cases h;done))
 cbv;obtain⟨s5,hx,h⟩:=bind_some h;refine H9 cf0 hE O7 (fun s4=>[(1,.v (sr eBg5 aH)),(3,.v (.eref (D2 aA) 0)),(5,.v (.eref (U6 aK) 0)),(30,.v (sr eBi6 r3)),fi 31 (Ar.len r3),fi 32 s4]) (fun s4 H1=>C5 Eq H0 [] H1) (fun x e l H1=>match(generalizing:=false) x with| .inl y=>e= .exit 0∧l=[(1,.v (sr eBg5 aH)),(3,.v (.eref (D2 aA) 0)),(5,.v (.eref (U6 aK) 0))]∧C5 Eq H0 [] H1| .inr y=>e= .ret∧l=[fi 6 6]∧C5 Eq H0 [] H1) (by kernel_rfl) ?_ hx ?_ hO ?_
 ·intro s4 H o hO h
  repeat' (cbv;first|apply C4 hE h<;>intro _ h|refine B0 hE h (c60 _ _ _) .z fun _ h=>?_|refine D9 hE eBj3 h fun _ h=>?_|(cases h;exact⟨_,_,rfl,⟨rfl,rfl,hO⟩,.e rfl .z,rfl⟩)|(cases h;exact⟨_,rfl,.e2 (.e4 .z),rfl,hO⟩)|(cases h;exact⟨_,_,rfl,⟨rfl,rfl,hO⟩,.e rfl (.e2 .z),rfl⟩))
 ·exact .e2 (.e4 .z)
 clear hx
 rcases s5 with y8|y10
 ·rintro e l H ⟨rfl,rfl,hO⟩
  repeat' (cbv;first|apply C4 hE h<;>intro _ h|refine B0 hE h (c86 _ _ _ _ _ _ _) (.r (.r (.r (.cons (.lit _ (E4)) .z)))) fun _ h=>?_|(cases h;exact hK hO .z))
 rintro e l H ⟨rfl,rfl,hO⟩;cbv;cases h;exact hK hO .z
theorem c145 (N aC aD r)(h:EK N aC aD=some r):B9 prog 145 [vi aC,vi aD] (vi r):=by
 refine O0 cf0 func145 call145 ntmps145 ?_;intro E H0 K hE hK hO
 repeat' (cbv;first|apply C4 hE h<;>intro _ h|(cases h;exact hK hO .z))
theorem c90 (N aC aD r)(h:Cq N aC aD=some r):B9 prog 90 [(Dy aC),(Dy aD)] (vi r):=by
 refine O0 cf0 func90 call90 ntmps90 ?_;intro E H0 K hE hK hO
 repeat' (cbv;first|apply C4 hE h<;>intro _ h|refine B0 hE h (c145 _ _ _) .z fun _ h=>?_|(cases h;exact hK hO .z))
def cf34:=cfB [] [(11,10)]
theorem c34 (N:Nat):∀n aC aD r,Y1 N n aC aD=some r→B9 prog 34 [(G0 aC),(G0 aD)] (vi r):=by
 intro n
 induction n with
 |zero=>intro aC aD r h;cases h
 |succ n ih=>
 intro aC aD r h
 unfold Y1 at h
 refine O0 cf34 func34 call34 ntmps34 ?_;intro E H0 K hE hK hO
 repeat' (cbv;first|apply C4 hE h<;>intro _ h|refine B0 hE h (c90 _ _ _) .z fun _ h=>?_|(cases h;exact hK hO .z))
 cbv;obtain⟨s3,hx,h⟩:=bind_some h;refine H9 cf34 hE O7 (fun s2=>[(2,.v (.eref (U6 aC) 0)),(3,.v (.eref (U6 aD) 0)),fi 6 s2]) (fun s2 H1=>C5 Eq H0 [] H1) (fun x e l H1=>match(generalizing:=false) x with| .inl y=>e= .exit 0∧l=[(2,.v (.eref (U6 aC) 0)),(3,.v (.eref (U6 aD) 0))]∧C5 Eq H0 [] H1| .inr y=>e= .ret∧l=[fi 4 y]∧C5 Eq H0 [] H1) (by kernel_rfl) ?_ hx ?_ hO ?_
 ·intro s2 H o hO h
  repeat' (cbv;first|apply C4 hE h<;>intro _ h|apply I8 hE|refine B0 hE h (ih _ _) .z fun _ h=>?_|refine D9 hE eBg8 h fun _ h=>?_|(cases h;exact⟨_,_,rfl,⟨rfl,rfl,hO⟩,.e rfl .z,rfl⟩)|(cases h;exact⟨_,rfl,.e rfl (.e2 .z),rfl,hO⟩)|(cases h;exact⟨_,_,rfl,⟨rfl,rfl,hO⟩,.e2 .z,rfl⟩))
 ·exact .e rfl (.e2 .z)
 clear hx
 rcases s3 with y7|y8
 ·rintro e l H ⟨rfl,rfl,hO⟩
  repeat' (cbv;first|apply C4 hE h<;>intro _ h|apply I8 hE|(cases h;exact hK hO .z))
 rintro e l H ⟨rfl,rfl,hO⟩;cbv;cases h;exact hK hO .z
def cf40:=cfB [] [(6,8)]
theorem c40 (N aC aD r) (h:HI N aC aD=some r):B9 prog 40 [sr eBg6 aC,sr eBg6 aD] (.bool r):=by
 refine O0 cf40 func40 call40 ntmps40 ?_;intro E H0 K hE hK hO
 repeat' (cbv;first|apply C4 hE h<;>intro _ h|apply I8 hE|(cases h;exact hK hO .z))
 cbv;obtain⟨s2,hx,h⟩:=bind_some h;refine H9 cf40 hE O7 (fun s1=>[(0,.v (sr eBg6 aC)),(1,.v (sr eBg6 aD)),fi 5 s1]) (fun s1 H1=>C5 Eq H0 [] H1) (fun x e l H1=>match(generalizing:=false) x with| .inl y=>e= .exit 0∧l=[]∧C5 Eq H0 [] H1| .inr y=>e= .ret∧l=[(4,.b false)]∧C5 Eq H0 [] H1) (by kernel_rfl) ?_ hx ?_ hO ?_
 ·intro s1 H o hO h
  repeat' (cbv;first|apply C4 hE h<;>intro _ h|apply I8 hE|refine B0 hE h (c34 _ _ _ _) .z fun _ h=>?_|refine D9 hE eBg8 h fun _ h=>?_|(cases h;exact⟨_,_,rfl,⟨rfl,rfl,hO⟩,.b rfl (.z),rfl⟩)|(cases h;exact⟨_,rfl,.e rfl (.e2 .z),rfl,hO⟩)|(cases h;exact⟨_,_,rfl,⟨rfl,rfl,hO⟩,.z,rfl⟩))
 ·exact .e rfl (.e2 .z)
 clear hx
 rcases s2 with y6|y7
 ·rintro e l H ⟨rfl,rfl,hO⟩;cbv;cases h;exact hK hO .z
 rintro e l H ⟨rfl,rfl,hO⟩;cbv;cases h;exact hK hO .z
def cf76:=cfA [4]
theorem c76 (N cF cH r)(h:Kz N cF cH=some r):B9 prog 76 [vi cF,vi cH] ((G0 r)):=by
 refine O0 cf76 func76 call76 ntmps76 ?_;intro E H0 K hE hK hO;cbv;refine E2 hE hO fun b1 H hO=>?_;cbv;refine C1 hE hO 0 rfl rfl fun H hO=>?_;cbv;apply C0 hE hO 0 rfl;cbv;cases h;exact hK hO (.agg (.r (.r (.r (.r (.cons (.lit _ (E4)) .z))))))
def cf135:=cfA [0]
theorem c135 (N r)(h:Qq N=some r):B9 prog 135 [] ((Y9 r)):=by
 refine O0 cf135 func135 call135 ntmps135 ?_;intro E H0 K hE hK hO;cbv;refine E2 hE hO fun b1 H hO=>?_;cbv;refine C1 hE hO 0 rfl rfl fun H hO=>?_;cbv;apply C0 hE hO 0 rfl;cbv;cases h;exact hK hO (.agg (.r (.cons (.lit _ (E4)) .z)))
def cf77:=cfA [2]
theorem c77 (N aN r)(h:Y2 N aN=some r):B9 prog 77 [vi aN] ((C8 r)):=by
 refine O0 cf77 func77 call77 ntmps77 ?_;intro E H0 K hE hK hO;cbv;refine E2 hE hO fun b1 H hO=>?_;cbv;refine B0 hE h (c135 N) .z fun r2 h=>?_;cbv;refine B0 hE h (c135 N) .z fun r3 h=>?_;cbv;refine C1 hE hO 0 rfl rfl fun H hO=>?_;cbv;apply C0 hE hO 0 rfl;cbv;cases h;exact hK hO (.agg (.r (.cons (.sl _ (.lstc (.eq (eBh2 (⟨0,[],0,0,0,0,r2⟩:A1)) (.agg (.r (.cons (.lit _ (E4)) .z)))) (.lstc (.eq (eBh2 (⟨4,[(⟨0,[],aN,1,0,0,r3⟩:A1)],0,0,0,0,(⟨0,[],0,0,0,(⟨0,0,⟨#[]⟩⟩:B1)⟩:B6)⟩:A1)) (.agg (.r (.cons (.sl _ (.lstc (.eq (eBh2 (⟨0,[],aN,1,0,0,r3⟩:A1)) (.agg (.r (.cons (.lit _ (E4)) .z)))) (.lst0))) (.r (.r (.r (.r (.r (.cons (.lit _ (E4)) .z)))))))))) (.lst0)))) (.r (.r (.r (.r (.r (.cons (.lit _ (E4)) .z)))))))))
def cf78:Cf:=⟨[6000011],[(3000003,0),(3000003,1),(3000003,2),(3000003,4),(3000003,5),(3000003,7)],[],[2000003],[],[]⟩
theorem c78 (N aT bN r)(h:BQ N aT bN=some r):B9 prog 78 [vi aT,vi bN] (sr eBg5 r):=by
 refine Fg (T:=TT) cf78 O7 func78 (by rfl) (by kernel_rfl) call78 ntmps78 (by rfl) (by rfl) ?_;intro E H0 K hE hK hF;have hO:C5 Eq H0 [] H0:=.start M5 rfl;cbv;refine AD3 hE (f:=eBg5) (l:=([(⟨0,0,0,1,[]⟩:A8),(⟨0,1,1,aT,[]⟩:A8),(⟨0,2,1,bN,[]⟩:A8)]:List A8)) (.lstc (.eq (eBh4 (⟨0,0,0,1,[]⟩:A8)) (.agg (.r (.r (.r (.r (.cons (.lit _ (E4)) .z))))))) (.lstc (.eq (eBh4 (⟨0,1,1,aT,[]⟩:A8)) (.agg (.r (.r (.r (.r (.cons (.lit _ (E4)) .z))))))) (.lstc (.eq (eBh4 (⟨0,2,1,bN,[]⟩:A8)) (.agg (.r (.r (.r (.r (.cons (.lit _ (E4)) .z))))))) (.lst0)))) hO fun q1 H hq1 hO=>?_;cbv;apply C4 hE h<;>intro _ h
 ·cbv;cases h
 cbv;cases h;exact hF q1 _ _ 0 _ _ hO rfl (Hl hE hq1) .z
def cf79:=cfA [2]
theorem c79 (N aG r)(h:Ag N aG=some r):B9 prog 79 [sr eBg6 aG] ((G0 r)):=by
 refine O0 cf79 func79 call79 ntmps79 ?_;intro E H0 K hE hK hO;cbv;refine E2 hE hO fun b1 H hO=>?_;cbv;refine B0 hE h (c76 N 1 0) .z fun r2 h=>?_;cbv;refine C1 hE hO 0 rfl rfl fun H hO=>?_;cbv;apply C0 hE hO 0 rfl;cbv;cases h;exact hK hO (.agg (.r (.r (.r (.r (.cons (.lit _ (G8 ((eBg8 r2).symm) (G8 ((eBg8 (⟨(⟨0,0,0⟩:Q4),0,aG⟩:A3)).symm) (E4)))) .z))))))
def cf24:=cfB [1,2] [(3,21),(5,11),(6,9),(7,11),(8,65)]
theorem c24 (N r) (h:Df N=some r):B9 prog 24 [] (.bool r):=by
 unfold Df at h
 refine O0 cf24 func24 call24 ntmps24 ?_;intro E H0 K hE hK hO;cbv;refine B0 hE h (c76 N 2 1) (.refl _) fun r1 h=>?_;cbv;refine B0 hE h (c76 N 3 2) (.refl _) fun r2 h=>?_;cbv;refine E2 hE hO fun b3 H hO=>?_;cbv;refine E2 hE hO fun b4 H hO=>?_;cbv;refine C1 hE hO 1 rfl rfl fun H hO=>?_;cbv;refine C1 hE hO 0 rfl rfl fun H hO=>?_;cbv;refine B0 hE h (c77 N 1) (.refl _) fun r5 h=>?_;cbv;refine B0 hE h (c78 N 2 3) (.refl _) fun r6 h=>?_;cbv;refine B0 hE h (c15 N r5 r6) (.refl _) fun r7 h=>?_;cbv;refine C0 hE hO 1 rfl ?_;cbv;refine C4 hE h (fun _ h=>?_) fun _ h=>?_
 ·cbv;cases h;exact hK hO (.refl _)
 cbv;refine E5 hE (g:=fun r8=>(G0 r8)) h (c79 N ([r1])) (.cons (.lit _ (G8 ((eBg8 r1).symm) (E4))) (.refl _)) fun r8 h=>?_;cbv;refine C0 hE hO 1 rfl ?_;cbv;refine C0 hE hO 0 rfl ?_;cbv;refine E5 hE (g:=fun r9=>(G0 r9)) h (c79 N ([r1,r2])) (.cons (.lit _ (G8 ((eBg8 r1).symm) (G8 ((eBg8 r2).symm) (E4)))) (.refl _)) fun r9 h=>?_;cbv;refine C0 hE hO 0 rfl ?_;cbv;refine E5 hE (g:=fun r10=>(G0 r10)) h (c79 N ([r2])) (.cons (.lit _ (G8 ((eBg8 r2).symm) (E4))) (.refl _)) fun r10 h=>?_;cbv;refine E5 hE (g:=fun r11=>.bool r11) h (c40 N r7.1 ([r8,r9,r10])) (.cons (.refl _) (.cons (.lit _ (G8 ((eBg8 r8).symm) (G8 ((eBg8 r9).symm) (G8 ((eBg8 r10).symm) (E4))))) (.refl _))) fun r11 h=>?_;cbv;refine C0 hE hO 1 rfl ?_;cbv;refine C0 hE hO 0 rfl ?_;cbv;refine C4 hE h (fun _ h=>?_) fun _ h=>?_
 ·cbv;cases h;exact hK hO (.refl _)
 cbv;refine B0 hE h (c79 N ([r1,r2])) (.cons (.lit _ (G8 ((eBg8 r1).symm) (G8 ((eBg8 r2).symm) (E4)))) (.refl _)) fun r12 h=>?_;cbv;refine B0 hE h (c29 N N r12) (.refl _) fun r13 h=>?_;cbv;refine C4 hE h (fun _ h=>?_) fun _ h=>?_
 ·cbv;cases h;exact hK hO (.refl _)
 cbv;refine E5 hE (g:=fun r14=>(C8 r14)) h (c77 N 1) (.refl _) fun r14 h=>?_;cbv;refine C0 hE hO 1 rfl ?_;cbv;refine C0 hE hO 0 rfl ?_;cbv;refine E5 hE (g:=fun r15=>(G0 r15)) h (c79 N ([r1,r2])) (.cons (.lit _ (G8 ((eBg8 r1).symm) (G8 ((eBg8 r2).symm) (E4)))) (.refl _)) fun r15 h=>?_;cbv;refine E5 hE (g:=fun r16=>.tup [(Kg r16.1),vi r16.2]) h (c17 N r14 r15) (.refl _) fun r16 h=>?_;cbv;refine E5 hE (g:=fun r17=>(C8 r17)) h (c77 N 1) (.refl _) fun r17 h=>?_;cbv;refine E5 hE (g:=fun r18=>sr eBg5 r18) h (c78 N 2 3) (.refl _) fun r18 h=>?_;cbv;refine E5 hE (g:=fun r19=>.tup [(G0 r19.1),vi r19.2]) h (c16 N r17 r18 r16.1) (.refl _) fun r19 h=>?_;cbv;refine E5 hE (g:=fun r20=>(C8 r20)) h (c77 N 1) (.refl _) fun r20 h=>?_;cbv;refine C0 hE hO 0 rfl ?_;cbv;refine C0 hE hO 1 rfl ?_;cbv;refine E5 hE (g:=fun r21=>(G0 r21)) h (c79 N ([r2,r1])) (.cons (.lit _ (G8 ((eBg8 r2).symm) (G8 ((eBg8 r1).symm) (E4)))) (.refl _)) fun r21 h=>?_;cbv;refine E5 hE (g:=fun r22=>.tup [(Kg r22.1),vi r22.2]) h (c17 N r20 r21) (.refl _) fun r22 h=>?_;cbv;refine C0 hE hO 1 rfl ?_;cbv;refine C0 hE hO 0 rfl ?_;cbv;refine C4 hE h (fun _ h=>?_) fun _ h=>?_
 ·cbv;refine E5 hE (g:=fun r23=>(G0 r23)) h (c79 N ([r1,r2])) (.cons (.lit _ (G8 ((eBg8 r1).symm) (G8 ((eBg8 r2).symm) (E4)))) (.refl _)) fun r23 h=>?_;cbv;refine E5 hE (g:=fun r24=>vi r24) h (c21 N N r19.1 r23) (.refl _) fun r24 h=>?_;cbv;refine I8 hE ?_;cbv;refine C4 hE h (fun _ h=>?_) fun _ h=>?_
  ·cbv;refine E5 hE (g:=fun r25=>(C8 r25)) h (c77 N 1) (.refl _) fun r25 h=>?_;cbv;refine E5 hE (g:=fun r26=>sr eBg5 r26) h (c78 N 2 3) (.refl _) fun r26 h=>?_;cbv;refine C0 hE hO 1 rfl ?_;cbv;refine C0 hE hO 0 rfl ?_;cbv;refine E5 hE (g:=fun r27=>(G0 r27)) h (c79 N ([r1,r2])) (.cons (.lit _ (G8 ((eBg8 r1).symm) (G8 ((eBg8 r2).symm) (E4)))) (.refl _)) fun r27 h=>?_;cbv;refine E5 hE (g:=fun r28=>vi r28) h (c31 N r25 r26 r27) (.refl _) fun r28 h=>?_;cbv;refine C4 hE h (fun _ h=>?_) fun _ h=>?_
   ·cbv;refine E5 hE (g:=fun r29=>(C8 r29)) h (c77 N 1) (.refl _) fun r29 h=>?_;cbv;refine E5 hE (g:=fun r30=>sr eBg5 r30) h (c78 N 2 3) (.refl _) fun r30 h=>?_;cbv;refine Ct hE (f:=eBg5) Qc h fun l31 t32 h=>?_;cbv;refine C0 hE hO 1 rfl ?_;cbv;refine C0 hE hO 0 rfl ?_;cbv;refine E5 hE (g:=fun r33=>(G0 r33)) h (c79 N ([r1,r2])) (.cons (.lit _ (G8 ((eBg8 r1).symm) (G8 ((eBg8 r2).symm) (E4)))) (.refl _)) fun r33 h=>?_;cbv;refine E5 hE (g:=fun r34=>vi r34) h (c31 N r29 l31 r33) (.cons (.refl _) (.cons (.ro _ _) (.refl _))) fun r34 h=>?_;cbv;refine C4 hE h (fun _ h=>?_) fun _ h=>?_
    ·cbv;refine E5 hE (g:=fun r35=>(C8 r35)) h (c77 N 0) (.refl _) fun r35 h=>?_;cbv;refine E5 hE (g:=fun r36=>sr eBg5 r36) h (c78 N 2 3) (.refl _) fun r36 h=>?_;cbv;refine C0 hE hO 1 rfl ?_;cbv;refine C0 hE hO 0 rfl ?_;cbv;refine E5 hE (g:=fun r37=>(G0 r37)) h (c79 N ([r1,r2])) (.cons (.lit _ (G8 ((eBg8 r1).symm) (G8 ((eBg8 r2).symm) (E4)))) (.refl _)) fun r37 h=>?_;cbv;refine E5 hE (g:=fun r38=>vi r38) h (c31 N r35 r36 r37) (.refl _) fun r38 h=>?_;cbv;refine C4 hE h (fun _ h=>?_) fun _ h=>?_
     ·cbv;refine E5 hE (g:=fun r39=>(C8 r39)) h (c77 N 1) (.refl _) fun r39 h=>?_;cbv;refine E5 hE (g:=fun r40=>sr eBg5 r40) h (c78 N 2 3) (.refl _) fun r40 h=>?_;cbv;refine C0 hE hO 0 rfl ?_;cbv;refine C0 hE hO 1 rfl ?_;cbv;refine E5 hE (g:=fun r41=>(G0 r41)) h (c79 N ([r2,r1])) (.cons (.lit _ (G8 ((eBg8 r2).symm) (G8 ((eBg8 r1).symm) (E4)))) (.refl _)) fun r41 h=>?_;cbv;refine E5 hE (g:=fun r42=>vi r42) h (c31 N r39 r40 r41) (.refl _) fun r42 h=>?_;cbv;refine C4 hE h (fun _ h=>?_) fun _ h=>?_
      ·cbv;refine B0 hE h (c28 N r16.1 r22.1) (.refl _) fun r43 h=>?_;cbv;cases h;exact hK hO (.refl _)
      cbv;cases h;exact hK hO (.refl _)
     cbv;cases h;exact hK hO (.refl _)
    cbv;cases h;exact hK hO (.refl _)
   cbv;cases h;exact hK hO (.refl _)
  cbv;cases h;exact hK hO (.refl _)
 cbv;cases h;exact hK hO (.refl _)
end Go.Ab
