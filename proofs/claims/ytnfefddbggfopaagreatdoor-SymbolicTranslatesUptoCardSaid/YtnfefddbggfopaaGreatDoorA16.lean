/- . -/
import Derived.Test.YtnfefddbggfopaaGreatDoorA15
set_option linter.all false
open Go.Ab.Ar (ar cmp lst)
namespace Go.Ab
open Go.RowKit Go.Proofs Go.Proofs.Tryz L7
variable [Ar][L7]
set_option maxRecDepth 100000
def c66 (N aA r)(h:FA N aA=some r):Fg prog 66 [(J8 aA)] (fun v=>Jm prog v (r.map fun(x:(Int×(List A3)))=>[vi x.1,sr eBg7 x.2])):=by
 refine Y0 A8 J6 func66 (by rfl) (by kernel_rfl) call66 ntmps66 (by rfl) (by rfl) ?_;intro E H0 K hE hK;have hO:B6 Eq H0 [] H0:=.start E0 rfl;cbv;exact hK _ _ _ hO (X8 call102 (c102 N aA r h))
def cf101:=cfA [2,3]
def c101 (N aA r)(h:Lc N aA=some r):C3 prog 101 [(J8 aA)] (.tup [.bool r.1,vi r.2]):=by
 refine N2 cf101 func101 call101 ntmps101 ?_;intro E H0 K hE hK hO;cbv;refine E5 hE hO fun b1 H hO=>?_;cbv;refine E5 hE hO fun b2 H hO=>?_;cbv;refine A9 hE h (c62 N ([aA])) (.cons (.lit _ (F2 ((eBj7 aA).symm) (B5))) .z) fun r3 h=>?_;cbv;apply B7 hE h<;>intro _ h
 ·cbv;cases h
 cbv;refine Ap hE h (c66 N aA) .z fun r4 v5 hv5 h=>?_;cbv;obtain⟨o10,hx,h⟩:=A7 h;refine DG cf101 hE J6 (ι:=Unit) (enc:=fun(x:(Int×(List A3)))=>[vi x.1,sr eBg7 x.2]) (fun(s7:Unit) F H=>B6 Eq F [cb b2 [vi 0],cb b1 [.bool false]] H) (fun(r:Unit) e F H=>e= .ret∧B6 Eq F [cb b2 [vi 0],cb b1 [.bool false]] H) (fun i s7 y6=>[(2,.v (.ref b1 0)),(3,.v (.ref b2 0))]) (fun i s7 y6 F H=>B6 Eq F [cb b2 [vi 0],cb b1 [.bool false]] H) (fun _=>B6.stable E0 _) (fun _ _=>G5.con (B6.stable E0 _)) (fun _ _ _=>B6.stable E0 _) hv5 hx (hO) (by decide) (fun _=>rfl) (by kernel_rfl) (by kernel_rfl) ?_ ?_ ?_ ?_
 ·rintro E i9 y6 s7 F8 H hE hO;clear hx h;cbv;exact⟨(),hO,.e2 .z,rfl⟩
 ·rintro E i9 _ y6 s7 F8 H o hE hF h hO;cbv;refine B9 hE hO 1 rfl rfl fun H hO=>?_;cbv;refine B9 hE hO 0 rfl rfl fun H hO=>?_;cbv;cases h;exact⟨_,rfl,rfl,⟨rfl,hO⟩⟩
 ·rintro d11 s13 H rfl hd hO;have hO:B6 Eq H0 [cb b2 [vi 0],cb b1 [.bool false],.blk d11 DB] H:=B6.dblk hd hO;clear hd;cbv;refine B9 hE hO 1 rfl rfl fun H hO=>?_;cbv;refine B9 hE hO 0 rfl rfl fun H hO=>?_;cbv;refine Er hE hO 2 rfl fun H hO=>?_;cbv;apply D0 hE hO 1 rfl;cbv;apply D0 hE hO 0 rfl;cbv;cases h;exact hK hO .z
 rintro d11 y14 e H rfl hd hX
 rcases hX with⟨rfl,hO⟩
 have hO:B6 Eq H0 [cb b2 [vi 0],cb b1 [.bool false],.blk d11 DB] H:=B6.dblk hd hO;clear hd;cbv;refine Er hE hO 2 rfl fun H hO=>?_;cbv;apply D0 hE hO 1 rfl;cbv;apply D0 hE hO 0 rfl;cbv;cases h;exact hK hO .z
def c65 (N aA r)(h:Np N aA=some r):C3 prog 65 [(J8 aA)] (.bool r):=by
 refine N2 A8 func65 call65 ntmps65 ?_;intro E H0 K hE hK hO;cbv;refine A9 hE h (c101 N aA) .z fun r1 h=>?_;cbv;cases h;exact hK hO .z
def cf34:=cfB [6000004] [(16,5),(17,9)]
def c34 (N aC r) (h:HE N aC=some r):Af4 prog 34 [(X0 aC)] (.int .i64) (V.int .i64) (V.int .i64) r:=by
 refine Ae2 (T:=TT) cf34 J6 func34 (by rfl) (by kernel_rfl) call34 ntmps34 (by rfl) (by rfl) ?_;intro E H0 K hE hK;have hO:B6 Eq H0 [] H0:=.start E0 rfl;cbv;refine SM hE (.int .i64) (V.int .i64) (V.int .i64) hO fun m1 o2 H ho2 hO=>?_;cbv;refine KA hE (f:=(V.int .i64)) hO fun q3 H hq3 hO=>?_;cbv;apply G9 hE;cbv;obtain⟨s7,hx,h⟩:=A7 h;refine J9 cf34 hE J6 (γ:=OG×Obj) (fun s4 g=>[(1,.v (.eref (H6 aC) 0)),(3,.v (.map m1)),(4,.v (.own g.1.id g.1.lo g.1.n)),(13,.v (sr V.bool aC.dK)),fi 14 (Ar.len aC.dK),fi 15 s4.1]) (fun s4 g H1=>Bz g.1 (Ar.len s4.2.1)∧Jz (.int .i64) (V.int .i64) (V.int .i64) g.2 s4.2.2∧B6 Eq H0 [.blk g.1.id (.arr 1 (g.1.pre++lst (V.int .i64) s4.2.1++g.1.rest)),.blk m1 (.obj g.2)] H1) (fun x e l H1=>∃u1:OG,Bz u1 (Ar.len x.1)∧∃u2:Obj,Jz (.int .i64) (V.int .i64) (V.int .i64) u2 x.2∧e= .exit 0∧l=[(1,.v (.eref (H6 aC) 0)),(3,.v (.map m1)),(4,.v (.own u1.id u1.lo u1.n))]∧B6 Eq H0 [ob u1 1 (V.int .i64) x.1,.blk m1 (.obj u2)] H1) (by kernel_rfl) ?_ (⟨q3,o2⟩) hx ?_ ?_ ?_
 ·rintro s4 ⟨q5,q6⟩ H o ⟨hq5,hq6,hO⟩ h
  repeat' (cbv;first|apply B7 hE h<;>intro _ h|refine D8 hE (fun _=>rfl) h fun _ h=>?_|(cases h;exact⟨_,⟨q11,o9⟩,rfl,.e2 (.e4 .z),rfl,hq11,ho9,hO⟩)|(cases h;exact⟨_,⟨q5,q6⟩,rfl,.e2 (.e4 .z),rfl,hq5,hq6,hO⟩)|(cases h;exact⟨_,_,rfl,⟨q5,hq5,q6,hq6,rfl,rfl,hO⟩,.e rfl (.e2 .z),rfl⟩)|refine Mq hE (kt:=3) (et:=3) (by kernel_rfl) (by kernel_rfl) (CY .i64) (Yb .i64) hO hq6 1 rfl h fun _ o9 H ho9 h hO=>?_|refine DX (f:=(V.int .i64)) hE (fun _=>rfl) (by decide) hO hq5 0 rfl (m:=[s4.1]) (Ct (f:=(V.int .i64)) hE (fun _=>rfl) (.lstc .z (.lst0))) h fun _ q11 H hq11 hO h=>?_)
 ·exact .e2 (.e4 .z)
 ·exact⟨hq3,ho2,hO⟩
 clear hx;rintro e l H ⟨q13,hq13,q14,hq14,rfl,rfl,hO⟩;cbv;obtain⟨s18,hx,h⟩:=A7 h;refine J9 cf34 hE J6 (γ:=OG×Obj) (fun s15 g=>[(1,.v (.eref (H6 aC) 0)),(3,.v (.map m1)),(4,.v (.own g.1.id g.1.lo g.1.n))]) (fun s15 g H1=>Bz g.1 (Ar.len s15.1)∧Jz (.int .i64) (V.int .i64) (V.int .i64) g.2 s15.2∧B6 Eq H0 [.blk g.1.id (.arr 1 (g.1.pre++lst (V.int .i64) s15.1++g.1.rest)),.blk m1 (.obj g.2)] H1) (fun x e l H1=>∃u1:OG,Bz u1 (Ar.len x.1)∧∃u2:Obj,Jz (.int .i64) (V.int .i64) (V.int .i64) u2 x.2∧e= .exit 2∧l=[(3,.v (.map m1))]∧B6 Eq H0 [ob u1 1 (V.int .i64) x.1,.blk m1 (.obj u2)] H1) (by kernel_rfl) ?_ (⟨q13,q14⟩) hx ?_ ?_ ?_
 ·rintro s15 ⟨q16,q17⟩ H o ⟨hq16,hq17,hO⟩ h;cbv;apply KB hE hq16;cbv;apply B7 hE h<;>intro _ h
  ·cbv;apply G9 hE;cbv;obtain⟨s22,hx,h⟩:=A7 h;refine J9 cf34 hE J6 (γ:=OG×Obj) (fun s19 g=>[(1,.v (.eref (H6 aC) 0)),(3,.v (.map m1)),(4,.v (.own g.1.id g.1.lo g.1.n)),(34,.v (sr eBh7 aC.dA)),fi 35 (Ar.len aC.dA),fi 36 s19.1]) (fun s19 g H1=>Bz g.1 (Ar.len s19.2.1)∧Jz (.int .i64) (V.int .i64) (V.int .i64) g.2 s19.2.2∧B6 Eq H0 [.blk g.1.id (.arr 1 (g.1.pre++lst (V.int .i64) s19.2.1++g.1.rest)),.blk m1 (.obj g.2)] H1) (fun x e l H1=>∃u1:OG,Bz u1 (Ar.len x.1)∧∃u2:Obj,Jz (.int .i64) (V.int .i64) (V.int .i64) u2 x.2∧e= .exit 4∧l=[(1,.v (.eref (H6 aC) 0)),(3,.v (.map m1)),(4,.v (.own u1.id u1.lo u1.n))]∧B6 Eq H0 [ob u1 1 (V.int .i64) x.1,.blk m1 (.obj u2)] H1) (by kernel_rfl) ?_ (⟨q16,q17⟩) hx ?_ ?_ ?_
   ·rintro s19 ⟨q20,q21⟩ H o ⟨hq20,hq21,hO⟩ h
    repeat' (cbv;first|apply B7 hE h<;>intro _ h|refine A9 hE h (c65 _ _) .z fun _ h=>?_|refine D8 hE eBi2 h fun x23 h=>?_|(cases h;exact⟨_,⟨q31,o29⟩,rfl,.e2 (.e4 .z),rfl,hq31,ho29,hO⟩)|(cases h;exact⟨_,⟨q20,q21⟩,rfl,.e2 (.e4 .z),rfl,hq20,hq21,hO⟩)|(cases h;exact⟨_,_,rfl,⟨q20,hq20,q21,hq21,rfl,rfl,hO⟩,.e rfl (.e2 .z),rfl⟩)|refine VX hE (kt:=3) (et:=3) (by kernel_rfl) (by kernel_rfl) (CY .i64) (0:Int) (by kernel_rfl) rfl hO hq21 1 rfl h fun _ h=>?_|refine BF hE hO hq20 0 rfl h fun h=>?_|refine DH hE (fun _=>rfl) hO hq20 0 rfl h fun _ h=>?_|refine VY hE (kt:=3) (et:=3) (by kernel_rfl) (by kernel_rfl) (CY .i64) (0:Int) (by kernel_rfl) rfl hO hq21 1 rfl h fun _ h=>?_|refine Mq hE (kt:=3) (et:=3) (by kernel_rfl) (by kernel_rfl) (CY .i64) (Yb .i64) hO hq21 1 rfl h fun _ o29 H ho29 h hO=>?_|refine DX (f:=(V.int .i64)) hE (fun _=>rfl) (by decide) hO hq20 0 rfl (m:=[x23.dE]) (Ct (f:=(V.int .i64)) hE (fun _=>rfl) (.lstc .z (.lst0))) h fun _ q31 H hq31 hO h=>?_)
   ·exact .e2 (.e4 .z)
   ·exact⟨hq16,hq17,hO⟩
   clear hx;rintro e l H ⟨q33,hq33,q34,hq34,rfl,rfl,hO⟩;cbv;refine XW hE hO hq33 0 rfl h fun l36 q35 hq35 hO h=>?_;cbv;cases h;exact⟨_,⟨q35,q34⟩,rfl,.e rfl (.e2 .z),rfl,hq35,hq34,hO⟩
  cbv;cases h;exact⟨_,_,rfl,⟨q16,hq16,q17,hq17,rfl,rfl,hO⟩,.e rfl .z,rfl⟩
 ·exact .e rfl (.e2 .z)
 ·exact⟨hq13,hq14,hO⟩
 clear hx;rintro e l H ⟨q37,hq37,q38,hq38,rfl,rfl,hO⟩;cbv;cases h;exact hK _ _ _ 1 _ hq38 rfl hO
def c35 (N cK aH aU r)(h:Fq N cK aH aU=some r)(mx1:Nat)(ox1:Obj)(hox1:Jz (.int .i64) (V.int .i64) (V.int .i64) ox1 aH)(bx2:Nat):Af3 prog 35 [(Fp cK),.eref [.map mx1] 0,.ref bx2 0] [(mx1,.obj ox1),(bx2,.cells [vi aU])] (.bool r):=by
 refine Ae0 (T:=TT) A8 J6 func35 (by rfl) (by kernel_rfl) call35 ntmps35 (by rfl) (by rfl) ?_;intro E H0 K hE hO hK;have hO:B6 Eq (Jy H0 [(mx1,.obj ox1),(bx2,.cells [vi aU])]) [.blk mx1 (.obj ox1),cb bx2 [vi aU]] H0:=hO;cbv;refine VX hE (kt:=3) (et:=3) (by kernel_rfl) (by kernel_rfl) (CY .i64) (0:Int) (by kernel_rfl) rfl hO hox1 0 rfl h fun r1 h=>?_;cbv;apply D0 hE hO 1 rfl;cbv;cases h;exact hK _ _ (hO) .z
def cf36:=cfA [2,3]
def c36 (N aA r)(h:IV N aA=some r):C3 prog 36 [(J8 aA)] (.tup [(LU r.1),vi r.2]):=by
 refine N2 cf36 func36 call36 ntmps36 ?_;intro E H0 K hE hK hO;cbv;refine E5 hE hO fun b1 H hO=>?_;cbv;refine E5 hE hO fun b2 H hO=>?_;cbv;refine A9 hE h (c62 N ([aA])) (.cons (.lit _ (F2 ((eBj7 aA).symm) (B5))) .z) fun r3 h=>?_;cbv;apply B7 hE h<;>intro _ h
 ·cbv;cases h
 cbv;refine Ap hE h (c66 N aA) .z fun r4 v5 hv5 h=>?_;cbv;obtain⟨o10,hx,h⟩:=A7 h;refine DG cf36 hE J6 (ι:=Unit) (enc:=fun(x:(Int×(List A3)))=>[vi x.1,sr eBg7 x.2]) (fun(s7:Unit) F H=>B6 Eq F [cb b2 [vi 0],cb b1 [vi 0,vi 0]] H) (fun(r:K8) e F H=>e= .ret∧B6 Eq F [cb b2 [vi 0],cb b1 (Z3 r)] H) (fun i s7 y6=>[(2,.v (.ref b1 0)),(3,.v (.ref b2 0)),fi 5 y6.1,(6,.v (sr eBg7 y6.2))]) (fun i s7 y6 F H=>B6 Eq F [cb b2 [vi 0],cb b1 [vi 0,vi 0]] H) (fun _=>B6.stable E0 _) (fun _ _=>G5.con (B6.stable E0 _)) (fun _ _ _=>B6.stable E0 _) hv5 hx (hO) (by decide) (fun _=>rfl) (by kernel_rfl) (by kernel_rfl) ?_ ?_ ?_ ?_
 ·rintro E i9 y6 s7 F8 H hE hO;clear hx h;cbv;exact⟨(),hO,.e4 .z,rfl⟩
 ·rintro E i9 _ y6 s7 F8 H o hE hF h hO;cbv;refine D8 hE eBh1 h fun x11 h=>?_;cbv;refine B9 hE hO 1 rfl rfl fun H hO=>?_;cbv;refine B9 hE hO 0 rfl rfl fun H hO=>?_;cbv;cases h;exact⟨_,rfl,rfl,⟨rfl,hO⟩⟩
 ·rintro d12 s14 H rfl hd hO;have hO:B6 Eq H0 [cb b2 [vi 0],cb b1 [vi 0,vi 0],.blk d12 DB] H:=B6.dblk hd hO;clear hd;cbv;refine B9 hE hO 1 rfl rfl fun H hO=>?_;cbv;refine B9 hE hO 0 rfl rfl fun H hO=>?_;cbv;refine Er hE hO 2 rfl fun H hO=>?_;cbv;apply D0 hE hO 1 rfl;cbv;apply D0 hE hO 0 rfl;cbv;cases h;exact hK hO .z
 rintro d12 y15 e H rfl hd hX
 rcases hX with⟨rfl,hO⟩
 have hO:B6 Eq H0 [cb b2 [vi 0],cb b1 (Z3 y15),.blk d12 DB] H:=B6.dblk hd hO;clear hd;cbv;refine Er hE hO 2 rfl fun H hO=>?_;cbv;apply D0 hE hO 1 rfl;cbv;apply D0 hE hO 0 rfl;cbv;cases h;exact hK hO .z
def c37 (N aG aQ r)(h:KX N aG aQ=some r):C3 prog 37 [(LU aG),(LU aQ)] (.bool r):=by
 refine N2 A8 func37 call37 ntmps37 ?_;intro E H0 K hE hK hO;cbv;cases h;exact hK hO .z
def cf15:Cf:=⟨[7,12,13],[(3000031,0),(3000031,1),(3000031,4),(3000031,5),(3000031,6)],[],[2000031],[],[]⟩
def c15 (N aC r) (h:LW N aC=some r):C3 prog 15 [(X0 aC)] (.tup [.bool r.1,sr eBh9 r.2.1,vi r.2.2]):=by
 refine N2 cf15 func15 call15 ntmps15 ?_;intro E H0 K hE hK hO
 repeat' (cbv;first|refine B7 hE h (fun hc h=>?_) (fun hc h=>?_)|refine A9 hE h (c29 _ _) .z fun _ h=>?_|refine AC0 hE h (c34 N aC) .z hO fun l2 m3 o4 H ho4 hO h=>?_|refine B9 hE hO 0 rfl rfl fun H hO=>?_|refine E5 hE hO fun b6 H hO=>?_|(cases h;done)|refine VX hE (kt:=3) (et:=3) (by kernel_rfl) (by kernel_rfl) (CY .i64) (0:Int) (by kernel_rfl) rfl hO ho4 0 rfl h fun _ h=>?_|refine SM hE (.int .i64) (V.int .i64) V.bool hO fun m7 _ H ho8 hO=>?_|refine Mq hE (kt:=3) (et:=4) (by kernel_rfl) (by kernel_rfl) (CY .i64) Hp hO ho8 0 rfl h fun _ o9 H ho9 h hO=>?_)
 cbv;replace hO:=hO.tl0 (t:=.nil) rfl;obtain⟨s17,hx,h⟩:=A7 h;refine XZ cf15 hE J6 (γ:=E7×Obj×Nat) (fun s12 g=>[(1,.v (.eref (H6 aC) 0)),(2,.b false),(3,.v (.sl [] .nil)),fi 4 0,(7,.v (.ref b6 0)),(9,.v (.eref [.func (.func 35) [] [.eref [.map m3] 0,.ref b6 0]] 0)),(10,.v (.sl (lst eBh9 s12.1) g.1)),(11,.v (.map g.2.2))]) (fun s12 g ds16 H1=>K6 g.1∧Jz (.int .i64) (V.int .i64) V.bool g.2.1 s12.2.1∧True∧B6 Eq H0 (.tl g.1:: .blk g.2.2 (.obj g.2.1)::cb b6 [vi s12.2.2]:: .blk m3 (.obj o4)::Ht ds16) H1) (fun x e l ds16 H1=>∃u1:E7,K6 u1∧∃u2:Obj,Jz (.int .i64) (V.int .i64) V.bool u2 x.2.1∧∃u3:Nat,True∧e= .exit 0∧l=[(10,.v (.sl (lst eBh9 x.1) u1))]∧B6 Eq H0 (.tl u1:: .blk u3 (.obj u2)::cb b6 [vi x.2.2]:: .blk m3 (.obj o4)::Ht ds16) H1) (by kernel_rfl) ?_ (⟨.nil,o9,m7⟩) hx ?_ ?_ ?_
 ·rintro s12 ⟨t13,q14,m15⟩ ds16 H o ⟨ht13,hq14,hm15,hO⟩ h;cbv;apply D0 hE hO 2 rfl;cbv;refine B7 hE h (fun hc h=>?_) (fun hc h=>?_)
  ·cbv;refine E5 hE hO fun b18 H hO=>?_;cbv;refine E5 hE hO fun b19 H hO=>?_;cbv;refine B9 hE hO 0 rfl rfl fun H hO=>?_;cbv;refine Ai2 hE (kt:=3) (et:=4) (by kernel_rfl) hO (hO.get 3 rfl) hq14 fun m20 b21 H hb21 hO=>?_;cbv;obtain⟨s27,hx,h⟩:=A7 h;refine Rv cf15 hE J6 (γ:=Unit) (fun s23 _=>[(1,.v (.eref (H6 aC) 0)),(2,.b false),(3,.v (.sl [] .nil)),fi 4 0,(7,.v (.ref b6 0)),(9,.v (.eref [.func (.func 35) [] [.eref [.map m3] 0,.ref b6 0]] 0)),(10,.v (.sl (lst eBh9 s12.1) t13)),(11,.v (.map m15)),(12,.v (.ref b18 0)),(13,.v (.ref b19 0)),(43,.v (.ref m20 0))]) (fun s23 _ ds26 b25 H1=>B6 Eq H0 (.blk m20 b25::cb b19 [.bool s23.1]::cb b18 (Z3 s23.2):: .tl t13:: .blk m15 (.obj q14)::cb b6 [vi s12.2.2]:: .blk m3 (.obj o4)::Ht ds26) H1) (fun x e l ds26 H1=>e= .exit 2∧l=[(1,.v (.eref (H6 aC) 0)),(2,.b false),(3,.v (.sl [] .nil)),fi 4 0,(7,.v (.ref b6 0)),(9,.v (.eref [.func (.func 35) [] [.eref [.map m3] 0,.ref b6 0]] 0)),(10,.v (.sl (lst eBh9 s12.1) t13)),(11,.v (.map m15)),(12,.v (.ref b18 0))]∧B6 Eq H0 (cb b19 [.bool x.1]::cb b18 (Z3 x.2):: .tl t13:: .blk m15 (.obj q14)::cb b6 [vi s12.2.2]:: .blk m3 (.obj o4)::Ht ds26) H1) (by kernel_rfl) ?_ () hx ?_ hb21 ?_ ?_
   ·rintro s23 _ ds26 lf23 b25 H hb25 hO hs23;cbv;refine Ai3 hE hO hb25 0 rfl (hO.get 4 rfl) (fun hl=>?_) fun p24 l28 b29 H hpp24 hb29 hO=>?_
    ·cbv;refine QP hE (fun hc=>by cases hc) (fun hc=>?_);cbv;exact⟨_,_,_,.inl ⟨hl,rfl⟩,⟨rfl,rfl,hO.tail⟩,.e rfl (.b rfl (.e rfl (.e rfl (.e rfl (.e rfl (.e rfl (.e rfl (.e rfl (.z))))))))),rfl⟩
    obtain⟨o,h⟩:=hs23 p24 l28 hpp24;have h0p24:=h;cbv;refine QP hE (fun hc=>?_) (fun hc=>by cases hc);cbv;refine Ai4 hE hO hb29 0 rfl (hO.get 4 rfl) ?_;cbv;refine Ap hE h (c32 N aC p24.1) .z fun r30 v31 hv31 h=>?_;cbv;obtain⟨o36,hx,h⟩:=A7 h;refine DG cf15 hE J6 (ι:=Unit) (enc:=fun(x:K0)=>[(Fp x)]) (fun(s33:Bool×K8) F H=>B6 Eq F (.blk m20 b29::cb b19 [.bool s33.1]::cb b18 (Z3 s33.2):: .tl t13:: .blk m15 (.obj q14)::cb b6 [vi s12.2.2]:: .blk m3 (.obj o4)::Ht ds26) H) (fun(r:Unit) e F H=>False) (fun i s33 y32=>[(9,.v (.eref [.func (.func 35) [] [.eref [.map m3] 0,.ref b6 0]] 0)),(12,.v (.ref b18 0)),(13,.v (.ref b19 0)),(15,.v (.eref (WB y32) 0))]) (fun i s33 y32 F H=>B6 Eq F (.blk m20 b29::cb b19 [.bool s33.1]::cb b18 (Z3 s33.2):: .tl t13:: .blk m15 (.obj q14)::cb b6 [vi s12.2.2]:: .blk m3 (.obj o4)::Ht ds26) H) (fun _=>B6.stable E0 _) (fun _ _=>⟨fun h=>h.elim,fun _ _ h=>h.elim⟩) (fun _ _ _=>B6.stable E0 _) hv31 hx (hO) (by decide) (fun _=>rfl) (by kernel_rfl) (by kernel_rfl) ?_ ?_ ?_ ?_
    ·rintro E i35 y32 s33 F34 H hE hO;clear hx h;cbv;exact⟨(),hO,.e4 .z,rfl⟩
    ·rintro E i35 _ y32 s33 F34 H o hE hF h hO
     repeat' (cbv;first|refine B7 hE h (fun _ h=>?_) (fun _ h=>?_)|refine A9 hE h (c36 _ _) .z fun _ h=>?_|refine Ya hE (F0:=[]) (C0:=[.eref [.map m3] 0,.ref b6 0]) (args':=[(Fp y32)]) (g:=fun r38=>.bool r38) h (fun r38 hx=>c35 N y32 l2 s12.2.2 r38 hx m3 o4 ho4 b6) .z (AG9 (neC (hO.ne 6 5 rfl rfl (by decide)) (ne0)) (AH0 _)) (atC (hO.get 6 rfl) (atC (hO.get 5 rfl) (at0))) fun r38 h=>?_|refine A9 hE h (c37 _ _ _) .z fun _ h=>?_|apply D0 hE hO 1 rfl|apply D0 hE hO 2 rfl|refine B9 hE hO 2 rfl rfl fun H hO=>?_|refine B9 hE hO 1 rfl rfl fun H hO=>?_|(cases h;exact⟨_,rfl,hO⟩))
    ·rintro d40 s42 H rfl hd hO;have hO:B6 Eq H0 (.blk m20 b29::cb b19 [.bool s42.1]::cb b18 (Z3 s42.2):: .tl t13:: .blk m15 (.obj q14)::cb b6 [vi s12.2.2]:: .blk m3 (.obj o4)::Ht (d40::ds26)) H:=B6.dbs1 (A:=[_,_,_,_,_,_,_]) (ds:=ds26) (B6.dblk hd hO);clear hd;cbv;cases h;exact⟨p24,l28,_,(),b29,_,hpp24,h0p24,.e rfl (.b rfl (.e rfl (.e rfl (.e rfl (.e rfl (.e rfl (.e rfl (.e rfl (.e rfl (.e rfl (.z))))))))))),rfl,hb29.1,hO⟩
    rintro d r e H rfl hd hO;exact hO.elim
   ·exact .e rfl (.b rfl (.e rfl (.e rfl (.e rfl (.e rfl (.e rfl (.e rfl (.e rfl (.e rfl (.e rfl (.z)))))))))))
   ·exact hO
   clear hx;rintro e l ds26 H ⟨rfl,rfl,hO⟩;cbv;refine SM hE (.int .i64) (V.int .i64) V.bool hO fun m43 o44 H ho44 hO=>?_;cbv;refine Ai2 hE (kt:=3) (et:=4) (by kernel_rfl) hO (hO.get 4 rfl) hq14 fun m45 b46 H hb46 hO=>?_;cbv;obtain⟨s53,hx,h⟩:=A7 h;refine Rv cf15 hE J6 (γ:=Obj) (fun s48 g=>[(1,.v (.eref (H6 aC) 0)),(2,.b false),(3,.v (.sl [] .nil)),fi 4 0,(7,.v (.ref b6 0)),(9,.v (.eref [.func (.func 35) [] [.eref [.map m3] 0,.ref b6 0]] 0)),(10,.v (.sl (lst eBh9 s12.1) t13)),(11,.v (.map m15)),(12,.v (.ref b18 0)),(18,.v (.eref [.map m43] 0)),(77,.v (.ref m45 0))]) (fun s48 g ds52 b50 H1=>Jz (.int .i64) (V.int .i64) V.bool g s48∧B6 Eq H0 (.blk m45 b50:: .blk m43 (.obj g)::cb b19 [.bool s27.1]::cb b18 (Z3 s27.2):: .tl t13:: .blk m15 (.obj q14)::cb b6 [vi s12.2.2]:: .blk m3 (.obj o4)::Ht ds52) H1) (fun x e l ds52 H1=>∃u1:Obj,Jz (.int .i64) (V.int .i64) V.bool u1 x∧e= .exit 6∧l=[(1,.v (.eref (H6 aC) 0)),(2,.b false),(3,.v (.sl [] .nil)),fi 4 0,(7,.v (.ref b6 0)),(9,.v (.eref [.func (.func 35) [] [.eref [.map m3] 0,.ref b6 0]] 0)),(10,.v (.sl (lst eBh9 s12.1) t13)),(12,.v (.ref b18 0)),(18,.v (.eref [.map m43] 0))]∧B6 Eq H0 (.blk m43 (.obj u1)::cb b19 [.bool s27.1]::cb b18 (Z3 s27.2):: .tl t13:: .blk m15 (.obj q14)::cb b6 [vi s12.2.2]:: .blk m3 (.obj o4)::Ht ds52) H1) (by kernel_rfl) ?_ o44 hx ?_ hb46 ?_ ?_
   ·rintro s48 q51 ds52 lf48 b50 H hb50 ⟨hq51,hO⟩ hs48;cbv;refine Ai3 hE hO hb50 0 rfl (hO.get 5 rfl) (fun hl=>?_) fun p49 l54 b55 H hpp49 hb55 hO=>?_
    ·cbv;refine QP hE (fun hc=>by cases hc) (fun hc=>?_);cbv;exact⟨_,_,_,.inl ⟨hl,rfl⟩,⟨q51,hq51.srt,rfl,rfl,hO.tail⟩,.e rfl (.b rfl (.e rfl (.e rfl (.e rfl (.e rfl (.e rfl (.e rfl (.e rfl (.z))))))))),rfl⟩
    obtain⟨o,h⟩:=hs48 p49 l54 hpp49;have h0p49:=h;cbv;refine QP hE (fun hc=>?_) (fun hc=>by cases hc);cbv;refine Ai4 hE hO hb55 0 rfl (hO.get 5 rfl) ?_;cbv;refine Ap hE h (c32 N aC p49.1) .z fun r56 v57 hv57 h=>?_;cbv;obtain⟨o63,hx,h⟩:=A7 h;refine DG cf15 hE J6 (ι:=Unit) (enc:=fun(x:K0)=>[(Fp x)]) (fun(s59:(List (Int×Bool))) F H=>∃g:Obj,(Jz (.int .i64) (V.int .i64) V.bool g s59)∧B6 Eq F (.blk m45 b55:: .blk m43 (.obj g)::cb b19 [.bool s27.1]::cb b18 (Z3 s27.2):: .tl t13:: .blk m15 (.obj q14)::cb b6 [vi s12.2.2]:: .blk m3 (.obj o4)::Ht ds52) H) (fun(r:Unit) e F H=>False) (fun i s59 y58=>[(9,.v (.eref [.func (.func 35) [] [.eref [.map m3] 0,.ref b6 0]] 0)),(12,.v (.ref b18 0)),(18,.v (.eref [.map m43] 0)),(20,.v (.eref (WB y58) 0))]) (fun i s59 y58 F H=>∃g:Obj,(Jz (.int .i64) (V.int .i64) V.bool g s59)∧B6 Eq F (.blk m45 b55:: .blk m43 (.obj g)::cb b19 [.bool s27.1]::cb b18 (Z3 s27.2):: .tl t13:: .blk m15 (.obj q14)::cb b6 [vi s12.2.2]:: .blk m3 (.obj o4)::Ht ds52) H) (fun _=>G5.ex fun _=>B6.stable E0 _) (fun _ _=>⟨fun h=>h.elim,fun _ _ h=>h.elim⟩) (fun _ _ _=>G5.ex fun _=>B6.stable E0 _) hv57 hx (⟨q51,hq51,hO⟩) (by decide) (fun _=>rfl) (by kernel_rfl) (by kernel_rfl) ?_ ?_ ?_ ?_
    ·rintro E i61 y58 s59 F60 H hE ⟨q62,hq62,hO⟩;clear hx h;cbv;exact⟨(),⟨q62,hq62,hO⟩,.e4 .z,rfl⟩
    ·rintro E i61 _ y58 s59 F60 H o hE hF h ⟨q62,hq62,hO⟩
     repeat' (cbv;first|refine B7 hE h (fun _ h=>?_) (fun _ h=>?_)|refine Ya hE (F0:=[]) (C0:=[.eref [.map m3] 0,.ref b6 0]) (args':=[(Fp y58)]) (g:=fun r64=>.bool r64) h (fun r64 hx=>c35 N y58 l2 s12.2.2 r64 hx m3 o4 ho4 b6) .z (AG9 (neC (hO.ne 7 6 rfl rfl (by decide)) (ne0)) (AH0 _)) (atC (hO.get 7 rfl) (atC (hO.get 6 rfl) (at0))) fun r64 h=>?_|refine A9 hE h (c33 _ _ _) .z fun _ h=>?_|apply D0 hE hO 3 rfl|(cases h;exact⟨_,rfl,⟨o66,ho66,hO⟩⟩)|(cases h;exact⟨_,rfl,⟨q62,hq62,hO⟩⟩)|refine Mq hE (kt:=3) (et:=4) (by kernel_rfl) (by kernel_rfl) (CY .i64) Hp hO hq62 1 rfl h fun _ o66 H ho66 h hO=>?_)
    ·rintro d68 s71 H rfl hd ⟨q72,hq72,hO⟩;have hO:B6 Eq H0 (.blk m45 b55:: .blk m43 (.obj q72)::cb b19 [.bool s27.1]::cb b18 (Z3 s27.2):: .tl t13:: .blk m15 (.obj q14)::cb b6 [vi s12.2.2]:: .blk m3 (.obj o4)::Ht (d68::ds52)) H:=B6.dbs1 (A:=[_,_,_,_,_,_,_,_]) (ds:=ds52) (B6.dblk hd hO);clear hd;cbv;cases h;exact⟨p49,l54,_,q72,b55,_,hpp49,h0p49,.e rfl (.b rfl (.e rfl (.e rfl (.e rfl (.e rfl (.e rfl (.e rfl (.e rfl (.e rfl (.e rfl (.z))))))))))),rfl,hb55.1,hq72,hO⟩
    rintro d r e H rfl hd hO;exact hO.elim
   ·exact .e rfl (.b rfl (.e rfl (.e rfl (.e rfl (.e rfl (.e rfl (.e rfl (.e rfl (.e rfl (.e rfl (.z)))))))))))
   ·exact⟨ho44,hO⟩
   clear hx;rintro e l ds52 H ⟨q73,hq73,rfl,rfl,hO⟩;cbv;obtain⟨s74,hx,h⟩:=A7 h;refine L5 cf15 hE J6 (fun e l H1=>∃u1:E7,K6 u1∧e= .normal∧l=[(1,.v (.eref (H6 aC) 0)),(2,.b false),(3,.v (.sl [] .nil)),fi 4 0,(7,.v (.ref b6 0)),(9,.v (.eref [.func (.func 35) [] [.eref [.map m3] 0,.ref b6 0]] 0)),(10,.v (.sl (lst eBh9 s74) u1)),(11,.v (.map m43))]∧B6 Eq H0 (.blk m43 (.obj q73)::cb b19 [.bool s27.1]::cb b18 (Z3 s27.2):: .tl u1:: .blk m15 (.obj q14)::cb b6 [vi s12.2.2]:: .blk m3 (.obj o4)::Ht ds52) H1) (by kernel_rfl) ?_ ?_
   ·clear h;have h:=hx;cbv;obtain⟨l196,el196,h⟩:=A7 h;apply D0 hE hO 2 rfl;cbv;refine N1 (f:=eBh9) hE RT (by decide) hO 3 rfl ht13 (l:=s12.1) (m:=[s27.2]) .z (.lstc (.eq (eBj5 s27.2) .z) (.lst0)) (Le el196) fun l196 t195 H hO ht195 hh=>?_;obtain rfl:=O8 hh;cbv;cases h;exact⟨_,⟨t195,ht195,rfl,rfl,hO⟩,.e rfl (.b rfl (.e rfl (.e rfl (.e rfl (.e rfl (.e rfl (.e rfl (.z)))))))),rfl⟩
   clear hx;rintro e l H ⟨t395,ht395,rfl,rfl,hO⟩;cbv;apply D0 hE hO 5 rfl;cbv;refine B9 hE hO 5 rfl rfl fun H hO=>?_;cbv;have hO:B6 Eq H0 (.blk m15 (.obj q14)::cb b19 [.bool s27.1]::cb b18 (Z3 s27.2):: .tl t395:: .blk m43 (.obj q73)::cb b6 [vi (ar .sub .i64 s12.2.2 1)]:: .blk m3 (.obj o4)::Ht ds52) H:=hO.swp 0 4 rfl rfl;cases h;exact⟨_,⟨t395,q73,m43⟩,_,rfl,.e rfl (.b rfl (.e rfl (.e rfl (.e rfl (.e rfl (.e rfl (.e rfl (.z)))))))),rfl,ht395,hq73,trivial,hO.tail.tail.tail⟩
  cbv;cases h;exact⟨_,_,_,rfl,⟨t13,ht13,q14,hq14,m15,trivial,rfl,rfl,hO⟩,.e rfl .z,rfl⟩
 ·exact .e rfl (.b rfl (.e rfl (.e rfl (.e rfl (.e rfl (.v (.slt _ (.lst0)) (.e rfl (.z))))))))
 ·exact⟨trivial,ho9,trivial,hO⟩
 clear hx;rintro e l ds16 H ⟨t396,ht396,q397,hq397,m398,hm398,rfl,rfl,hO⟩;cbv
 rcases ds16 with _|⟨d0,ds16⟩
 ·cbv;have hO:B6 _ _ [.tl t396,.blk m398 (.obj q397),cb b6 [vi s17.2.2],.blk m3 (.obj o4)] H:=hO;cases h;exact hK hO (.tup (.r (.cons (.ro _ _) .z)))
 cbv;refine Qa (A:=[_,_,_,_]) (ds:=d0::ds16) hE hO fun H hO=>?_;cbv;cases h;exact hK hO (.tup (.r (.cons (.ro _ _) .z)))
def cf67:=cfA [7]
def c67 (N aC r)(h:Bu N aC=some r):PB prog 67 [sr eBg7 aC] 2 (lst eBg7 r):=by
 intro H0;refine Dr (T:=TT) cf67 J6 func67 (by rfl) (by kernel_rfl) call67 ntmps67 (by rfl) (by rfl) ?_;intro E K hE hK hN;have hO:B6 Eq H0 [] H0:=.start E0 rfl;cbv;refine AB6 hE rfl (fun hx=>?_) ?_
 ·cbv;exact hN (Zg hx h) [] H0 hO
 cbv;refine Ai0 (f:=eBg7) hE G8 (by decide) hO (.inr rfl) (m:=aC) (Ct (f:=eBg7) hE G8 .z) h fun l q H hq hO h=>?_;cbv;cases h;exact hK q _ _ (AN hE hq) hO
def cf38:Cf:=⟨[2],[],[],[],[(22,21),(24,3)],[]⟩
def c38 (N aA r) (h:GF N aA=some r):C3 prog 38 [(J8 aA)] ((J8 r)):=by
 refine N2 cf38 func38 call38 ntmps38 ?_;intro E H0 K hE hK hO
 repeat' (cbv;first|apply G9 hE|refine E5 hE hO fun b1 H hO=>?_|refine SL hE (f:=eBh3) (by decide) (z0:=([]:List A3)) ((.eq (eBh5 _) (.lit _ (B5)))) hO h fun _ q2 H hq2 h hO=>?_)
 cbv;obtain⟨s6,hx,h⟩:=A7 h;refine J9 cf38 hE J6 (γ:=OG) (fun s4 g=>[(2,.v (.ref b1 0)),(3,.v (.own g.id g.lo g.n)),(11,.v (sr eBh3 aA.cX)),fi 12 (Ar.len aA.cX),fi 13 s4.1]) (fun s4 g H1=>Bz g (Ar.len s4.2)∧B6 Eq H0 [ob g 1 eBh3 s4.2,cb b1 [.sl [] .nil]] H1) (fun x e l H1=>∃u1:OG,Bz u1 (Ar.len x)∧e= .exit 0∧l=[(2,.v (.ref b1 0)),(3,.v (.own u1.id u1.lo u1.n))]∧B6 Eq H0 [ob u1 1 eBh3 x,cb b1 [.sl [] .nil]] H1) (by kernel_rfl) ?_ q2 hx ?_ ?_ ?_
 ·rintro s4 q5 H o ⟨hq5,hO⟩ h
  repeat' (cbv;first|apply B7 hE h<;>intro _ h|refine Hh hE (f:=eBg7) h (c67 N x7) .z hO fun l8 _ H hq9 hO h=>?_|refine D8 hE eBh5 h fun x7 h=>?_|(cases h;exact⟨_,q5,rfl,.e rfl (.e4 .z),rfl,hq5,hO⟩)|(cases h;exact⟨_,_,rfl,⟨q5,hq5,rfl,rfl,hO⟩,.e2 .z,rfl⟩)|refine NR hE hO hq9 0 rfl fun H hO=>?_|refine BF hE hO hq5 0 rfl h fun h=>?_|(refine BE hE (f:=eBh3) (esz:=1) (tz:=1) (off:=0) (u:=(fun x10:List A3=>l8)) (fun _=>⟨_,.eq (eBh5 _) .z,(by rw[eBh5];rfl),FN _,rfl⟩) (by decide) hO hq5 0 rfl h fun _ H hq5 h hO=>?_))
 ·exact .e rfl (.e4 .z)
 ·exact⟨hq2,hO⟩
 clear hx;rintro e l H ⟨q12,hq12,rfl,rfl,hO⟩;cbv;refine NR hE hO hq12 0 rfl fun H hO=>?_;cbv;refine B9 hE hO 0 rfl rfl fun H hO=>?_;cbv;apply D0 hE hO 0 rfl;cbv;cases h;exact hK hO .z
def cf39:=cfA [2]
def c39 (N aC r)(h:JE N aC=some r):C3 prog 39 [(X0 aC)] (.tup [(X0 r.1),vi r.2]):=by
 refine N2 cf39 func39 call39 ntmps39 ?_;intro E H0 K hE hK hO
 repeat' (cbv;first|apply B7 hE h<;>intro _ h|apply G9 hE|apply D0 hE hO 0 rfl|refine B9 hE hO 0 rfl rfl fun H hO=>?_|refine E5 hE hO fun _ H hO=>?_|(cases h;done)|(cases h;exact hK hO .z))
def cf16:Cf:=⟨[2,5],[(10,10),(15,13),(3000004,0),(3000004,1),(3000004,2),(3000004,3),(3000004,4),(3000004,5),(3000004,7),(3000005,0),(3000005,1),(3000005,2),(3000005,3),(3000005,4),(3000005,5),(3000005,7)],[],[2000004,2000005],[(83,2000005)],[]⟩
set_option maxHeartbeats 2000000 in
def c16 (N aC r) (h:JF N aC=some r):C3 prog 16 [(X0 aC)] (.tup [(X0 r.1),vi r.2]):=by
 refine N2 cf16 func16 call16 ntmps16 ?_;intro E H0 K hE hK hO;cbv;refine E5 hE hO fun b1 H hO=>?_;cbv;refine A9 hE h (c29 N aC) .z fun r2 h=>?_;cbv;apply B7 hE h<;>intro _ h
 ·cbv;cases h
 cbv;obtain⟨s3,hx,h⟩:=A7 h;refine L5 cf16 hE J6 (fun e l H1=>∃u1:Nat,True∧∃u2:OG,Bz u2 (Ar.len s3)∧e= .normal∧l=[(1,.v (.eref (H6 aC) 0)),(2,.v (.ref b1 0)),(5,.v (.ref u1 0))]∧B6 Eq H0 [cb u1 [vi aC.dJ,.own u2.id u2.lo u2.n,.sl [] .nil],ob u2 1 V.bool s3,cb b1 [vi 0,.sl [] .nil,.sl [] .nil]] H1) (by kernel_rfl) ?_ ?_
 ·clear h;have h:=hx;cbv;obtain⟨l245,el245,h⟩:=A7 h;apply G9 hE;cbv
  repeat' first|refine And.intro ?_ ?_|(refine SL hE (f:=V.bool) (by decide) (z0:=(false:Bool)) (.z) hO (Le el245) fun l245 q244 H hq244 hh hO=>?_;obtain rfl:=O8 hh;cbv)|(refine E5 hE hO fun b324 H hO=>?_;cbv)|(refine B9 hE hO 0 rfl rfl fun H hO=>?_;cbv)|(have h:=O8 h;subst h;exact⟨_,⟨b324,trivial,q244,hq244,rfl,rfl,hO⟩,.e rfl (.e2 .z),rfl⟩)|(refine B9 hE hO 1 rfl rfl fun H hO=>?_;cbv)|(have hO:B6 Eq H0 [cb b324 [vi aC.dJ,.own q244.id q244.lo q244.n,.sl [] .nil],ob q244 1 V.bool l245,cb b1 [vi 0,.sl [] .nil,.sl [] .nil]] H:=hO.swp 1 0 rfl rfl;have h:=O8 h;subst h;exact⟨_,⟨b324,trivial,q244,hq244,rfl,rfl,hO⟩,.e rfl (.e2 .z),rfl⟩)
 clear hx;rintro e l H ⟨b444,hb444,q445,hq445,rfl,rfl,hO⟩;cbv;obtain⟨s446,hx,h⟩:=A7 h;refine L5 cf16 hE J6 (fun e l H1=>∃u1:OG,Bz u1 (Ar.len s446)∧e= .normal∧l=[(1,.v (.eref (H6 aC) 0)),(2,.v (.ref b1 0)),(5,.v (.ref b444 0))]∧B6 Eq H0 [cb b444 [vi aC.dJ,.own u1.id u1.lo u1.n,.sl [] .nil],ob u1 1 V.bool s446,cb b1 [vi 0,.sl [] .nil,.sl [] .nil]] H1) (by kernel_rfl) ?_ ?_
 ·clear h;have h:=hx;cbv;obtain⟨x687,ex687,h⟩:=A7 h;obtain⟨u766_0,eu766_0,h⟩:=A7 h;obtain⟨l808,el808,h⟩:=A7 h;obtain⟨u846_0,eu846_0,h⟩:=A7 h;obtain⟨l888,el888,h⟩:=A7 h
  repeat' first|refine And.intro ?_ ?_|(refine D0 hE hO 0 rfl ?_;cbv)|(refine D8 hE (fun _=>rfl) (Le ex687) fun x687 hh=>?_;obtain rfl:=O8 hh;cbv)|(refine BF hE hO hq445 1 rfl (Le eu766_0) fun hh=>?_;clear hh;cbv)|(refine BE hE (f:=V.bool) (esz:=1) (tz:=1) (off:=0) (u:=(fun x807:Bool=>x687)) (fun _=>⟨.bool x687,.refl _,rfl,rfl,rfl⟩) (by decide) hO hq445 1 rfl (Le el808) fun l808 H hq445 hh hO=>?_;obtain rfl:=O8 hh;cbv)|(refine BF hE hO hq445 1 rfl (Le eu846_0) fun hh=>?_;clear hh;cbv)|(refine BE hE (f:=V.bool) (esz:=1) (tz:=1) (off:=0) (u:=(fun x887:Bool=>true)) (fun _=>⟨.bool true,.refl _,rfl,rfl,rfl⟩) (by decide) hO hq445 1 rfl (Le el888) fun l888 H hq445 hh hO=>?_;obtain rfl:=O8 hh;cbv)|(have h:=O8 h;subst h;exact⟨_,⟨q445,hq445,rfl,rfl,hO⟩,.e rfl (.e2 .z),rfl⟩)
 clear hx;rintro e l H ⟨q967,hq967,rfl,rfl,hO⟩;cbv;apply G9 hE;cbv;replace hO:=hO.cast (L':=[cb b444 [vi aC.dJ,.own q967.id q967.lo q967.n,.sl (lst eBh7 ([])) .nil],ob q967 1 V.bool s446,cb b1 [vi 0,.sl [] .nil,.sl [] .nil]]) (by simp only[ob,cb,sr,←B5]<;>rfl);replace hO:=hO.tl0 (t:=.nil) rfl;obtain⟨s970,hx,h⟩:=A7 h;refine J9 cf16 hE J6 (γ:=E7) (fun s968 g=>[(1,.v (.eref (H6 aC) 0)),(2,.v (.ref b1 0)),(5,.v (.ref b444 0)),(35,.v (sr eBh7 aC.dA)),fi 36 (Ar.len aC.dA),fi 37 s968.1]) (fun s968 g H1=>K6 g∧B6 Eq H0 [.tl g,cb b444 [vi s968.2.dJ,.own q967.id q967.lo q967.n,.sl (lst eBh7 s968.2.dA) g],ob q967 1 V.bool s446,cb b1 [vi 0,.sl [] .nil,.sl [] .nil]] H1) (fun x e l H1=>∃u1:E7,K6 u1∧e= .exit 0∧l=[(1,.v (.eref (H6 aC) 0)),(2,.v (.ref b1 0)),(5,.v (.ref b444 0))]∧B6 Eq H0 [.tl u1,cb b444 [vi x.dJ,.own q967.id q967.lo q967.n,.sl (lst eBh7 x.dA) u1],ob q967 1 V.bool s446,cb b1 [vi 0,.sl [] .nil,.sl [] .nil]] H1) (by kernel_rfl) ?_ .nil hx ?_ ?_ ?_
 ·rintro s968 t969 H o ⟨ht969,hO⟩ h
  repeat' (cbv;first|apply B7 hE h<;>intro _ h|refine D8 hE eBi2 h fun x971 h=>?_|refine D8 hE (fun _=>rfl) h fun _ h=>?_|apply D0 hE hO 1 rfl|refine B9 hE hO 1 rfl rfl fun H hO=>?_|refine K7 hE (g:=fun r973=>(J8 r973)) h (c38 _ _) .z fun r973 h=>?_|(cases h;exact⟨_,t974,rfl,.e2 (.e4 .z),rfl,ht974,hO⟩)|(cases h;exact⟨_,t969,rfl,.e2 (.e4 .z),rfl,ht969,hO⟩)|(cases h;exact⟨_,_,rfl,⟨t969,ht969,rfl,rfl,hO⟩,.e rfl (.e2 .z),rfl⟩)|refine N1 (f:=eBh7) hE OA (by decide) hO 0 rfl ht969 (l:=s968.2.dA) (m:=[(⟨0,ar .add .i64 x971.dE 1,r973⟩:K0)]) .z (.lstc (.eq (eBi2 (⟨0,ar .add .i64 x971.dE 1,r973⟩:K0)) .z) (.lst0)) h fun _ t974 H hO ht974 h=>?_)
 ·exact .e2 (.e4 .z)
 ·exact⟨trivial,hO⟩
 clear hx;rintro e l H ⟨t976,ht976,rfl,rfl,hO⟩;cbv;apply G9 hE;cbv;obtain⟨s979,hx,h⟩:=A7 h;refine J9 cf16 hE J6 (γ:=E7) (fun s977 g=>[(2,.v (.ref b1 0)),(5,.v (.ref b444 0)),(61,.v (sr eBh7 aC.dA)),fi 62 (Ar.len aC.dA),fi 63 s977.1]) (fun s977 g H1=>K6 g∧B6 Eq H0 [.tl g,cb b444 [vi s977.2.dJ,.own q967.id q967.lo q967.n,.sl (lst eBh7 s977.2.dA) g],ob q967 1 V.bool s446,cb b1 [vi 0,.sl [] .nil,.sl [] .nil]] H1) (fun x e l H1=>∃u1:E7,K6 u1∧e= .exit 2∧l=[(2,.v (.ref b1 0)),(5,.v (.ref b444 0))]∧B6 Eq H0 [.tl u1,cb b444 [vi x.dJ,.own q967.id q967.lo q967.n,.sl (lst eBh7 x.dA) u1],ob q967 1 V.bool s446,cb b1 [vi 0,.sl [] .nil,.sl [] .nil]] H1) (by kernel_rfl) ?_ t976 hx ?_ ?_ ?_
 ·rintro s977 t978 H o ⟨ht978,hO⟩ h
  repeat' (cbv;first|apply B7 hE h<;>intro _ h|refine D8 hE eBi2 h fun x980 h=>?_|apply D0 hE hO 1 rfl|refine B9 hE hO 1 rfl rfl fun H hO=>?_|refine K7 hE (g:=fun r981=>(J8 r981)) h (c38 _ _) .z fun r981 h=>?_|(cases h;exact⟨_,t982,rfl,.e rfl (.e4 .z),rfl,ht982,hO⟩)|(cases h;exact⟨_,_,rfl,⟨t978,ht978,rfl,rfl,hO⟩,.e2 .z,rfl⟩)|refine N1 (f:=eBh7) hE OA (by decide) hO 0 rfl ht978 (l:=s977.2.dA) (m:=[(⟨ar .add .i64 x980.To 1,ar .add .i64 x980.dE 1,r981⟩:K0)]) .z (.lstc (.eq (eBi2 (⟨ar .add .i64 x980.To 1,ar .add .i64 x980.dE 1,r981⟩:K0)) .z) (.lst0)) h fun _ t982 H hO ht982 h=>?_)
 ·exact .e rfl (.e4 .z)
 ·exact⟨ht976,hO⟩
 clear hx;rintro e l H ⟨t984,ht984,rfl,rfl,hO⟩
 repeat' (cbv;first|refine A9 hE h (c39 _ _) (.cons (.agg (.r (.r (.cons (.ro _ _) .z)))) .z) fun _ h=>?_|apply D0 hE hO 1 rfl|apply D0 hE hO 2 rfl|refine B9 hE hO 2 rfl rfl fun H hO=>?_|(cases h;exact hK hO .z)|refine Rx hE hO hq967 1 2 rfl rfl rfl (by decide) fun H hO=>?_)
def cf18:=cfA [2]
def c18 (N aE r)(h:Sq N aE=some r):C3 prog 18 [.bool aE] ((MN r)):=by
 refine N2 cf18 func18 call18 ntmps18 ?_;intro E H0 K hE hK hO;cbv;refine E5 hE hO fun b1 H hO=>?_;cbv;apply B7 hE h<;>intro _ h
 ·cbv;refine B9 hE hO 0 rfl rfl fun H hO=>?_;cbv;apply D0 hE hO 0 rfl;cbv;cases h;exact hK hO .z
 cbv;cases h
def cf17:=cfA [2]
def c17 (N aN r)(h:Jt N aN=some r):C3 prog 17 [vi aN] ((C9 r)):=by
 refine N2 cf17 func17 call17 ntmps17 ?_;intro E H0 K hE hK hO;cbv;refine E5 hE hO fun b1 H hO=>?_;cbv;refine A9 hE h (c18 N true) .z fun r2 h=>?_;cbv;refine B9 hE hO 0 rfl rfl fun H hO=>?_;cbv;apply D0 hE hO 0 rfl;cbv;cases h;exact hK hO (.agg (.r (.cons (.lit _ (B5)) (.r (.r (.r (.r (.r (.cons (.lit _ (B5)) .z)))))))))
def cf19:=cfB [] [(6,8)]
def c19 (N aD aE r) (h:KY N aD aE=some r):C3 prog 19 [sr eBh9 aD,sr eBh9 aE] (.bool r):=by
 refine N2 cf19 func19 call19 ntmps19 ?_;intro E H0 K hE hK hO
 repeat' (cbv;first|apply B7 hE h<;>intro _ h|apply G9 hE|(cases h;done))
 cbv;obtain⟨s2,hx,h⟩:=A7 h;refine H5 cf19 hE J6 (fun s1=>[(0,.v (sr eBh9 aD)),(1,.v (sr eBh9 aE)),fi 5 s1]) (fun s1 H1=>B6 Eq H0 [] H1) (fun x e l H1=>e= .exit 0∧l=[]∧B6 Eq H0 [] H1) (by kernel_rfl) ?_ hx ?_ hO ?_
 ·intro s1 H o hO h
  repeat' (cbv;first|apply B7 hE h<;>intro _ h|apply G9 hE|refine D8 hE eBj5 h fun _ h=>?_|(cases h;done)|(cases h;exact⟨_,rfl,.e rfl (.e2 .z),rfl,hO⟩)|(cases h;exact⟨_,_,rfl,⟨rfl,rfl,hO⟩,.z,rfl⟩))
 ·exact .e rfl (.e2 .z)
 clear hx;rintro e l H ⟨rfl,rfl,hO⟩;cbv;cases h;exact hK hO .z
def cf5:=cfB [] [(17,22)]
def c5 (N r) (h:Es N=some r):C3 prog 5 [] (.bool r):=by
 refine N2 cf5 func5 call5 ntmps5 ?_;intro E H0 K hE hK hO;cbv;refine A9 hE h (c12 N 1 5) .z fun r1 h=>?_;cbv;refine A9 hE h (c12 N 4 9) .z fun r2 h=>?_;cbv;refine A9 hE h (c13 N ([4])) (.cons (.lit _ (F2 (rfl) (B5))) .z) fun r3 h=>?_;cbv;refine A9 hE h (c13 N ([1,4])) (.cons (.lit _ (F2 (rfl) (F2 (rfl) (B5)))) .z) fun r4 h=>?_;cbv;refine A9 hE h (c13 N ([1])) (.cons (.lit _ (F2 (rfl) (B5))) .z) fun r5 h=>?_;cbv;refine Be5 hE (n:=3) rfl ?_;cbv;obtain⟨s7,hx,h⟩:=A7 h;refine H5 cf5 hE J6 (fun s6=>[(1,.v (.eref [vi 1,.sl [.bool false,.bool true] .full,.sl [.agg [vi 0,vi 0,sr eBh3 r1.cX],.agg [vi 0,vi 1,sr eBh3 r2.cX]] .full] 0)),(29,.v (sr eBk6 ([r3,r4,r5]))),fi 30 3,fi 31 s6]) (fun s6 H1=>B6 Eq H0 [] H1) (fun x e l H1=>e= .exit 0∧l=[(1,.v (.eref [vi 1,.sl [.bool false,.bool true] .full,.sl [.agg [vi 0,vi 0,sr eBh3 r1.cX],.agg [vi 0,vi 1,sr eBh3 r2.cX]] .full] 0))]∧B6 Eq H0 [] H1) (by kernel_rfl) ?_ hx ?_ hO ?_
 ·intro s6 H o hO h;cbv;apply B7 hE h<;>intro _ h
  ·cbv;refine D8 hE eBj9 h fun x8 h=>?_;cbv;refine A9 hE h (c14 N (⟨1,[false,true],[(⟨0,0,r1⟩:K0),(⟨0,1,r2⟩:K0)]⟩:D7) x8) (.cons (.agg (.r (.cons (.lit _ (F2 (rfl) (F2 (rfl) (B5)))) (.cons (.lit _ (F2 ((eBi2 (⟨0,0,r1⟩:K0)).symm) (F2 ((eBi2 (⟨0,1,r2⟩:K0)).symm) (B5)))) .z)))) .z) fun r9 h=>?_;cbv;apply B7 hE h<;>intro _ h
   ·cbv;cases h
   cbv;cases h;exact⟨_,rfl,.e4 .z,rfl,hO⟩
  cbv;cases h;exact⟨_,_,rfl,⟨rfl,rfl,hO⟩,.e rfl .z,rfl⟩
 ·exact .e rfl (.v (.lit _ (F2 ((eBj9 r3).symm) (F2 ((eBj9 r4).symm) (F2 ((eBj9 r5).symm) (B5))))) (.e rfl (.e rfl (.z))))
 clear hx;rintro e l H ⟨rfl,rfl,hO⟩;cbv;refine A9 hE h (c15 N (⟨1,[false,true],[(⟨0,0,r1⟩:K0),(⟨0,1,r2⟩:K0)]⟩:D7)) (.cons (.agg (.r (.cons (.lit _ (F2 (rfl) (F2 (rfl) (B5)))) (.cons (.lit _ (F2 ((eBi2 (⟨0,0,r1⟩:K0)).symm) (F2 ((eBi2 (⟨0,1,r2⟩:K0)).symm) (B5)))) .z)))) .z) fun r10 h=>?_;cbv;refine A9 hE h (c16 N (⟨1,[false,true],[(⟨0,0,r1⟩:K0),(⟨0,1,r2⟩:K0)]⟩:D7)) (.cons (.agg (.r (.cons (.lit _ (F2 (rfl) (F2 (rfl) (B5)))) (.cons (.lit _ (F2 ((eBi2 (⟨0,0,r1⟩:K0)).symm) (F2 ((eBi2 (⟨0,1,r2⟩:K0)).symm) (B5)))) .z)))) .z) fun r11 h=>?_;cbv;refine A9 hE h (c17 N 0) .z fun r12 h=>?_;cbv;refine A9 hE h (c17 N 1) .z fun r13 h=>?_;cbv;refine A9 hE h (c6 N ([(⟨(⟨#[97]⟩:ByteArray),[]⟩:F6)]) (⟨1,[r12,(⟨4,[r13],0,0,0,0,(⟨0,[],0,0,0,(⟨0,0,⟨#[]⟩⟩:I9)⟩:B1)⟩:A0)],0,0,0,0,(⟨0,[],0,0,0,(⟨0,0,⟨#[]⟩⟩:I9)⟩:B1)⟩:A0)) (.cons (.sl _ (.lstc (.eq (eBi7 (⟨(⟨#[97]⟩:ByteArray),[]⟩:F6)) (.agg (.r (.cons (.lit _ (B5)) .z)))) (.lst0))) (.cons (.agg (.r (.cons (.sl _ (.lstc (.eq (eBh0 r12) .z) (.lstc (.eq (eBh0 (⟨4,[r13],0,0,0,0,(⟨0,[],0,0,0,(⟨0,0,⟨#[]⟩⟩:I9)⟩:B1)⟩:A0)) (.agg (.r (.cons (.lit _ (F2 ((eBh0 r13).symm) (B5))) (.r (.r (.r (.r (.r (.cons (.lit _ (B5)) .z)))))))))) (.lst0)))) (.r (.r (.r (.r (.r (.cons (.lit _ (B5)) .z))))))))) .z)) fun r14 h=>?_;cbv;refine A9 hE h (c12 N (-1099511627776) 1099511627776) .z fun r15 h=>?_;cbv;apply B7 hE h<;>intro _ h
 ·cbv;cases h
 cbv;refine A9 hE h (c13 N ([4])) (.cons (.lit _ (F2 (rfl) (B5))) .z) fun r16 h=>?_;cbv;refine A9 hE h (c19 N r10.2.1 r16) .z fun r17 h=>?_;cbv;apply B7 hE h<;>intro _ h
 ·cbv;cases h
 cbv;refine K7 hE (g:=fun r18=>(J8 r18)) h (c12 N 4 9) .z fun r18 h=>?_;cbv;refine K7 hE (g:=fun r19=>(J8 r19)) h (c12 N 1 5) .z fun r19 h=>?_;cbv;refine K7 hE (g:=fun r20=>(J8 r20)) h (c12 N 4 9) .z fun r20 h=>?_;cbv;refine K7 hE (g:=fun r21=>.bool r21) h (c8 N r11.1 (⟨1,[false,true,false],[(⟨0,1,r18⟩:K0),(⟨1,1,r19⟩:K0),(⟨2,1,r20⟩:K0)]⟩:D7)) (.r (.cons (.agg (.r (.cons (.lit _ (F2 (rfl) (F2 (rfl) (F2 (rfl) (B5))))) (.cons (.lit _ (F2 ((eBi2 (⟨0,1,r18⟩:K0)).symm) (F2 ((eBi2 (⟨1,1,r19⟩:K0)).symm) (F2 ((eBi2 (⟨2,1,r20⟩:K0)).symm) (B5))))) .z)))) .z)) fun r21 h=>?_;cbv;apply B7 hE h<;>intro _ h
 ·cbv;refine A9 hE h (c8 N r14.1 (⟨1,[false,false,true],[(⟨0,1,r15⟩:K0),(⟨1,2,r15⟩:K0),(⟨1,1,r15⟩:K0)]⟩:D7)) (.r (.cons (.agg (.r (.cons (.lit _ (F2 (rfl) (F2 (rfl) (F2 (rfl) (B5))))) (.cons (.lit _ (F2 ((eBi2 (⟨0,1,r15⟩:K0)).symm) (F2 ((eBi2 (⟨1,2,r15⟩:K0)).symm) (F2 ((eBi2 (⟨1,1,r15⟩:K0)).symm) (B5))))) .z)))) .z)) fun r22 h=>?_;cbv;cases h;exact hK hO .z
 cbv;cases h;exact hK hO .z
def c128 (N aZ r)(h:EH N aZ=some r):C3 prog 128 [.int .u8 aZ] (.bool r):=by
 refine N2 A8 func128 call128 ntmps128 ?_;intro E H0 K hE hK hO;cbv;cases h;exact hK hO .z
def c86 (N aC r) (h:Fy N aC=some r):C3 prog 86 [.str aC] (.bool r):=by
 refine N2 A8 func86 call86 ntmps86 ?_;intro E H0 K hE hK hO
 repeat' (cbv;first|apply B7 hE h<;>intro _ h|refine A9 hE h (c128 _ _) .z fun _ h=>?_|(cases h;exact hK hO .z)|refine MX hE h fun h=>?_)
 cbv;obtain⟨s3,hx,h⟩:=A7 h;refine H5 A8 hE J6 (fun s2=>[(0,.v (.str aC)),fi 3 s2]) (fun s2 H1=>B6 Eq H0 [] H1) (fun x e l H1=>match(generalizing:=false) x with| .inl y=>e= .exit 0∧l=[]∧B6 Eq H0 [] H1| .inr y=>e= .ret∧l=[(2,.b false)]∧B6 Eq H0 [] H1) (by kernel_rfl) ?_ hx ?_ hO ?_
 ·intro s2 H o hO h
  repeat' (cbv;first|apply B7 hE h<;>intro _ h|refine A9 hE h (c128 _ _) .z fun _ h=>?_|(cases h;exact⟨_,_,rfl,⟨rfl,rfl,hO⟩,.b rfl (.z),rfl⟩)|(cases h;exact⟨_,rfl,.e2 .z,rfl,hO⟩)|(cases h;exact⟨_,_,rfl,⟨rfl,rfl,hO⟩,.z,rfl⟩)|refine MX hE h fun h=>?_)
 ·exact .e2 .z
 clear hx
 rcases s3 with y5|y6
 ·rintro e l H ⟨rfl,rfl,hO⟩;cbv;cases h;exact hK hO .z
 rintro e l H ⟨rfl,rfl,hO⟩;cbv;cases h;exact hK hO .z
def c87 (N aC aM r) (h:EI N aC aM=some r):C3 prog 87 [(LV aC),.str aM] (vi r):=by
 refine N2 A8 func87 call87 ntmps87 ?_;intro E H0 K hE hK hO;cbv;obtain⟨s2,hx,h⟩:=A7 h;refine H5 A8 hE J6 (fun s1=>[(1,.v (.str aM)),(2,.v (.eref (Pu aC) 0)),fi 5 s1]) (fun s1 H1=>B6 Eq H0 [] H1) (fun x e l H1=>match(generalizing:=false) x with| .inl y=>e= .exit 0∧l=[]∧B6 Eq H0 [] H1| .inr y=>e= .ret∧l=[fi 4 y]∧B6 Eq H0 [] H1) (by kernel_rfl) ?_ hx ?_ hO ?_
 ·intro s1 H o hO h
  repeat' (cbv;first|apply B7 hE h<;>intro _ h|apply G9 hE|refine D8 hE eBi9 h fun _ h=>?_|(cases h;exact⟨_,_,rfl,⟨rfl,rfl,hO⟩,.e rfl .z,rfl⟩)|(cases h;exact⟨_,rfl,.e rfl (.e2 .z),rfl,hO⟩)|(cases h;exact⟨_,_,rfl,⟨rfl,rfl,hO⟩,.z,rfl⟩))
 ·exact .e rfl (.e2 .z)
 clear hx
 rcases s2 with y4|y5
 ·rintro e l H ⟨rfl,rfl,hO⟩;cbv;cases h;exact hK hO .z
 rintro e l H ⟨rfl,rfl,hO⟩;cbv;cases h;exact hK hO .z
def c48 (N aC r) (h:IS N aC=some r):C3 prog 48 [(LV aC)] (vi r):=by
 refine N2 A8 func48 call48 ntmps48 ?_;intro E H0 K hE hK hO
 repeat' (cbv;first|apply B7 hE h<;>intro _ h|apply G9 hE|refine A9 hE h (c86 _ _) .z fun _ h=>?_|(cases h;exact hK hO .z))
 cbv;obtain⟨s3,hx,h⟩:=A7 h;refine H5 A8 hE J6 (fun s2=>[(1,.v (.eref (Pu aC) 0)),fi 3 s2]) (fun s2 H1=>B6 Eq H0 [] H1) (fun x e l H1=>match(generalizing:=false) x with| .inl y=>e= .exit 0∧l=[]∧B6 Eq H0 [] H1| .inr y=>e= .ret∧l=[fi 2 y]∧B6 Eq H0 [] H1) (by kernel_rfl) ?_ hx ?_ hO ?_
 ·intro s2 H o hO h
  repeat' (cbv;first|apply B7 hE h<;>intro _ h|apply G9 hE|refine A9 hE h (c86 _ _) .z fun _ h=>?_|refine A9 hE h (c87 _ _ _) .z fun _ h=>?_|refine D8 hE eBi9 h fun _ h=>?_|(cases h;exact⟨_,_,rfl,⟨rfl,rfl,hO⟩,.e rfl .z,rfl⟩)|(cases h;exact⟨_,rfl,.e2 .z,rfl,hO⟩)|(cases h;exact⟨_,_,rfl,⟨rfl,rfl,hO⟩,.z,rfl⟩))
 ·exact .e2 .z
 clear hx
 rcases s3 with y7|y8
 ·rintro e l H ⟨rfl,rfl,hO⟩;cbv;cases h;exact hK hO .z
 rintro e l H ⟨rfl,rfl,hO⟩;cbv;cases h;exact hK hO .z
def c49 (N aF cH r) (h:IR N aF cH=some r):C3 prog 49 [sr eBh4 aF,.str cH] (vi r):=by
 refine N2 A8 func49 call49 ntmps49 ?_;intro E H0 K hE hK hO;cbv;obtain⟨s2,hx,h⟩:=A7 h;refine H5 A8 hE J6 (fun s1=>[(0,.v (sr eBh4 aF)),(1,.v (.str cH)),fi 5 s1]) (fun s1 H1=>B6 Eq H0 [] H1) (fun x e l H1=>match(generalizing:=false) x with| .inl y=>e= .exit 0∧l=[]∧B6 Eq H0 [] H1| .inr y=>e= .ret∧l=[fi 4 y]∧B6 Eq H0 [] H1) (by kernel_rfl) ?_ hx ?_ hO ?_
 ·intro s1 H o hO h
  repeat' (cbv;first|apply B7 hE h<;>intro _ h|apply G9 hE|refine D8 hE eBi7 h fun _ h=>?_|(cases h;exact⟨_,_,rfl,⟨rfl,rfl,hO⟩,.e rfl .z,rfl⟩)|(cases h;exact⟨_,rfl,.e rfl (.e2 .z),rfl,hO⟩)|(cases h;exact⟨_,_,rfl,⟨rfl,rfl,hO⟩,.z,rfl⟩))
 ·exact .e rfl (.e2 .z)
 clear hx
 rcases s2 with y4|y5
 ·rintro e l H ⟨rfl,rfl,hO⟩;cbv;cases h;exact hK hO .z
 rintro e l H ⟨rfl,rfl,hO⟩;cbv;cases h;exact hK hO .z
def c24 (N aF r) (h:BD N aF=some r):C3 prog 24 [sr eBh4 aF] (vi r):=by
 refine N2 A8 func24 call24 ntmps24 ?_;intro E H0 K hE hK hO;cbv;apply G9 hE;cbv;apply B7 hE h<;>intro _ h
 ·cbv;cases h;exact hK hO .z
 cbv;obtain⟨s2,hx,h⟩:=A7 h;refine H5 A8 hE J6 (fun s1=>[(0,.v (sr eBh4 aF)),fi 3 s1]) (fun s1 H1=>B6 Eq H0 [] H1) (fun x e l H1=>match(generalizing:=false) x with| .inl y=>e= .exit 0∧l=[]∧B6 Eq H0 [] H1| .inr y=>e= .ret∧l=[fi 2 y]∧B6 Eq H0 [] H1) (by kernel_rfl) ?_ hx ?_ hO ?_
 ·intro s1 H o hO h
  repeat' (cbv;first|apply B7 hE h<;>intro _ h|apply G9 hE|refine A9 hE h (c48 _ _) .z fun _ h=>?_|refine A9 hE h (c49 _ _ _) .z fun _ h=>?_|refine D8 hE eBi7 h fun _ h=>?_|(cases h;exact⟨_,_,rfl,⟨rfl,rfl,hO⟩,.e rfl .z,rfl⟩)|(cases h;exact⟨_,rfl,.e2 .z,rfl,hO⟩)|(cases h;exact⟨_,_,rfl,⟨rfl,rfl,hO⟩,.z,rfl⟩))
 ·exact .e2 .z
 clear hx
 rcases s2 with y7|y8
 ·rintro e l H ⟨rfl,rfl,hO⟩;cbv;cases h;exact hK hO .z
 rintro e l H ⟨rfl,rfl,hO⟩;cbv;cases h;exact hK hO .z
def cf176:=cfB [] [(6,10)]
def c176 (N:Nat):∀n aD aE r,R5 N n aD aE=some r→C3 prog 176 [(U9 aD),(U9 aE)] (.bool r):=by
 intro n
 induction n with
 |zero=>intro aD aE r h;cases h
 |succ n ih=>
 intro aD aE r h
 unfold R5 at h
 refine N2 cf176 func176 call176 ntmps176 ?_;intro E H0 K hE hK hO
 repeat' (cbv;first|apply B7 hE h<;>intro _ h|apply G9 hE|(cases h;exact hK hO .z))
 cbv;obtain⟨s2,hx,h⟩:=A7 h;refine H5 cf176 hE J6 (fun s1=>[(2,.v (.eref (Aq aD) 0)),(3,.v (.eref (Aq aE) 0)),fi 5 s1]) (fun s1 H1=>B6 Eq H0 [] H1) (fun x e l H1=>match(generalizing:=false) x with| .inl y=>e= .exit 0∧l=[]∧B6 Eq H0 [] H1| .inr y=>e= .ret∧l=[(4,.b false)]∧B6 Eq H0 [] H1) (by kernel_rfl) ?_ hx ?_ hO ?_
 ·intro s1 H o hO h
  repeat' (cbv;first|apply B7 hE h<;>intro _ h|apply G9 hE|refine A9 hE h (ih _ _) .z fun _ h=>?_|refine D8 hE eBi0 h fun _ h=>?_|(cases h;exact⟨_,_,rfl,⟨rfl,rfl,hO⟩,.b rfl (.z),rfl⟩)|(cases h;exact⟨_,rfl,.e rfl (.e2 .z),rfl,hO⟩)|(cases h;exact⟨_,_,rfl,⟨rfl,rfl,hO⟩,.z,rfl⟩))
 ·exact .e rfl (.e2 .z)
 clear hx
 rcases s2 with y6|y7
 ·rintro e l H ⟨rfl,rfl,hO⟩;cbv;cases h;exact hK hO .z
 rintro e l H ⟨rfl,rfl,hO⟩;cbv;cases h;exact hK hO .z
def cf136:=cfB [] [(6,10)]
def c136 (N:Nat):∀n aD aE r,Af N n aD aE=some r→C3 prog 136 [(C9 aD),(C9 aE)] (.bool r):=by
 intro n
 induction n with
 |zero=>intro aD aE r h;cases h
 |succ n ih=>
 intro aD aE r h
 unfold Af at h
 refine N2 cf136 func136 call136 ntmps136 ?_;intro E H0 K hE hK hO
 repeat' (cbv;first|apply B7 hE h<;>intro _ h|apply G9 hE|refine A9 hE h (c176 _ _ _ _) .z fun _ h=>?_|(cases h;exact hK hO .z))
 cbv;obtain⟨s3,hx,h⟩:=A7 h;refine H5 cf136 hE J6 (fun s2=>[(2,.v (.eref (E1 aD) 0)),(3,.v (.eref (E1 aE) 0)),fi 5 s2]) (fun s2 H1=>B6 Eq H0 [] H1) (fun x e l H1=>match(generalizing:=false) x with| .inl y=>e= .exit 0∧l=[]∧B6 Eq H0 [] H1| .inr y=>e= .ret∧l=[(4,.b false)]∧B6 Eq H0 [] H1) (by kernel_rfl) ?_ hx ?_ hO ?_
 ·intro s2 H o hO h
  repeat' (cbv;first|apply B7 hE h<;>intro _ h|apply G9 hE|refine A9 hE h (ih _ _) .z fun _ h=>?_|refine D8 hE eBh0 h fun _ h=>?_|(cases h;exact⟨_,_,rfl,⟨rfl,rfl,hO⟩,.b rfl (.z),rfl⟩)|(cases h;exact⟨_,rfl,.e rfl (.e2 .z),rfl,hO⟩)|(cases h;exact⟨_,_,rfl,⟨rfl,rfl,hO⟩,.z,rfl⟩))
 ·exact .e rfl (.e2 .z)
 clear hx
 rcases s3 with y7|y8
 ·rintro e l H ⟨rfl,rfl,hO⟩;cbv;cases h;exact hK hO .z
 rintro e l H ⟨rfl,rfl,hO⟩;cbv;cases h;exact hK hO .z
def cf130:=cfB [] [(4,5)]
def c130 (N aF aA r) (h:BS N aF aA=some r):C3 prog 130 [sr eBg8 aF,(C9 aA)] (vi r):=by
 refine N2 cf130 func130 call130 ntmps130 ?_;intro E H0 K hE hK hO;cbv;obtain⟨s2,hx,h⟩:=A7 h;refine H5 cf130 hE J6 (fun s1=>[(0,.v (sr eBg8 aF)),(3,.v (.eref (E1 aA) 0)),fi 5 s1]) (fun s1 H1=>B6 Eq H0 [] H1) (fun x e l H1=>match(generalizing:=false) x with| .inl y=>e= .exit 0∧l=[]∧B6 Eq H0 [] H1| .inr y=>e= .ret∧l=[fi 4 y]∧B6 Eq H0 [] H1) (by kernel_rfl) ?_ hx ?_ hO ?_
 ·intro s1 H o hO h
  repeat' (cbv;first|apply B7 hE h<;>intro _ h|apply G9 hE|refine A9 hE h (c136 _ _ _ _) .z fun _ h=>?_|refine D8 hE eBh0 h fun _ h=>?_|(cases h;exact⟨_,_,rfl,⟨rfl,rfl,hO⟩,.e rfl .z,rfl⟩)|(cases h;exact⟨_,rfl,.e rfl (.e2 .z),rfl,hO⟩)|(cases h;exact⟨_,_,rfl,⟨rfl,rfl,hO⟩,.z,rfl⟩))
 ·exact .e rfl (.e2 .z)
 clear hx
 rcases s2 with y5|y6
 ·rintro e l H ⟨rfl,rfl,hO⟩;cbv;cases h;exact hK hO .z
 rintro e l H ⟨rfl,rfl,hO⟩;cbv;cases h;exact hK hO .z
def c171 (N:Nat):∀n aA r,AW N n aA=some r→C3 prog 171 [(C9 aA)] (vi r):=by
 intro n
 induction n with
 |zero=>intro aA r h;cases h
 |succ n ih=>
 intro aA r h
 unfold AW at h
 refine N2 A8 func171 call171 ntmps171 ?_;intro E H0 K hE hK hO;cbv;obtain⟨s2,hx,h⟩:=A7 h;refine H5 A8 hE J6 (fun s1=>[(1,.v (.eref (E1 aA) 0)),fi 3 s1.1,fi 4 s1.2]) (fun s1 H1=>B6 Eq H0 [] H1) (fun x e l H1=>e= .exit 0∧l=[fi 3 x]∧B6 Eq H0 [] H1) (by kernel_rfl) ?_ hx ?_ hO ?_
 ·intro s1 H o hO h;cbv;apply G9 hE;cbv;apply B7 hE h<;>intro _ h
  ·cbv;refine D8 hE eBh0 h fun x3 h=>?_;cbv;refine A9 hE h (ih x3) .z fun r4 h=>?_;cbv;cases h;exact⟨_,rfl,.e rfl (.e2 .z),rfl,hO⟩
  cbv;cases h;exact⟨_,_,rfl,⟨rfl,rfl,hO⟩,.e rfl .z,rfl⟩
 ·exact .e rfl (.e2 .z)
 clear hx;rintro e l H ⟨rfl,rfl,hO⟩;cbv;cases h;exact hK hO .z
def c137 (N:Nat):∀n aB r,AX N n aB=some r→C3 prog 137 [(U9 aB)] (vi r):=by
 intro n
 induction n with
 |zero=>intro aB r h;cases h
 |succ n ih=>
 intro aB r h
 unfold AX at h
 refine N2 A8 func137 call137 ntmps137 ?_;intro E H0 K hE hK hO;cbv;obtain⟨s2,hx,h⟩:=A7 h;refine H5 A8 hE J6 (fun s1=>[(1,.v (.eref (Aq aB) 0)),fi 3 s1.1,fi 4 s1.2]) (fun s1 H1=>B6 Eq H0 [] H1) (fun x e l H1=>e= .exit 0∧l=[fi 3 x]∧B6 Eq H0 [] H1) (by kernel_rfl) ?_ hx ?_ hO ?_
 ·intro s1 H o hO h;cbv;apply G9 hE;cbv;apply B7 hE h<;>intro _ h
  ·cbv;refine D8 hE eBi0 h fun x3 h=>?_;cbv;refine A9 hE h (ih x3) .z fun r4 h=>?_;cbv;cases h;exact⟨_,rfl,.e rfl (.e2 .z),rfl,hO⟩
  cbv;cases h;exact⟨_,_,rfl,⟨rfl,rfl,hO⟩,.e rfl .z,rfl⟩
 ·exact .e rfl (.e2 .z)
 clear hx;rintro e l H ⟨rfl,rfl,hO⟩;cbv;cases h;exact hK hO .z
def c178 (N cA aN r)(h:Gz N cA aN=some r):C3 prog 178 [vi cA,(MN aN)] (.bool r):=by
 refine N2 A8 func178 call178 ntmps178 ?_;intro E H0 K hE hK hO;cbv;cases h;exact hK hO .z
def cf210:=cfC [] [] [(4,4)]
def c210 (N aI r) (h:IQ N aI=some r):C3 prog 210 [vi aI] (vi r):=by
 refine N2 cf210 func210 call210 ntmps210 ?_;intro E H0 K hE hK hO;cbv;obtain⟨s1,hx,h⟩:=A7 h;refine L5 cf210 hE J6 (fun e l H1=>e= .normal∧l=[fi 3 aI,(4,.v (.bool s1))]∧B6 Eq H0 [] H1) (by kernel_rfl) ?_ ?_
 ·clear h;have h:=hx
  repeat' (cbv;first|apply B7 hE h<;>intro _ h|(cases h;exact⟨_,⟨rfl,rfl,hO⟩,.e2 .z,rfl⟩))
 clear hx;rintro e l H ⟨rfl,rfl,hO⟩
 repeat' (cbv;first|apply B7 hE h<;>intro _ h|(cases h;exact hK hO .z))
def c211 (N aI r)(h:Ko N aI=some r):C3 prog 211 [vi aI] (.tup [.bool r.1,.bool r.2]):=by
 refine N2 A8 func211 call211 ntmps211 ?_;intro E H0 K hE hK hO;cbv;cases h;exact hK hO .z
def c212 (N aN r)(h:IT N aN=some r):C3 prog 212 [(MN aN)] (vi r):=by
 refine N2 A8 func212 call212 ntmps212 ?_;intro E H0 K hE hK hO
 repeat' (cbv;first|apply B7 hE h<;>intro _ h|(cases h;exact hK hO .z))
def cf177:=cfC [] [] [(69,15)]
def c177 (N aB r) (h:HI N aB=some r):C3 prog 177 [(U9 aB)] (vi r):=by
 refine N2 cf177 func177 call177 ntmps177 ?_;intro E H0 K hE hK hO
 repeat' (cbv;first|apply B7 hE h<;>intro _ h|apply G9 hE|refine A9 hE h (c210 _ _) .z fun _ h=>?_|refine A9 hE h (c211 _ _) .z fun r2 h=>?_|(cases h;exact hK hO .z))
 cbv;obtain⟨s3,hx,h⟩:=A7 h;refine L5 cf177 hE J6 (fun e l H1=>match(generalizing:=false) s3 with| .inl y=>e= .normal∧l=[(1,.v (.eref (Aq aB) 0)),(4,.v (.bool r2.1)),(5,.v (.bool r2.2)),(6,.v (.bool (cmp .eql aB.Op 4))),(7,.v (.bool (Ar.or (cmp .eql aB.Op 4) (cmp .eql aB.Op 0))))]∧B6 Eq H0 [] H1| .inr y=>e= .ret∧l=[fi 2 y]∧B6 Eq H0 [] H1) (by kernel_rfl) ?_ ?_
 ·clear h;have h:=hx
  repeat' (cbv;first|apply B7 hE h<;>intro _ h|refine A9 hE h (c212 _ _) .z fun _ h=>?_|(cases h;exact⟨_,⟨rfl,rfl,hO⟩,.e rfl .z,rfl⟩)|(cases h;exact⟨_,⟨rfl,rfl,hO⟩,.e rfl (.e4 .z),rfl⟩))
 clear hx
 rcases s3 with y5|y7
 ·rintro e l H ⟨rfl,rfl,hO⟩
  repeat' (cbv;first|apply B7 hE h<;>intro _ h|refine A9 hE h (c178 _ _ _) .z fun _ h=>?_|(cases h;exact hK hO .z))
 rintro e l H ⟨rfl,rfl,hO⟩;cbv;cases h;exact hK hO .z
def c138 (N:Nat):∀n aB r,CT N n aB=some r→C3 prog 138 [(U9 aB)] (vi r):=by
 intro n
 induction n with
 |zero=>intro aB r h;cases h
 |succ n ih=>
 intro aB r h
 unfold CT at h
 refine N2 A8 func138 call138 ntmps138 ?_;intro E H0 K hE hK hO;cbv;refine A9 hE h (c177 N aB) .z fun r1 h=>?_;cbv;apply B7 hE h<;>intro _ h
 ·cbv;cases h;exact hK hO .z
 cbv;obtain⟨s3,hx,h⟩:=A7 h;refine H5 A8 hE J6 (fun s2=>[(1,.v (.eref (Aq aB) 0)),fi 4 s2]) (fun s2 H1=>B6 Eq H0 [] H1) (fun x e l H1=>match(generalizing:=false) x with| .inl y=>e= .exit 0∧l=[]∧B6 Eq H0 [] H1| .inr y=>e= .ret∧l=[fi 2 y]∧B6 Eq H0 [] H1) (by kernel_rfl) ?_ hx ?_ hO ?_
 ·intro s2 H o hO h
  repeat' (cbv;first|apply B7 hE h<;>intro _ h|apply G9 hE|refine A9 hE h (ih _) .z fun _ h=>?_|refine D8 hE eBi0 h fun _ h=>?_|(cases h;exact⟨_,_,rfl,⟨rfl,rfl,hO⟩,.e rfl .z,rfl⟩)|(cases h;exact⟨_,rfl,.e2 .z,rfl,hO⟩)|(cases h;exact⟨_,_,rfl,⟨rfl,rfl,hO⟩,.z,rfl⟩))
 ·exact .e2 .z
 clear hx
 rcases s3 with y6|y7
 ·rintro e l H ⟨rfl,rfl,hO⟩;cbv;cases h;exact hK hO .z
 rintro e l H ⟨rfl,rfl,hO⟩;cbv;cases h;exact hK hO .z
def c94 (N aB r)(h:Ej N aB=some r):C3 prog 94 [(U9 aB)] (vi r):=by
 refine N2 A8 func94 call94 ntmps94 ?_;intro E H0 K hE hK hO
 repeat' (cbv;first|apply B7 hE h<;>intro _ h|refine A9 hE h (c11 _ _ _ _) .z fun _ h=>?_|refine A9 hE h (c137 _ _ _) .z fun _ h=>?_|refine A9 hE h (c138 _ _ _) .z fun _ h=>?_|(cases h;exact hK hO .z))
def c132 (N aA r)(h:T5 N aA=some r):C3 prog 132 [(C9 aA)] (.bool r):=by
 refine N2 A8 func132 call132 ntmps132 ?_;intro E H0 K hE hK hO;cbv;cases h;exact hK hO .z
def c131 (N aA r)(h:Y4 N aA=some r):C3 prog 131 [(C9 aA)] (.bool r):=by
 refine N2 A8 func131 call131 ntmps131 ?_;intro E H0 K hE hK hO
 repeat' (cbv;first|apply B7 hE h<;>intro _ h|refine A9 hE h (c132 _ _) .z fun _ h=>?_|(cases h;exact hK hO .z))
def c133 (N aA r)(h:Y5 N aA=some r):C3 prog 133 [(C9 aA)] (.bool r):=by
 refine N2 A8 func133 call133 ntmps133 ?_;intro E H0 K hE hK hO;cbv;cases h;exact hK hO .z
def cf202:=cfC [] [] [(11,6)]
def c202 (N aA r) (h:IM N aA=some r):C3 prog 202 [(C9 aA)] (.bool r):=by
 refine N2 cf202 func202 call202 ntmps202 ?_;intro E H0 K hE hK hO;cbv;apply B7 hE h<;>intro _ h
 ·cbv;apply G9 hE;cbv;cases h;exact hK hO .z
 cbv;obtain⟨s1,hx,h⟩:=A7 h;refine L5 cf202 hE J6 (fun e l H1=>e= .normal∧l=[(1,.v (.eref (E1 aA) 0)),fi 4 aA.Op,(11,.v (.bool s1))]∧B6 Eq H0 [] H1) (by kernel_rfl) ?_ ?_
 ·clear h;have h:=hx
  repeat' (cbv;first|apply B7 hE h<;>intro _ h|(cases h;exact⟨_,⟨rfl,rfl,hO⟩,.e rfl (.e2 .z),rfl⟩))
 clear hx;rintro e l H ⟨rfl,rfl,hO⟩
 repeat' (cbv;first|apply B7 hE h<;>intro _ h|apply G9 hE|(cases h;exact hK hO .z))
def c203 (N aA r)(h:DE N aA=some r):C3 prog 203 [(C9 aA)] (.bool r):=by
 refine N2 A8 func203 call203 ntmps203 ?_;intro E H0 K hE hK hO;cbv;refine A9 hE h (c131 N aA) .z fun r1 h=>?_;cbv;cases h;exact hK hO .z
def c204 (N bF aK bN r)(h:Cs N bF aK bN=some r):C3 prog 204 [.bool bF,vi aK,vi bN] (.bool r):=by
 refine N2 A8 func204 call204 ntmps204 ?_;intro E H0 K hE hK hO;cbv;cases h;exact hK hO .z
def cf172:=cfC [] [(5,11),(6,21)] [(51,10)]
def c172 (N aA r) (h:Bo N aA=some r):C3 prog 172 [(C9 aA)] (vi r):=by
 refine N2 cf172 func172 call172 ntmps172 ?_;intro E H0 K hE hK hO;cbv;apply B7 hE h<;>intro _ h
 ·cbv;cases h;exact hK hO .z
 cbv;refine A9 hE h (c202 N aA) .z fun r1 h=>?_;cbv;apply B7 hE h<;>intro _ h
 ·cbv;cases h;exact hK hO .z
 cbv;refine K7 hE (g:=fun r2=>.bool r2) h (c131 N aA) .z fun r2 h=>?_;cbv;refine K7 hE (g:=fun r3=>.bool r3) h (c132 N aA) .z fun r3 h=>?_;cbv;apply B7 hE h<;>intro _ h
 ·cbv;refine K7 hE (g:=fun r4=>.bool r4) h (c203 N aA) .z fun r4 h=>?_;cbv;refine K7 hE (g:=fun r5=>.bool r5) h (c204 N r2 aA.Typ 15) .z fun r5 h=>?_;cbv;apply B7 hE h<;>intro _ h
  ·cbv;cases h;exact hK hO .z
  cbv;refine K7 hE (g:=fun r6=>.bool r6) h (c204 N r2 aA.Var 15) .z fun r6 h=>?_;cbv;apply B7 hE h<;>intro _ h
  ·cbv;cases h;exact hK hO .z
  cbv;refine K7 hE (g:=fun r7=>.bool r7) h (c204 N true aA.cY 63) .z fun r7 h=>?_;cbv;apply B7 hE h<;>intro _ h
  ·cbv;cases h;exact hK hO .z
  cbv;refine K7 hE (g:=fun r8=>.bool r8) h (c133 N aA) .z fun r8 h=>?_;cbv;refine A9 hE h (c204 N r8 aA.Span 1099511627776) .z fun r9 h=>?_;cbv;apply B7 hE h<;>intro _ h
  ·cbv;cases h;exact hK hO .z
  cbv;obtain⟨s10,hx,h⟩:=A7 h;refine L5 cf172 hE J6 (fun e l H1=>match(generalizing:=false) s10 with| .inl y=>e= .normal∧l=[(1,.v (.eref (E1 aA) 0)),(3,.v (.bool r2)),(4,.b true),(5,.v (.bool r4))]∧B6 Eq H0 [] H1| .inr y=>e= .ret∧l=[fi 2 y]∧B6 Eq H0 [] H1) (by kernel_rfl) ?_ ?_
  ·clear h;have h:=hx;cbv;apply B7 hE h<;>intro _ h
   ·cbv;refine A9 hE h (c94 N aA.cU) .z fun r11 h=>?_;cbv;apply B7 hE h<;>intro _ h
    ·cbv;cases h;exact⟨_,⟨rfl,rfl,hO⟩,.e rfl .z,rfl⟩
    cbv;cases h;exact⟨_,⟨rfl,rfl,hO⟩,.e2 (.b rfl (.e rfl (.z))),rfl⟩
   cbv;cases h;exact⟨_,⟨rfl,rfl,hO⟩,.e2 (.b rfl (.e rfl (.z))),rfl⟩
  clear hx
  rcases s10 with y12|y15
  ·rintro e l H ⟨rfl,rfl,hO⟩;cbv;apply B7 hE h<;>intro _ h
   ·cbv;cases h;exact hK hO .z
   cbv;refine A9 hE h (c133 N aA) .z fun r13 h=>?_;cbv;apply B7 hE h<;>intro _ h
   ·cbv;cases h;exact hK hO .z
   cbv;apply B7 hE h<;>intro _ h
   ·cbv;refine A9 hE h (c176 N N aA.cU (⟨0,[],0,0,0,(⟨0,0,⟨#[]⟩⟩:I9)⟩:B1)) (.r (.cons (.agg (.r (.cons (.lit _ (B5)) .z))) .z)) fun r14 h=>?_;cbv;apply B7 hE h<;>intro _ h
    ·cbv;cases h;exact hK hO .z
    cbv;cases h;exact hK hO .z
   cbv;cases h;exact hK hO .z
  rintro e l H ⟨rfl,rfl,hO⟩;cbv;cases h;exact hK hO .z
 cbv;refine K7 hE (g:=fun r16=>.bool r16) h (c133 N aA) .z fun r16 h=>?_;cbv;refine K7 hE (g:=fun r17=>.bool r17) h (c203 N aA) .z fun r17 h=>?_;cbv;refine K7 hE (g:=fun r18=>.bool r18) h (c204 N r2 aA.Typ 15) .z fun r18 h=>?_;cbv;apply B7 hE h<;>intro _ h
 ·cbv;cases h;exact hK hO .z
 cbv;refine K7 hE (g:=fun r19=>.bool r19) h (c204 N r2 aA.Var 15) .z fun r19 h=>?_;cbv;apply B7 hE h<;>intro _ h
 ·cbv;cases h;exact hK hO .z
 cbv;refine K7 hE (g:=fun r20=>.bool r20) h (c204 N r16 aA.cY 63) .z fun r20 h=>?_;cbv;apply B7 hE h<;>intro _ h
 ·cbv;cases h;exact hK hO .z
 cbv;refine K7 hE (g:=fun r21=>.bool r21) h (c133 N aA) .z fun r21 h=>?_;cbv;refine A9 hE h (c204 N r21 aA.Span 1099511627776) .z fun r22 h=>?_;cbv;apply B7 hE h<;>intro _ h
 ·cbv;cases h;exact hK hO .z
 cbv;obtain⟨s23,hx,h⟩:=A7 h;refine L5 cf172 hE J6 (fun e l H1=>match(generalizing:=false) s23 with| .inl y=>e= .normal∧l=[(1,.v (.eref (E1 aA) 0)),(3,.v (.bool r2)),(4,.v (.bool r16)),(5,.v (.bool r17))]∧B6 Eq H0 [] H1| .inr y=>e= .ret∧l=[fi 2 y]∧B6 Eq H0 [] H1) (by kernel_rfl) ?_ ?_
 ·clear h;have h:=hx;cbv;apply B7 hE h<;>intro _ h
  ·cbv;refine A9 hE h (c94 N aA.cU) .z fun r24 h=>?_;cbv;apply B7 hE h<;>intro _ h
   ·cbv;cases h;exact⟨_,⟨rfl,rfl,hO⟩,.e rfl .z,rfl⟩
   cbv;cases h;exact⟨_,⟨rfl,rfl,hO⟩,.e4 .z,rfl⟩
  cbv;cases h;exact⟨_,⟨rfl,rfl,hO⟩,.e4 .z,rfl⟩
 clear hx
 rcases s23 with y25|y28
 ·rintro e l H ⟨rfl,rfl,hO⟩;cbv;apply B7 hE h<;>intro _ h
  ·cbv;cases h;exact hK hO .z
  cbv;refine A9 hE h (c133 N aA) .z fun r26 h=>?_;cbv;apply B7 hE h<;>intro _ h
  ·cbv;cases h;exact hK hO .z
  cbv;apply B7 hE h<;>intro _ h
  ·cbv;refine A9 hE h (c176 N N aA.cU (⟨0,[],0,0,0,(⟨0,0,⟨#[]⟩⟩:I9)⟩:B1)) (.r (.cons (.agg (.r (.cons (.lit _ (B5)) .z))) .z)) fun r27 h=>?_;cbv;apply B7 hE h<;>intro _ h
   ·cbv;cases h;exact hK hO .z
   cbv;cases h;exact hK hO .z
  cbv;cases h;exact hK hO .z
 rintro e l H ⟨rfl,rfl,hO⟩;cbv;cases h;exact hK hO .z
def c134 (N aA r) (h:V8 N aA=some r):C3 prog 134 [(C9 aA)] (vi r):=by
 refine N2 A8 func134 call134 ntmps134 ?_;intro E H0 K hE hK hO
 repeat' (cbv;first|apply B7 hE h<;>intro _ h|refine A9 hE h (c9 _ _ _ _) .z fun _ h=>?_|refine A9 hE h (c171 _ _ _) .z fun _ h=>?_|refine A9 hE h (c10 _ _ _) .z fun r3 h=>?_|(cases h;exact hK hO .z))
 cbv;obtain⟨s5,hx,h⟩:=A7 h;refine H5 A8 hE J6 (fun s4=>[(3,.v (sr eBg8 r3)),fi 4 s4]) (fun s4 H1=>B6 Eq H0 [] H1) (fun x e l H1=>match(generalizing:=false) x with| .inl y=>e= .exit 0∧l=[]∧B6 Eq H0 [] H1| .inr y=>e= .ret∧l=[fi 2 y]∧B6 Eq H0 [] H1) (by kernel_rfl) ?_ hx ?_ hO ?_
 ·intro s4 H o hO h
  repeat' (cbv;first|apply B7 hE h<;>intro _ h|apply G9 hE|refine A9 hE h (c172 _ _) .z fun _ h=>?_|refine D8 hE eBh0 h fun _ h=>?_|(cases h;exact⟨_,_,rfl,⟨rfl,rfl,hO⟩,.e rfl .z,rfl⟩)|(cases h;exact⟨_,rfl,.e2 .z,rfl,hO⟩)|(cases h;exact⟨_,_,rfl,⟨rfl,rfl,hO⟩,.z,rfl⟩))
 ·exact .e2 .z
 clear hx
 rcases s5 with y8|y9
 ·rintro e l H ⟨rfl,rfl,hO⟩;cbv;cases h;exact hK hO .z
 rintro e l H ⟨rfl,rfl,hO⟩;cbv;cases h;exact hK hO .z
def cf173:=cfC [6] [(6,5)] [(16,4)]
def c173 (N aG aA aP r) (h:EE N aG aA aP=some r):C3 prog 173 [(O0 aG),(C9 aA),vi aP] ((O0 r)):=by
 refine N2 cf173 func173 call173 ntmps173 ?_;intro E H0 K hE hK hO;cbv;refine E5 hE hO fun b1 H hO=>?_;cbv;refine MW hE (f:=eBg8) N3 h fun l2 t3 h=>?_;cbv;refine N1 (f:=eBg8) hE N3 (by decide) (hO.tl0 (t:=.full) rfl) 0 rfl trivial (l:=[]) (m:=l2) (.lst0) .z h fun l5 t4 H hO ht4 h=>?_;cbv;obtain⟨s6,hx,h⟩:=A7 h;refine L5 cf173 hE J6 (fun e l H1=>∃u1:E7,K6 u1∧e= .normal∧l=[fi 2 aP,(3,.v (.eref (U5 aG) 0)),(4,.v (.eref (E1 aA) 0)),(6,.v (.ref b1 0)),(7,.v (.sl (lst eBg8 s6) u1))]∧B6 Eq H0 [.tl u1,cb b1 [vi 0,vi 0,vi 0,vi 0,vi 0,.sl [] .nil,vi 0,vi 0,vi 0,vi 0,vi 0,.str (⟨#[]⟩),.sl [] .nil,.sl [] .nil,.sl [] .nil,.sl [] .nil,.sl [] .nil,.bool false,vi 0,.sl [] .nil,vi 0,vi 0,vi 0,vi 0,vi 0,.sl [] .nil,vi 0,vi 0,vi 0,vi 0,vi 0,.str (⟨#[]⟩)]] H1) (by kernel_rfl) ?_ ?_
 ·clear h;have h:=hx;cbv;apply B7 hE h<;>intro _ h
  ·cbv;refine N1 (f:=eBg8) hE N3 (by decide) hO 0 rfl ht4 (l:=l5) (m:=[aG.Rest]) .z (.lstc (.eq (eBh0 aG.Rest) .z) (.lst0)) h fun l8 t7 H hO ht7 h=>?_;cbv;cases h;exact⟨_,⟨t7,ht7,rfl,rfl,hO⟩,.e rfl (.e4 .z),rfl⟩
  cbv;cases h;exact⟨_,⟨t4,ht4,rfl,rfl,hO⟩,.e rfl (.e4 .z),rfl⟩
 clear hx;rintro e l H ⟨t9,ht9,rfl,rfl,hO⟩
 repeat' (cbv;first|apply B7 hE h<;>intro _ h|apply G9 hE|refine D8 hE eBh0 h fun _ h=>?_|apply D0 hE hO 1 rfl|refine B9 hE hO 1 rfl rfl fun H hO=>?_|(cases h;exact hK hO .z)|(cases h;exact hK hO (.agg (.r (.r (.r (.r (.r (.r (.r (.r (.r (.r (.r (.r (.r (.r (.r (.r (.r (.r (.r (.cons (.ro _ _) (.r (.r (.r (.r (.r (.cons (.lit _ (B5)) .z))))))))))))))))))))))))))))|refine MW hE (f:=eBg8) N3 h fun l10 _ h=>?_|refine N1 (f:=eBg8) hE N3 (by decide) hO 0 rfl ht9 (l:=s6) (m:=l10) .z .z h fun _ _ H hO _ h=>?_)
def cf225:=cfB [] [(6,8)]
def c225 (N aD aE r) (h:CS N aD aE=some r):C3 prog 225 [sr (V.int .i64) aD,sr (V.int .i64) aE] (.bool r):=by
 refine N2 cf225 func225 call225 ntmps225 ?_;intro E H0 K hE hK hO
 repeat' (cbv;first|apply B7 hE h<;>intro _ h|apply G9 hE|(cases h;exact hK hO .z))
 cbv;obtain⟨s2,hx,h⟩:=A7 h;refine H5 cf225 hE J6 (fun s1=>[(0,.v (sr (V.int .i64) aD)),(1,.v (sr (V.int .i64) aE)),fi 5 s1]) (fun s1 H1=>B6 Eq H0 [] H1) (fun x e l H1=>match(generalizing:=false) x with| .inl y=>e= .exit 0∧l=[]∧B6 Eq H0 [] H1| .inr y=>e= .ret∧l=[(4,.b false)]∧B6 Eq H0 [] H1) (by kernel_rfl) ?_ hx ?_ hO ?_
 ·intro s1 H o hO h
  repeat' (cbv;first|apply B7 hE h<;>intro _ h|apply G9 hE|refine D8 hE (fun _=>rfl) h fun _ h=>?_|(cases h;exact⟨_,_,rfl,⟨rfl,rfl,hO⟩,.b rfl (.z),rfl⟩)|(cases h;exact⟨_,rfl,.e rfl (.e2 .z),rfl,hO⟩)|(cases h;exact⟨_,_,rfl,⟨rfl,rfl,hO⟩,.z,rfl⟩))
 ·exact .e rfl (.e2 .z)
 clear hx
 rcases s2 with y5|y6
 ·rintro e l H ⟨rfl,rfl,hO⟩;cbv;cases h;exact hK hO .z
 rintro e l H ⟨rfl,rfl,hO⟩;cbv;cases h;exact hK hO .z
def cf226:=cfB [] [(6,8)]
def c226 (N aD aE r) (h:Fv N aD aE=some r):C3 prog 226 [sr eBi1 aD,sr eBi1 aE] (.bool r):=by
 refine N2 cf226 func226 call226 ntmps226 ?_;intro E H0 K hE hK hO
 repeat' (cbv;first|apply B7 hE h<;>intro _ h|apply G9 hE|(cases h;exact hK hO .z))
 cbv;obtain⟨s2,hx,h⟩:=A7 h;refine H5 cf226 hE J6 (fun s1=>[(0,.v (sr eBi1 aD)),(1,.v (sr eBi1 aE)),fi 5 s1]) (fun s1 H1=>B6 Eq H0 [] H1) (fun x e l H1=>match(generalizing:=false) x with| .inl y=>e= .exit 0∧l=[]∧B6 Eq H0 [] H1| .inr y=>e= .ret∧l=[(4,.b false)]∧B6 Eq H0 [] H1) (by kernel_rfl) ?_ hx ?_ hO ?_
 ·intro s1 H o hO h
  repeat' (cbv;first|apply B7 hE h<;>intro _ h|apply G9 hE|refine D8 hE eBj6 h fun _ h=>?_|(cases h;exact⟨_,_,rfl,⟨rfl,rfl,hO⟩,.b rfl (.z),rfl⟩)|(cases h;exact⟨_,rfl,.e rfl (.e2 .z),rfl,hO⟩)|(cases h;exact⟨_,_,rfl,⟨rfl,rfl,hO⟩,.z,rfl⟩))
 ·exact .e rfl (.e2 .z)
 clear hx
 rcases s2 with y5|y6
 ·rintro e l H ⟨rfl,rfl,hO⟩;cbv;cases h;exact hK hO .z
 rintro e l H ⟨rfl,rfl,hO⟩;cbv;cases h;exact hK hO .z
def cf205:=cfB [] [(6,10)]
def c205 (N aD aE r) (h:BC N aD aE=some r):C3 prog 205 [(K1 aD),(K1 aE)] (.bool r):=by
 refine N2 cf205 func205 call205 ntmps205 ?_;intro E H0 K hE hK hO
 repeat' (cbv;first|apply B7 hE h<;>intro _ h|apply G9 hE|refine A9 hE h (c176 _ _ _ _) .z fun _ h=>?_|(cases h;exact hK hO .z))
 cbv;obtain⟨s3,hx,h⟩:=A7 h;refine H5 cf205 hE J6 (fun s2=>[(2,.v (.eref (U3 aD) 0)),(3,.v (.eref (U3 aE) 0)),fi 5 s2]) (fun s2 H1=>B6 Eq H0 [] H1) (fun x e l H1=>match(generalizing:=false) x with| .inl y=>e= .exit 0∧l=[(2,.v (.eref (U3 aD) 0)),(3,.v (.eref (U3 aE) 0))]∧B6 Eq H0 [] H1| .inr y=>e= .ret∧l=[(4,.b false)]∧B6 Eq H0 [] H1) (by kernel_rfl) ?_ hx ?_ hO ?_
 ·intro s2 H o hO h
  repeat' (cbv;first|apply B7 hE h<;>intro _ h|apply G9 hE|refine A9 hE h (c176 _ _ _ _) .z fun _ h=>?_|refine D8 hE eBi0 h fun _ h=>?_|(cases h;exact⟨_,_,rfl,⟨rfl,rfl,hO⟩,.b rfl (.z),rfl⟩)|(cases h;exact⟨_,rfl,.e rfl (.e2 .z),rfl,hO⟩)|(cases h;exact⟨_,_,rfl,⟨rfl,rfl,hO⟩,.e2 .z,rfl⟩))
 ·exact .e rfl (.e2 .z)
 clear hx
 rcases s3 with y7|y12
 ·rintro e l H ⟨rfl,rfl,hO⟩
  repeat' (cbv;first|apply B7 hE h<;>intro _ h|refine A9 hE h (c225 _ _ _) .z fun _ h=>?_|refine A9 hE h (c226 _ _ _) .z fun _ h=>?_|(cases h;exact hK hO .z))
 rintro e l H ⟨rfl,rfl,hO⟩;cbv;cases h;exact hK hO .z
def cf174:=cfB [] [(4,26)]
def c174 (N aF aG r) (h:CQ N aF aG=some r):AU5 prog 174 [(O0 aG)] (lst eBh8 aF) (lst eBh8 r):=by
 intro H0 tl0 htl0 hap;refine At4 (T:=TT) cf174 J6 func174 (by rfl) (by kernel_rfl) call174 ntmps174 (by rfl) (by rfl) ?_;intro E K hE hK;have hO:B6 Eq (G0 H0 tl0) [.tl tl0] H0:=B6.startT hap;cbv;obtain⟨s2,hx,h⟩:=A7 h;refine H5 cf174 hE J6 (fun s1=>[(0,.v (.sl (lst eBh8 aF) tl0)),(3,.v (.eref (U5 aG) 0)),fi 5 s1]) (fun s1 H1=>B6 Eq (G0 H0 tl0) [.tl tl0] H1) (fun x e l H1=>match(generalizing:=false) x with| .inl y=>e= .exit 0∧l=[(0,.v (.sl (lst eBh8 aF) tl0)),(3,.v (.eref (U5 aG) 0))]∧B6 Eq (G0 H0 tl0) [.tl tl0] H1| .inr y=>e= .ret∧l=[(4,.v (.sl (lst eBh8 aF) tl0))]∧B6 Eq (G0 H0 tl0) [.tl tl0] H1) (by kernel_rfl) ?_ hx ?_ hO ?_
 ·intro s1 H o hO h
  repeat' (cbv;first|apply B7 hE h<;>intro _ h|apply G9 hE|refine A9 hE h (c136 _ _ _ _) .z fun _ h=>?_|refine D8 hE eBi4 h fun _ h=>?_|refine K7 hE (g:=fun r5=>.bool r5) h (c205 _ _ _) .z fun r5 h=>?_|(cases h;exact⟨_,_,rfl,⟨rfl,rfl,hO⟩,.e rfl .z,rfl⟩)|(cases h;exact⟨_,rfl,.e rfl (.e2 .z),rfl,hO⟩)|(cases h;exact⟨_,_,rfl,⟨rfl,rfl,hO⟩,.e2 .z,rfl⟩))
 ·exact .e rfl (.e2 .z)
 clear hx
 rcases s2 with y8|y11
 ·rintro e l H ⟨rfl,rfl,hO⟩;cbv;refine N1 (f:=eBh8) hE Kh (by decide) hO 0 rfl htl0 (l:=aF) (m:=[aG]) .z (.lstc (.eq (eBi4 aG) .z) (.lst0)) h fun l10 t9 H hO ht9 h=>?_;cbv;cases h;exact hK _ _ _ 0 _ .z (by rfl) ht9 hO
 rintro e l H ⟨rfl,rfl,hO⟩;cbv;cases h;exact hK _ _ _ 0 _ .z (by rfl) htl0 hO
def cf227:=cfA [2]
def c227 (N aF r)(h:JO N aF=some r):C3 prog 227 [sr eBg8 aF] ((C9 r)):=by
 refine N2 cf227 func227 call227 ntmps227 ?_;intro E H0 K hE hK hO
 repeat' (cbv;first|apply B7 hE h<;>intro _ h|apply G9 hE|refine D8 hE eBh0 h fun _ h=>?_|apply D0 hE hO 0 rfl|refine B9 hE hO 0 rfl rfl fun H hO=>?_|refine E5 hE hO fun _ H hO=>?_|(cases h;exact hK hO .z)|(cases h;exact hK hO (.agg (.r (.r (.r (.r (.r (.r (.r (.cons (.lit _ (B5)) .z)))))))))))
def cf206:=cfB [4] [(4,6),(5,8)]
def c206 (N aG aF r)(h:DD N aG aF=some r):C3 prog 206 [(O0 aG),sr eBg8 aF] ((O0 r)):=by
 refine N2 cf206 func206 call206 ntmps206 ?_;intro E H0 K hE hK hO
 repeat' (cbv;first|apply B7 hE h<;>intro _ h|apply G9 hE|apply D0 hE hO 0 rfl|refine B9 hE hO 0 rfl rfl fun H hO=>?_|refine K7 hE (g:=fun r3=>(C9 r3)) h (c227 _ _) .z fun r3 h=>?_|refine K7 hE (g:=fun r5=>(C9 r5)) h (c227 _ _) .z fun r5 h=>?_|refine E5 hE hO fun _ H hO=>?_|(cases h;exact hK hO .z)|refine Wb (f:=eBg8) hE N3 (by decide) (l:=[]) (m:=aF) (.lst0) .z h fun _ h=>?_|refine Wb (f:=eBg8) hE N3 (by decide) (l:=[aG.Rest]) (m:=aF) (.lstc (.eq (eBh0 aG.Rest) .z) (.lst0)) .z h fun _ h=>?_)
def c207 (N bR aG r)(h:CR N bR aG=some r):C3 prog 207 [(C9 bR),(O0 aG)] (sr eBh8 r):=by
 refine N2 A8 func207 call207 ntmps207 ?_;intro E H0 K hE hK hO;cbv;apply B7 hE h<;>intro _ h
 ·cbv;cases h;exact hK hO (.sl _ (.lstc (.eq (eBi4 aG) .z) (.lstc (.eq (eBi4 (⟨aG.Edge,false,(⟨4,[bR],0,0,0,0,(⟨0,[],0,0,0,(⟨0,0,⟨#[]⟩⟩:I9)⟩:B1)⟩:A0)⟩:B0)) (.agg (.r (.r (.r (.r (.r (.r (.r (.r (.r (.r (.r (.r (.r (.r (.r (.r (.r (.r (.r (.cons (.lit _ (F2 ((eBh0 bR).symm) (B5))) (.r (.r (.r (.r (.r (.cons (.lit _ (B5)) .z)))))))))))))))))))))))))))) (.lst0))))
 cbv;cases h;exact hK hO (.sl _ (.lstc (.eq (eBi4 (⟨aG.Edge,false,(⟨8,[aG.Rest,bR],0,0,0,0,(⟨0,[],0,0,0,(⟨0,0,⟨#[]⟩⟩:I9)⟩:B1)⟩:A0)⟩:B0)) (.agg (.r (.r (.r (.r (.r (.r (.r (.r (.r (.r (.r (.r (.r (.r (.r (.r (.r (.r (.r (.cons (.lit _ (F2 ((eBh0 aG.Rest).symm) (F2 ((eBh0 bR).symm) (B5)))) (.r (.r (.r (.r (.r (.cons (.lit _ (B5)) .z)))))))))))))))))))))))))))) (.lst0)))
def cf208:=cfA [4,6]
def c208 (N aI aA bL r)(h:HG N aI aA bL=some r):C3 prog 208 [vi aI,(C9 aA),(C9 bL)] ((C9 r)):=by
 refine N2 cf208 func208 call208 ntmps208 ?_;intro E H0 K hE hK hO
 repeat' (cbv;first|apply D0 hE hO 1 rfl|apply D0 hE hO 0 rfl|refine B9 hE hO 1 rfl rfl fun H hO=>?_|refine B9 hE hO 0 rfl rfl fun H hO=>?_|refine E5 hE hO fun _ H hO=>?_|(cases h;exact hK hO (.agg (.r (.cons (.lit _ (F2 ((eBh0 bL).symm) (B5))) .z)))))
def c228 (N aK aF r)(h:IL N aK aF=some r):C3 prog 228 [vi aK,sr (V.int .i64) aF] (sr (V.int .i64) r):=by
 refine N2 A8 func228 call228 ntmps228 ?_;intro E H0 K hE hK hO;cbv;refine N1 (f:=(V.int .i64)) hE (fun _=>rfl) (by decide) (hO.tl0 (t:=.full) rfl) 0 rfl trivial (l:=[aK]) (m:=aF) (.lstc .z (.lst0)) .z h fun l2 t1 H hO ht1 h=>?_;cbv;cases h;exact hK hO (.ro _ _)
def c229 (N aF aK r)(h:NK N aF aK=some r):C3 prog 229 [sr (V.int .i64) aF,vi aK] (sr (V.int .i64) r):=by
 refine N2 A8 func229 call229 ntmps229 ?_;intro E H0 K hE hK hO;cbv;refine N1 (f:=(V.int .i64)) hE (fun _=>rfl) (by decide) (hO.tl0 (t:=.full) rfl) 0 rfl trivial (l:=[]) (m:=aF) (.lst0) .z h fun l2 t1 H hO ht1 h=>?_;cbv;refine N1 (f:=(V.int .i64)) hE (fun _=>rfl) (by decide) hO 0 rfl ht1 (l:=l2) (m:=[aK]) .z (.lstc .z (.lst0)) h fun l4 t3 H hO ht3 h=>?_;cbv;cases h;exact hK hO (.ro _ _)
def cf209:=cfC [4,5,4000025] [(12,6)] [(10,5),(34,9)]
def c209 (N aA aG r) (h:Hc N aA aG=some r):C3 prog 209 [(C9 aA),(O0 aG)] ((O0 r)):=by
 refine N2 cf209 func209 call209 ntmps209 ?_;intro E H0 K hE hK hO;cbv;refine E5 hE hO fun b1 H hO=>?_;cbv;refine E5 hE hO fun b2 H hO=>?_;cbv;refine B9 hE hO 0 rfl rfl fun H hO=>?_;cbv;refine A9 hE h (c132 N aA) .z fun r3 h=>?_;cbv;obtain⟨s4,hx,h⟩:=A7 h;refine L5 cf209 hE J6 (fun e l H1=>e= .normal∧l=[(2,.v (.eref (E1 aA) 0)),(3,.v (.eref (U5 aG) 0)),(4,.v (.ref b1 0)),(5,.v (.ref b2 0)),fi 6 s4.1]∧B6 Eq H0 [cb b2 (U3 s4.2),cb b1 [vi 0,vi 0,vi 0,vi 0,vi 0,.sl [] .nil,vi 0,vi 0,vi 0,vi 0,vi 0,.str (⟨#[]⟩),.sl [] .nil,.sl [] .nil,.sl [] .nil,.sl [] .nil,.sl [] .nil,.bool false,vi 0,.sl [] .nil,vi 0,vi 0,vi 0,vi 0,vi 0,.sl [] .nil,vi 0,vi 0,vi 0,vi 0,vi 0,.str (⟨#[]⟩)]] H1) (by kernel_rfl) ?_ ?_
 ·clear h;have h:=hx
  repeat' (cbv;first|apply B7 hE h<;>intro _ h|refine A9 hE h (c228 _ _ _) .z fun _ h=>?_|apply D0 hE hO 0 rfl|refine B9 hE hO 0 rfl rfl fun H hO=>?_|(cases h;exact⟨_,⟨rfl,rfl,hO⟩,.e rfl (.e4 .z),rfl⟩)|refine AM9 (f:=eBi1) hE PI (by decide) (.inr rfl) (l:=[(⟨aA.cY,aA.Span⟩:V9)]) (m:=aG.Edge.dF) (.lstc (.eq (eBj6 (⟨aA.cY,aA.Span⟩:V9)) .z) (.lst0)) .z h fun _ h=>?_)
 clear hx;rintro e l H ⟨rfl,rfl,hO⟩;cbv;obtain⟨s7,hx,h⟩:=A7 h;refine L5 cf209 hE J6 (fun e l H1=>e= .normal∧l=[(2,.v (.eref (E1 aA) 0)),(3,.v (.eref (U5 aG) 0)),(4,.v (.ref b1 0)),(5,.v (.ref b2 0)),fi 6 s4.1]∧B6 Eq H0 [cb b2 (U3 s7),cb b1 [vi 0,vi 0,vi 0,vi 0,vi 0,.sl [] .nil,vi 0,vi 0,vi 0,vi 0,vi 0,.str (⟨#[]⟩),.sl [] .nil,.sl [] .nil,.sl [] .nil,.sl [] .nil,.sl [] .nil,.bool false,vi 0,.sl [] .nil,vi 0,vi 0,vi 0,vi 0,vi 0,.sl [] .nil,vi 0,vi 0,vi 0,vi 0,vi 0,.str (⟨#[]⟩)]] H1) (by kernel_rfl) ?_ ?_
 ·clear h;have h:=hx
  repeat' (cbv;first|apply B7 hE h<;>intro _ h|refine A9 hE h (c228 _ _ _) .z fun _ h=>?_|apply D0 hE hO 0 rfl|refine B9 hE hO 0 rfl rfl fun H hO=>?_|(cases h;exact⟨_,⟨rfl,rfl,hO⟩,.e rfl (.e4 .z),rfl⟩))
 clear hx;rintro e l H ⟨rfl,rfl,hO⟩
 repeat' (cbv;first|apply B7 hE h<;>intro _ h|refine A9 hE h (c229 _ _ _) .z fun _ h=>?_|apply D0 hE hO 0 rfl|apply D0 hE hO 1 rfl|refine B9 hE hO 0 rfl rfl fun H hO=>?_|refine B9 hE hO 1 rfl rfl fun H hO=>?_|refine K7 hE (g:=fun r10=>(C9 r10)) h (c208 _ _ _ _) .z fun r10 h=>?_|(cases h;exact hK hO (.agg (.r (.r (.r (.r (.r (.r (.r (.r (.r (.r (.r (.r (.r (.r (.r (.r (.r (.r (.r (.cons (.lit _ (B5)) (.r (.r (.r (.r (.r (.cons (.lit _ (B5)) .z))))))))))))))))))))))))))))|(cases h;exact hK hO .z))
def cf175:=cfB [5,3000041,3000045] [(3,4),(5,5),(7,5),(11,8),(13,6)]
def c175 (N aA aG r)(h:MR N aA aG=some r):C3 prog 175 [(C9 aA),(O0 aG)] (sr eBh8 r):=by
 refine N2 cf175 func175 call175 ntmps175 ?_;intro E H0 K hE hK hO
 repeat' (cbv;first|apply B7 hE h<;>intro _ h|refine A9 hE h (c206 _ _ _) (.r (.cons (.ro _ _) .z)) fun r3 h=>?_|refine A9 hE h (c207 _ _ _) .z fun _ h=>?_|refine A9 hE h (c209 _ _ _) .z fun r12 h=>?_|refine D8 hE eBh0 h fun _ h=>?_|apply D0 hE hO 0 rfl|refine B9 hE hO 0 rfl rfl fun H hO=>?_|refine K7 hE (g:=fun r11=>(C9 r11)) h (c208 _ _ _ _) .z fun r11 h=>?_|refine E5 hE hO fun _ H hO=>?_|(cases h;exact hK hO (.lit _ (F2 ((eBi4 r3).symm) (B5))))|(cases h;exact hK hO .z)|(cases h;exact hK hO (.sl _ (.lstc (.eq (eBi4 (⟨{aG.Edge with dD:=l10},true,(⟨0,[],0,0,0,0,(⟨0,[],0,0,0,(⟨0,0,⟨#[]⟩⟩:I9)⟩:B1)⟩:A0)⟩:B0)) (.agg (.r (.r (.r (.r (.r (.r (.r (.r (.r (.r (.r (.r (.r (.r (.r (.r (.r (.r (.r (.cons (.lit _ (B5)) (.r (.r (.r (.r (.r (.cons (.lit _ (B5)) .z)))))))))))))))))))))))))))) (.lst0))))|(cases h;exact hK hO (.lit _ (F2 ((eBi4 (⟨aG.Edge,false,r11⟩:B0)).symm) (B5))))|(cases h;exact hK hO (.lit _ (F2 ((eBi4 r12).symm) (B5))))|refine MW hE (f:=eBg8) N3 h fun _ _ h=>?_|refine Wb (f:=eBh2) hE OB (by decide) (l:=[]) (m:=aG.Edge.dD) (.lst0) .z h fun l9 h=>?_|refine Wb (f:=eBh2) hE OB (by decide) (l:=l9) (m:=[aA.cU]) .z (.lstc (.eq (eBi0 aA.cU) .z) (.lst0)) h fun l10 h=>?_)
def cf135:=cfB [7] [(21,5)]
def c135 (N:Nat):∀n aA r,BT N n aA=some r→C3 prog 135 [(C9 aA)] (sr eBh8 r):=by
 intro n
 induction n with
 |zero=>intro aA r h;cases h
 |succ n ih=>
 intro aA r h
 unfold BT at h
 refine N2 cf135 func135 call135 ntmps135 ?_;intro E H0 K hE hK hO
 repeat' (cbv;first|apply B7 hE h<;>intro _ h|refine A9 hE h (ih _) .z fun r21 h=>?_|refine D8 hE eBh0 h fun _ h=>?_|(cases h;exact hK hO (.sl _ (.lstc (.eq (eBi4 (⟨(⟨0,0,aA.Var,aA.Typ,aA.cU,[],[],[],[],[]⟩:C4),true,(⟨0,[],0,0,0,0,(⟨0,[],0,0,0,(⟨0,0,⟨#[]⟩⟩:I9)⟩:B1)⟩:A0)⟩:B0)) (.agg (.r (.r (.r (.r (.r (.r (.r (.r (.r (.r (.r (.r (.cons (.lit _ (B5)) (.cons (.lit _ (B5)) (.cons (.lit _ (B5)) (.cons (.lit _ (B5)) (.cons (.lit _ (B5)) (.r (.r (.cons (.lit _ (B5)) (.r (.r (.r (.r (.r (.cons (.lit _ (B5)) .z)))))))))))))))))))))))))))) (.lst0)))))
 ·cbv;replace hO:=hO.tl0 (t:=.nil) rfl;obtain⟨s3,hx,h⟩:=A7 h;refine J9 cf135 hE J6 (γ:=E7) (fun s1 g=>[(1,.v (.eref (E1 aA) 0)),(3,.v (.sl (lst eBh8 s1.1) g)),fi 4 s1.2]) (fun s1 g H1=>K6 g∧B6 Eq H0 [.tl g] H1) (fun x e l H1=>∃u1:E7,K6 u1∧e= .exit 0∧l=[(3,.v (.sl (lst eBh8 x) u1))]∧B6 Eq H0 [.tl u1] H1) (by kernel_rfl) ?_ .nil hx ?_ ?_ ?_
  ·rintro s1 t2 H o ⟨ht2,hO⟩ h;cbv;apply G9 hE;cbv;apply B7 hE h<;>intro _ h
   ·cbv;refine D8 hE eBh0 h fun x4 h=>?_;cbv;refine A9 hE h (ih x4) .z fun r5 h=>?_;cbv;obtain⟨s8,hx,h⟩:=A7 h;refine J9 cf135 hE J6 (γ:=E7) (fun s6 g=>[(1,.v (.eref (E1 aA) 0)),(3,.v (.sl (lst eBh8 s6.1) g)),fi 4 s1.2,(5,.v (sr eBh8 r5)),fi 6 s6.2]) (fun s6 g H1=>K6 g∧B6 Eq H0 [.tl g] H1) (fun x e l H1=>∃u1:E7,K6 u1∧e= .exit 2∧l=[(1,.v (.eref (E1 aA) 0)),(3,.v (.sl (lst eBh8 x) u1)),fi 4 s1.2]∧B6 Eq H0 [.tl u1] H1) (by kernel_rfl) ?_ t2 hx ?_ ?_ ?_
    ·rintro s6 t7 H o ⟨ht7,hO⟩ h
     repeat' (cbv;first|apply B7 hE h<;>intro _ h|apply G9 hE|refine A9 hE h (c173 _ _ _ _) .z fun r11 h=>?_|refine VZ hE (f:=eBh8) hO 1 rfl ht7 h (c174 N s6.1 r11) .z .z fun _ t14 H hO ht14 h=>?_|refine VZ hE (f:=eBh8) hO 1 rfl ht7 h (c174 N s6.1 x9) .z .z fun _ t17 H hO ht17 h=>?_|refine D8 hE eBi4 h fun x9 h=>?_|apply D0 hE hO 0 rfl|refine B9 hE hO 0 rfl rfl fun H hO=>?_|refine E5 hE hO fun _ H hO=>?_|(cases h;exact⟨_,t14,rfl,.e rfl (.e4 .z),rfl,ht14,hO.tail⟩)|(cases h;exact⟨_,t17,rfl,.e rfl (.e4 .z),rfl,ht17,hO.tail⟩)|(cases h;exact⟨_,_,rfl,⟨t7,ht7,rfl,rfl,hO⟩,.e rfl (.e2 .z),rfl⟩))
    ·exact .e rfl (.e4 .z)
    ·exact⟨ht2,hO⟩
    clear hx;rintro e l H ⟨t18,ht18,rfl,rfl,hO⟩;cbv;cases h;exact⟨_,t18,rfl,.e rfl (.e2 .z),rfl,ht18,hO⟩
   cbv;cases h;exact⟨_,_,rfl,⟨t2,ht2,rfl,rfl,hO⟩,.e rfl .z,rfl⟩
  ·exact .e rfl (.v (.slt _ (.lst0)) (.e rfl (.z)))
  ·exact⟨trivial,hO⟩
  clear hx;rintro e l H ⟨t19,ht19,rfl,rfl,hO⟩;cbv;cases h;exact hK hO (.ro _ _)
 cbv;replace hO:=hO.tl0 (t:=.nil) rfl;obtain⟨s24,hx,h⟩:=A7 h;refine J9 cf135 hE J6 (γ:=E7) (fun s22 g=>[(1,.v (.eref (E1 aA) 0)),(3,.v (.sl (lst eBh8 s22.1) g)),(8,.v (sr eBh8 r21)),fi 9 s22.2]) (fun s22 g H1=>K6 g∧B6 Eq H0 [.tl g] H1) (fun x e l H1=>∃u1:E7,K6 u1∧e= .exit 4∧l=[(3,.v (.sl (lst eBh8 x) u1))]∧B6 Eq H0 [.tl u1] H1) (by kernel_rfl) ?_ .nil hx ?_ ?_ ?_
 ·rintro s22 t23 H o ⟨ht23,hO⟩ h;cbv;apply G9 hE;cbv;apply B7 hE h<;>intro _ h
  ·cbv;refine D8 hE eBi4 h fun x25 h=>?_;cbv;refine A9 hE h (c175 N aA x25) .z fun r26 h=>?_;cbv;obtain⟨s29,hx,h⟩:=A7 h;refine J9 cf135 hE J6 (γ:=E7) (fun s27 g=>[(1,.v (.eref (E1 aA) 0)),(3,.v (.sl (lst eBh8 s27.1) g)),(8,.v (sr eBh8 r21)),fi 9 s22.2,(10,.v (sr eBh8 r26)),fi 11 s27.2]) (fun s27 g H1=>K6 g∧B6 Eq H0 [.tl g] H1) (fun x e l H1=>∃u1:E7,K6 u1∧e= .exit 6∧l=[(1,.v (.eref (E1 aA) 0)),(3,.v (.sl (lst eBh8 x) u1)),(8,.v (sr eBh8 r21)),fi 9 s22.2]∧B6 Eq H0 [.tl u1] H1) (by kernel_rfl) ?_ t23 hx ?_ ?_ ?_
   ·rintro s27 t28 H o ⟨ht28,hO⟩ h;cbv;apply G9 hE;cbv;apply B7 hE h<;>intro _ h
    ·cbv;refine D8 hE eBi4 h fun x30 h=>?_;cbv;refine VZ hE (f:=eBh8) hO 0 rfl ht28 h (c174 N s27.1 x30) .z .z fun l31 t33 H hO ht33 h=>?_;cbv;cases h;exact⟨_,t33,rfl,.e2 (.e4 .z),rfl,ht33,hO⟩
    cbv;cases h;exact⟨_,_,rfl,⟨t28,ht28,rfl,rfl,hO⟩,.e4 .z,rfl⟩
   ·exact .e2 (.e4 .z)
   ·exact⟨ht23,hO⟩
   clear hx;rintro e l H ⟨t34,ht34,rfl,rfl,hO⟩;cbv;cases h;exact⟨_,t34,rfl,.e4 .z,rfl,ht34,hO⟩
  cbv;cases h;exact⟨_,_,rfl,⟨t23,ht23,rfl,rfl,hO⟩,.e rfl .z,rfl⟩
 ·exact .e rfl (.v (.slt _ (.lst0)) (.e rfl (.e rfl (.z))))
 ·exact⟨trivial,hO⟩
 clear hx;rintro e l H ⟨t35,ht35,rfl,rfl,hO⟩;cbv;cases h;exact hK hO (.ro _ _)
end Go.Ab
