/- GVCo6 GVCo7 -/
import Derived.Test.YtjhobbohibnioaaGreatDoorC15
set_option linter.all false
open Go.Ab.Ar (ar lst)
namespace Go.Ab
open Go.RowKit Go.Proofs Go.Proofs.Tryz I6
variable [Ar][I6]
set_option maxRecDepth 100000
theorem c106 (N aB aD r) (h:Fh N aB aD=some r):B8 prog 106 [(Bn aB),(Bn aD)] (vi r):=by
 unfold Fh at h
 refine N3 cf0 func106 call106 ntmps106 ?_;intro E H0 K hE hK hO;cbv;refine B0 hE h (fun _ h=>?_) fun _ h=>?_
 ·cbv;refine B0 hE h (fun _ h=>?_) fun _ h=>?_
  ·cbv;cases h;exact hK hO (.refl _)
  cbv;cases h;exact hK hO (.refl _)
 cbv;refine B0 hE h (fun _ h=>?_) fun _ h=>?_
 ·cbv;refine B0 hE h (fun _ h=>?_) fun _ h=>?_
  ·cbv;cases h;exact hK hO (.refl _)
  cbv;cases h;exact hK hO (.refl _)
 cbv;refine B0 hE h (fun _ h=>?_) fun _ h=>?_
 ·cbv;cases h;exact hK hO (.refl _)
 cbv;refine B0 hE h (fun _ h=>?_) fun _ h=>?_
 ·cbv;cases h;exact hK hO (.refl _)
 cbv;cases h;exact hK hO (.refl _)
theorem c126 (N aR bH r)(h:Y5 N aR bH=some r):B8 prog 126 [vi aR,vi bH] (.bool r):=by
 unfold Y5 at h
 refine N3 cf0 func126 call126 ntmps126 ?_;intro E H0 K hE hK hO;cbv;cases h;exact hK hO (.refl _)
def cf59 :Cf:=⟨[4],[(10,12)],[],[],[],[]⟩
theorem c59 (N aX r) (h:Dg N aX=some r):B8 prog 59 [(Ee aX)] (vi r):=by
 unfold Dg at h
 refine N3 cf59 func59 call59 ntmps59 ?_;intro E H0 K hE hK hO;cbv;refine F3 hE ?_;cbv;refine B0 hE h (fun _ h=>?_) fun _ h=>?_
 ·cbv;cases h;exact hK hO (.refl _)
 cbv;refine F3 hE ?_;cbv;refine B0 hE h (fun _ h=>?_) fun _ h=>?_
 ·cbv;cases h;exact hK hO (.refl _)
 cbv;refine F3 hE ?_;cbv;obtain⟨s2,hx,h⟩:=bind_some h;refine K1 cf59 hE N4 (fun s1=>[(1,.v (.eref (Gm aX) 0)),(16,.v (sr eZl aX.cO)),fi 17 (Ar.len aX.cO),fi 18 s1]) (fun s1 H1=>B7 Eq H0 [] H1) (fun x e l H1=>match(generalizing:=false) x with| .inl y=>e= .exit 1∧l=[]∧B7 Eq H0 [] H1| .inr y=>e= .ret∧l=[fi 2 y]∧B7 Eq H0 [] H1) (by kernel_rfl) ?_ hx ?_ hO ?_
 ·intro s1 H o hO h;clear hx;cbv;refine B0 hE h (fun _ h=>?_) fun _ h=>?_
  ·cbv;refine D1 hE eZs h fun x3 h=>?_;cbv;refine C6 hE hO fun b4 H hO=>?_;cbv;refine A9 hE hO 0 rfl rfl fun H hO=>?_;cbv;refine A7 hE hO 0 rfl ?_;cbv;refine A8 hE h (c126 N x3.Var 15) (.refl _) fun r5 h=>?_;cbv;refine A7 hE hO 0 rfl ?_;cbv;refine B0 hE h (fun _ h=>?_) fun _ h=>?_
   ·cbv;cases h;exact⟨_,_,rfl,⟨rfl,rfl,hO.tail⟩,.e rfl .z,rfl⟩
   cbv;refine A8 hE h (c126 N x3.Ref.Time 1099511627776) (.refl _) fun r6 h=>?_;cbv;refine A7 hE hO 0 rfl ?_;cbv;refine B0 hE h (fun _ h=>?_) fun _ h=>?_
   ·cbv;cases h;exact⟨_,_,rfl,⟨rfl,rfl,hO.tail⟩,.e rfl .z,rfl⟩
   cbv;refine A8 hE h (c126 N x3.Ref.Source 7) (.refl _) fun r7 h=>?_;cbv;refine A7 hE hO 0 rfl ?_;cbv;refine B0 hE h (fun _ h=>?_) fun _ h=>?_
   ·cbv;cases h;exact⟨_,_,rfl,⟨rfl,rfl,hO.tail⟩,.e rfl .z,rfl⟩
   cbv;refine A8 hE h (c126 N x3.Ref.Seq 1099511627776) (.refl _) fun r8 h=>?_;cbv;refine B0 hE h (fun _ h=>?_) fun _ h=>?_
   ·cbv;cases h;exact⟨_,_,rfl,⟨rfl,rfl,hO.tail⟩,.e rfl .z,rfl⟩
   cbv;refine B0 hE h (fun _ h=>?_) fun _ h=>?_
   ·cbv;refine D1 hE eZs h fun x9 h=>?_;cbv;refine A7 hE hO 0 rfl ?_;cbv;refine A8 hE h (c69 N x9.Ref x3.Ref) (.refl _) fun r10 h=>?_;cbv;refine B0 hE h (fun _ h=>?_) fun _ h=>?_
    ·cbv;cases h;exact⟨_,_,rfl,⟨rfl,rfl,hO.tail⟩,.e rfl .z,rfl⟩
    cbv;cases h;exact⟨_,rfl,.e4 .z,rfl,hO.tail⟩
   cbv;cases h;exact⟨_,rfl,.e4 .z,rfl,hO.tail⟩
  cbv;cases h;exact⟨_,_,rfl,⟨rfl,rfl,hO⟩,.z,rfl⟩
 ·exact .e4 .z
 clear hx
 rcases s2 with y11|y12
 ·rintro e l H ⟨rfl,rfl,hO⟩;cbv;cases h;exact hK hO (.refl _)
 rintro e l H ⟨rfl,rfl,hO⟩;cbv;cases h;exact hK hO (.refl _)
def cf127 :Cf:=⟨[],[(5,6),(8,15)],[],[],[],[]⟩
theorem c127 (N:Nat) (aC:List B5) (bO:L4) (aU:V) (aT:B5→L4→Option Int) (bL:∀y1 y2 q,aT y1 y2=some q→Q6 prog aU [(BJ y1),(Bn y2)] (vi q)) (r:(Int×Bool)) (h:I8 N aC bO aT=some r):B8 prog 127 [sr eZj aC,(Bn bO),aU] (.tup [vi r.1,.bool r.2]):=by
 unfold I8 at h
 refine N3 cf127 func127 call127 ntmps127 ?_;intro E H0 K hE hK hO;cbv;refine F3 hE ?_;cbv;obtain⟨s2,hx,h⟩:=bind_some h;refine K1 cf127 hE N4 (fun s1=>[(0,.v (sr eZj aC)),(2,.v (aU)),(4,.v (.eref (UX bO) 0)),fi 8 (Ar.len aC),fi 9 s1.1,fi 10 s1.2]) (fun s1 H1=>B7 Eq H0 [] H1) (fun x e l H1=>e= .exit 0∧l=[(0,.v (sr eZj aC)),(2,.v (aU)),(4,.v (.eref (UX bO) 0)),fi 8 (Ar.len aC),fi 9 x]∧B7 Eq H0 [] H1) (by kernel_rfl) ?_ hx ?_ hO ?_
 ·intro s1 H o hO h;clear hx;cbv;refine B0 hE h (fun _ h=>?_) fun _ h=>?_
  ·cbv;refine Gb hE (Ea hE rfl) ?_;cbv;refine D1 hE eZm h fun x3 h=>?_;cbv;refine V0 hE (g:=fun r4=>vi r4) h (fun r4 hx=>bL x3 bO r4 hx) (.refl _) fun r4 h=>?_;cbv;refine B0 hE h (fun _ h=>?_) fun _ h=>?_
   ·cbv;cases h;exact⟨_,rfl,.e2 (.e4 .z),rfl,hO⟩
   cbv;cases h;exact⟨_,rfl,.e2 (.e4 .z),rfl,hO⟩
  cbv;cases h;exact⟨_,_,rfl,⟨rfl,rfl,hO⟩,.e rfl (.e4 .z),rfl⟩
 ·exact .e2 (.e4 .z)
 clear hx;rintro e l H ⟨rfl,rfl,hO⟩;cbv;refine B0 hE h (fun _ h=>?_) fun _ h=>?_
 ·cbv;refine D1 hE eZm h fun x5 h=>?_;cbv;refine TX hE (g:=fun r6=>vi r6) h (fun r6 hx=>bL x5 bO r6 hx) (.refl _) fun r6 h=>?_;cbv;cases h;exact hK hO (.refl _)
 cbv;cases h;exact hK hO (.refl _)
def cf128 :Cf:=⟨[],[(1,14)],[],[],[],[]⟩
theorem c128 (N aF bC r)(h:AJ N aF bC=some r):B8 prog 128 [(BJ aF),(Bn bC)] (vi r):=by
 unfold AJ at h
 refine N3 cf128 func128 call128 ntmps128 ?_;intro E H0 K hE hK hO;cbv;refine C9 hE (g:=fun r1=>vi r1) h (c70 N aF.Time bC.Time) (.refl _) fun r1 h=>?_;cbv;refine C9 hE (g:=fun r2=>vi r2) h (c70 N aF.Source bC.Source) (.refl _) fun r2 h=>?_;cbv;refine A8 hE h (c70 N aF.Seq bC.Seq) (.refl _) fun r3 h=>?_;cbv;refine A8 hE h (c68 N ([r1,r2,r3])) (.cons (.lit _ (D7 (rfl) (D7 (rfl) (D7 (rfl) (C1))))) (.refl _)) fun r4 h=>?_;cbv;cases h;exact hK hO (.refl _)
theorem c60 (N aN bC r)(h:BQ N aN bC=some r):B8 prog 60 [sr eZj aN,(Bn bC)] (.tup [vi r.1,.bool r.2.1,vi r.2.2]):=by
 unfold BQ at h
 refine N3 cf0 func60 call60 ntmps60 ?_;intro E H0 K hE hK hO;cbv;refine A8 hE h (c56 N aN) (.refl _) fun r1 h=>?_;cbv;refine B0 hE h (fun _ h=>?_) fun _ h=>?_
 ·cbv;cases h;exact hK hO (.refl _)
 cbv;refine A8 hE (g:=fun r2=>.tup [vi r2.1,.bool r2.2]) h (fun r2 hx=>c127 N aN bC (.func (.func 128) [] []) (fun y1 y2=>AJ N y1 y2) (fun y1 y2 r hx=>B8.value (F:=[]) (C:=[]) (c128 N y1 y2 r hx)) r2 hx) (.refl _) fun r2 h=>?_;cbv;cases h;exact hK hO (.refl _)
theorem c297 (N aG r)(h:BR N aG=some r):Vm prog 297 aG r:=QF Go.Proofs.Tryz.laysNm189 call297 h
theorem c298 (N aG r)(h:Ay N aG=some r):QK prog 298 [] 1 (lst (V.int .i64) aG) (lst (V.int .i64) r):=KV Go.Proofs.Tryz.laysNm220 call298 h
def cf264 :Cf:=⟨[3,5000003],[],[],[],[],[]⟩
theorem c264 (N aA r) (h:Dz N aA=some r):B8 prog 264 [(C4 aA)] (sr (V.int .i64) r):=by
 unfold Dz at h
 refine Bd (T:=TT) cf264 N4 func264 (by rfl) (by kernel_rfl) call264 ntmps264 (by rfl) (by rfl) ?_;intro E H0 K hE hK hF;have hO:B7 Eq H0 [] H0:=.start F5 rfl;cbv;refine Ou hE (f0:=(V.int .i64)) hO fun q2 b1 H hq2 hO=>?_;cbv;refine Df hE h (c157 N aA) (.refl _) fun r3 v4 hv4 h=>?_;cbv;obtain⟨o10,hx,h⟩:=bind_some h;refine HJ cf264 hE N4 (ι:=Unit) (enc:=fun(x:A1)=>[(C4 x)]) (fun(s6:(List Int)) F H=>∃g:OG,(T7 g (Ar.len s6))∧B7 Eq F [cb b1 [.own g.id g.lo g.n],ob g 1 (V.int .i64) s6] H) (fun(r:Unit) e F H=>False) (fun i s6 y5=>[(3,.v (.ref b1 0)),(4,.v (.eref (C7 y5) 0))]) (fun i s6 y5 F H=>∃g:OG,(T7 g (Ar.len s6))∧B7 Eq F [cb b1 [.own g.id g.lo g.n],ob g 1 (V.int .i64) s6] H) (fun _=>D2.ex fun _=>B7.stable F5 _) (fun _ _=>⟨fun h=>h.elim,fun _ _ h=>h.elim⟩) (fun _ _ _=>D2.ex fun _=>B7.stable F5 _) hv4 hx (⟨q2,hq2,hO⟩) (by decide) (fun _=>rfl) (by kernel_rfl) (by kernel_rfl) ?_ ?_ ?_ ?_
 ·rintro E i8 y5 s6 F7 H hE ⟨q9,hq9,hO⟩;clear hx h;cbv;exact⟨(),⟨q9,hq9,hO⟩,.e2 .z,rfl⟩
 ·rintro E i8 _ y5 s6 F7 H o hE hF h ⟨q9,hq9,hO⟩;clear hx;cbv;refine B0 hE h (fun _ h=>?_) fun _ h=>?_
  ·cbv;refine A7 hE hO 0 rfl ?_;cbv;refine MP (f:=(V.int .i64)) hE (fun _=>rfl) (by decide) hO hq9 1 rfl (m:=[y5.Var]) (Il (f:=(V.int .i64)) hE (fun _=>rfl) (.lstc (.refl _) (.lst0))) h fun l12 q11 H hq11 hO h=>?_;cbv;refine A9 hE hO 0 rfl rfl fun H hO=>?_;cbv;cases h;exact⟨_,rfl,⟨q11,hq11,hO⟩⟩
  cbv;cases h;exact⟨_,rfl,⟨q9,hq9,hO⟩⟩
 ·rintro d13 s16 H rfl hd ⟨q17,hq17,hO⟩;have hO:B7 Eq H0 [cb b1 [.own q17.id q17.lo q17.n],ob q17 1 (V.int .i64) s16,.blk d13 DB] H:=B7.dblk hd hO;clear hd;clear hx;cbv;refine A7 hE hO 0 rfl ?_;cbv;refine VY hE hO hq17 1 rfl h (c297 N s16) fun l18 H hq17 hO h=>?_;cbv;refine A7 hE hO 0 rfl ?_;cbv;refine Uf hE (f:=(V.int .i64)) hO hq17 1 rfl h (c298 N l18) (.refl _) fun l19 q20 H hq20 hO h=>?_;cbv;refine DR hE hO 2 rfl fun H hO=>?_;cbv;cases h;exact hF q20 _ _ 1 _ _ hO rfl (AO hE hq20) (.refl _)
 rintro d r e H rfl hd hO;exact hO.elim
theorem c299 (N aG aJ r) (h:W1 N aG aJ=some r):B8 prog 299 [sr (V.int .i64) aG,vi aJ] (vi r):=by
 unfold W1 at h
 refine N3 cf0 func299 call299 ntmps299 ?_;intro E H0 K hE hK hO;cbv;refine F3 hE ?_;cbv;obtain⟨s2,hx,h⟩:=bind_some h;refine K1 cf0 hE N4 (fun s1=>[(0,.v (sr (V.int .i64) aG)),fi 1 aJ,fi 7 (Ar.len aG),fi 8 s1]) (fun s1 H1=>B7 Eq H0 [] H1) (fun x e l H1=>match(generalizing:=false) x with| .inl y=>e= .exit 0∧l=[]∧B7 Eq H0 [] H1| .inr y=>e= .ret∧l=[fi 4 y]∧B7 Eq H0 [] H1) (by kernel_rfl) ?_ hx ?_ hO ?_
 ·intro s1 H o hO h;clear hx;cbv;refine B0 hE h (fun _ h=>?_) fun _ h=>?_
  ·cbv;refine D1 hE (fun _=>rfl) h fun x3 h=>?_;cbv;refine B0 hE h (fun _ h=>?_) fun _ h=>?_
   ·cbv;cases h;exact⟨_,_,rfl,⟨rfl,rfl,hO⟩,.e rfl .z,rfl⟩
   cbv;cases h;exact⟨_,rfl,.e4 .z,rfl,hO⟩
  cbv;cases h;exact⟨_,_,rfl,⟨rfl,rfl,hO⟩,.z,rfl⟩
 ·exact .e4 .z
 clear hx
 rcases s2 with y4|y5
 ·rintro e l H ⟨rfl,rfl,hO⟩;cbv;cases h;exact hK hO (.refl _)
 rintro e l H ⟨rfl,rfl,hO⟩;cbv;cases h;exact hK hO (.refl _)
theorem c265 (N aG aJ r)(h:S2 N aG aJ=some r):B8 prog 265 [sr (V.int .i64) aG,vi aJ] (.bool r):=by
 unfold S2 at h
 refine N3 cf0 func265 call265 ntmps265 ?_;intro E H0 K hE hK hO;cbv;refine A8 hE h (c299 N aG aJ) (.refl _) fun r1 h=>?_;cbv;cases h;exact hK hO (.refl _)
theorem c224 (N aA aG r) (h:Bc N aA aG=some r):B8 prog 224 [(C4 aA),sr eZh aG] (sr eZh r):=by
 unfold Bc at h
 refine N3 cf0 func224 call224 ntmps224 ?_;intro E H0 K hE hK hO;cbv;refine A8 hE h (c264 N aA) (.refl _) fun r1 h=>?_;cbv;refine F3 hE ?_;cbv;replace hO:=hO.tl0 (t:=.nil) rfl;obtain⟨s4,hx,h⟩:=bind_some h;refine Q7 cf0 hE N4 (γ:=E5) (fun s2 g=>[(5,.v (sr (V.int .i64) r1)),(6,.v (.sl (lst eZh s2.1) g)),(11,.v (sr eZh aG)),fi 12 (Ar.len aG),fi 13 s2.2]) (fun s2 g H1=>Bl g∧B7 Eq H0 [.tl g] H1) (fun x e l H1=>∃u1:E5,Bl u1∧e= .exit 0∧l=[(6,.v (.sl (lst eZh x) u1))]∧B7 Eq H0 [.tl u1] H1) (by kernel_rfl) ?_ .nil hx ?_ ?_ ?_
 ·rintro s2 t3 H o ⟨ht3,hO⟩ h;clear hx;cbv;refine B0 hE h (fun _ h=>?_) fun _ h=>?_
  ·cbv;refine D1 hE eZq h fun x5 h=>?_;cbv;refine A8 hE h (c265 N r1 x5.v) (.refl _) fun r6 h=>?_;cbv;refine B0 hE h (fun _ h=>?_) fun _ h=>?_
   ·cbv;refine Et (f:=eZh) hE M7 (by decide) hO 0 rfl ht3 (l:=s2.1) (m:=[x5]) (.refl _) (.lstc (.eq (eZq x5) (.refl _)) (.lst0)) h fun l8 t7 H hO ht7 h=>?_;cbv;cases h;exact⟨_,t7,rfl,.e rfl (.e4 .z),rfl,ht7,hO⟩
   cbv;cases h;exact⟨_,t3,rfl,.e rfl (.e4 .z),rfl,ht3,hO⟩
  cbv;cases h;exact⟨_,_,rfl,⟨t3,ht3,rfl,rfl,hO⟩,.e rfl .z,rfl⟩
 ·exact .e rfl (.v (.slt _ (.lst0)) (.e rfl (.e rfl (.e rfl (.z)))))
 ·exact⟨trivial,hO⟩
 clear hx;rintro e l H ⟨t9,ht9,rfl,rfl,hO⟩;cbv;cases h;exact hK hO (.ro _ _)
def cf61 :Cf:=⟨[10],[(1,17),(2,11),(6,6)],[],[],[],[]⟩
def Yr (N n:Nat):Prop:=∀(aC:F2) (aO:List (B2×A5)) (aA:A1) (aL:Int) (aG:List A3) (aH:List A3) (r:(A5×List (B2×A5))),E6 N n aC aO aA aL aG aH=some r→FO prog 61 (fun id=>[.eref [sr eZj aC.prover.cN,vi aC.prover.count,.map id] 0,(C4 aA),vi aL,sr eZh aG,sr eZh aH]) eZr eZu aO ((D8 r.1)) r.2
def cf129 :Cf:=⟨[10,10000010],[(3,22),(4,14),(14,10)],[(81,12)],[0],[],[]⟩
def Yj (N n:Nat):Prop:=∀(aC:F2) (aO:List (B2×A5)) (aA:A1) (aL:Int) (aG:List A3) (aH:List A3) (r:(A5×List (B2×A5))),P0 N n aC aO aA aL aG aH=some r→FO prog 129 (fun id=>[.eref [sr eZj aC.prover.cN,vi aC.prover.count,.map id] 0,(C4 aA),vi aL,sr eZh aG,sr eZh aH]) eZr eZu aO ((D8 r.1)) r.2
def cf169 :Cf:=⟨[],[(15,7),(3000012,0),(3000012,1),(3000012,2),(3000012,4),(3000012,5),(3000012,6),(3000012,7),(3000012,8),(3000012,9),(3000012,11),(3000012,12),(3000012,13),(3000014,0),(3000014,1),(3000014,2),(3000014,3),(3000014,4),(3000014,5),(3000014,7),(3000014,8),(3000014,10)],[],[2000012,2000014],[],[]⟩
def Yi (N n:Nat):Prop:=∀(aC:F2) (aO:List (B2×A5)) (aA:A1) (aL:Int) (aG:List A3) (aH:List A3) (r:(((List A2)×Bool)×List (B2×A5))),K5 N n aC aO aA aL aG aH=some r→FO prog 169 (fun id=>[.eref [sr eZj aC.prover.cN,vi aC.prover.count,.map id] 0,(C4 aA),vi aL,sr eZh aG,sr eZh aH]) eZr eZu aO (.tup [sr eZi r.1.1,.bool r.1.2]) r.2
def cf170 :Cf:=⟨[10,12,10000010],[],[],[],[],[]⟩
def Yh (N n:Nat):Prop:=∀(aC:F2) (aO:List (B2×A5)) (aA:A1) (aL:Int) (aG:List A3) (aH:List A3) (r:(A5×List (B2×A5))),N1 N n aC aO aA aL aG aH=some r→FO prog 170 (fun id=>[.eref [sr eZj aC.prover.cN,vi aC.prover.count,.map id] 0,(C4 aA),vi aL,sr eZh aG,sr eZh aH]) eZr eZu aO ((D8 r.1)) r.2
def cf171 :Cf:=⟨[10],[],[(61,15)],[],[],[]⟩
def Yg (N n:Nat):Prop:=∀(aC:F2) (aO:List (B2×A5)) (aA:A1) (aL:Int) (aG:List A3) (aH:List A3) (r:(A5×List (B2×A5))),O1 N n aC aO aA aL aG aH=some r→FO prog 171 (fun id=>[.eref [sr eZj aC.prover.cN,vi aC.prover.count,.map id] 0,(C4 aA),vi aL,sr eZh aG,sr eZh aH]) eZr eZu aO ((D8 r.1)) r.2
theorem k61 (N n:Nat)(ih129:Yj N n):Yr N (n+1):=by
 intro aC aO aA aL aG aH r h
 unfold E6 at h
 refine CT (T:=TT) cf61 N4 func61 (by rfl) (by kernel_rfl) call61 ntmps61 (by rfl) (fun _=>rfl) ?_;intro E H0 id0 o0 K hE ho0 hO hK;cbv;refine C6 hE hO fun b1 H hO=>?_;cbv;refine D1 hE eZq h fun x2 h=>?_;cbv;refine F3 hE ?_;cbv;refine D1 hE eZq h fun x3 h=>?_;cbv;refine F3 hE ?_;cbv;refine Qf (eZI (⟨aL,x2.at_,x3.at_,Ar.len aH⟩:B2)) ?_;refine VU hE (z:=.agg [vi 0,vi 0,vi 0,vi 0,.sl [] .nil,.bool false]) eZH (kt:=178) (et:=115) (by kernel_rfl) (by kernel_rfl) Xk ((⟨(⟨(⟨0,0,0⟩:L4),0,[]⟩:A2),false⟩:A5):A5) (by kernel_rfl) (by rw[eZH];exact .agg (.cons (.refl _) (.cons (.refl _) (.cons (.refl _) (.cons (.refl _) (.cons (.lit _ (C1)) (.refl _))))))) hO ho0 1 rfl h fun r4 h=>?_;cbv;refine B0 hE h (fun _ h=>?_) fun _ h=>?_
 ·cbv;refine A9 hE hO 0 rfl rfl fun H hO=>?_;cbv;refine A7 hE hO 0 rfl ?_;cbv;cases h;exact hK _ _ _ 1 _ ho0 rfl hO (.refl _)
 cbv;refine X2 (g:=fun r5=>(D8 r5)) hE hO ho0 1 rfl h (ih129 aC aO aA aL aG aH) (.refl _) fun r5 o6 H ho6 hO h=>?_;cbv;refine MQ (eZI (⟨aL,x2.at_,x3.at_,Ar.len aH⟩:B2)) ?_;refine XE hE (eZH _).symm (kt:=178) (et:=115) (by kernel_rfl) (by kernel_rfl) Xk hO ho6 1 rfl h fun l8 o7 H ho7 h hO=>?_;cbv;refine A9 hE hO 0 rfl rfl fun H hO=>?_;cbv;refine A7 hE hO 0 rfl ?_;cbv;cases h;exact hK _ _ _ 1 _ ho7 rfl hO (.refl _)
theorem k129 (N n:Nat) (ih61:Yr N n) (ih169:Yi N n) (ih170:Yh N n) (ih171:Yg N n):Yj N (n+1):=by
 intro aC aO aA aL aG aH r h
 unfold P0 at h
 refine CT (T:=TT) cf129 N4 func129 (by rfl) (by kernel_rfl) call129 ntmps129 (by rfl) (fun _=>rfl) ?_;intro E H0 id0 o0 K hE ho0 hO hK;cbv;refine C6 hE hO fun b1 H hO=>?_;cbv;refine Xj hE (ds:=[vi 0,vi 0,vi 0,vi 0,sr eZi ([]),.bool false]) hO 0 rfl (.cons (.refl _) (.cons (.refl _) (.cons (.refl _) (.cons (.refl _) (.cons (.lit _ (C1)) (.refl _)))))) fun H hO=>?_;cbv;obtain⟨s2,hx,h⟩:=bind_some h;refine M1 cf129 hE N4 (fun e l H1=>match(generalizing:=false) s2 with| .inl y=>e= .normal∧l=[(0,.v (.eref [sr eZj aC.prover.cN,vi aC.prover.count,.map id0] 0)),fi 2 aL,(3,.v (sr eZh aG)),(4,.v (sr eZh aH)),(6,.v (.eref (C7 aA) 0)),(10,.v (.ref b1 0))]∧B7 Eq (upd H0 id0 none) [cb b1 [vi 0,vi 0,vi 0,vi 0,sr eZi ([]),.bool false],.blk id0 (.vm o0.1 o0.2)] H1| .inr y=>∃u1:(List Value×List V),IG eZr eZu u1 y.2∧e= .ret∧l=[(10,.v (.ref b1 0))]∧B7 Eq (upd H0 id0 none) [cb b1 (K3 y.1),.blk id0 (.vm u1.1 u1.2)] H1) (by kernel_rfl) ?_ ?_
 ·clear h;have h:=hx;clear hx;cbv;refine B0 hE h (fun _ h=>?_) fun _ h=>?_
  ·cbv;refine F3 hE ?_;cbv;refine B0 hE h (fun _ h=>?_) fun _ h=>?_
   ·cbv;refine D1 hE eZq h fun x3 h=>?_;cbv;refine B0 hE h (fun _ h=>?_) fun _ h=>?_
    ·cbv;refine D1 hE eZq h fun x4 h=>?_;cbv;refine A8 hE h (c139 N aC.prover aA aH x4.at_) (.cons (.sub (d:=0) (sz:=2) (Nat.le_of_ble_eq_true rfl)) (.refl _)) fun r5 h=>?_;cbv;refine D1 hE eZq h fun x6 h=>?_;cbv;refine D1 hE eZm h fun x7 h=>?_;cbv;refine C9 hE (g:=fun r8=>(Bn r8)) h (c116 N x7) (.refl _) fun r8 h=>?_;cbv;refine BT hE (vs':=[vi r8.Time,vi r8.Source,vi r8.Seq,vi 0,sr eZi ([]),.bool r5]) hO 0 rfl rfl (.cons (.refl _) (.cons (.refl _) (.cons (.refl _) (.cons (.refl _) (.cons (.lit _ (C1)) (.refl _)))))) fun H hO=>?_;cbv;cases h;exact⟨_,⟨o0,ho0,rfl,rfl,hO⟩,.e rfl .z,rfl⟩
    cbv;refine D1 hE eZq h fun x9 h=>?_;cbv;refine D1 hE eZm h fun x10 h=>?_;cbv;refine C9 hE (g:=fun r11=>(Bn r11)) h (c116 N x10) (.refl _) fun r11 h=>?_;cbv;refine BT hE (vs':=[vi r11.Time,vi r11.Source,vi r11.Seq,vi 0,sr eZi ([]),.bool false]) hO 0 rfl rfl (.cons (.refl _) (.cons (.refl _) (.cons (.refl _) (.cons (.refl _) (.cons (.lit _ (C1)) (.refl _)))))) fun H hO=>?_;cbv;cases h;exact⟨_,⟨o0,ho0,rfl,rfl,hO⟩,.e rfl .z,rfl⟩
   cbv;refine D1 hE eZq h fun x12 h=>?_;cbv;refine D1 hE eZm h fun x13 h=>?_;cbv;refine C9 hE (g:=fun r14=>(Bn r14)) h (c116 N x13) (.refl _) fun r14 h=>?_;cbv;refine BT hE (vs':=[vi r14.Time,vi r14.Source,vi r14.Seq,vi 0,sr eZi ([]),.bool false]) hO 0 rfl rfl (.cons (.refl _) (.cons (.refl _) (.cons (.refl _) (.cons (.refl _) (.cons (.lit _ (C1)) (.refl _)))))) fun H hO=>?_;cbv;cases h;exact⟨_,⟨o0,ho0,rfl,rfl,hO⟩,.e rfl .z,rfl⟩
  cbv;refine B0 hE h (fun _ h=>?_) fun _ h=>?_
  ·cbv;refine X2 (g:=fun r15=>.tup [sr eZi r15.1,.bool r15.2]) hE hO ho0 1 rfl h (ih169 aC aO aA aL aG aH) (.refl _) fun r15 o16 H ho16 hO h=>?_;cbv;refine A9 hE hO 0 rfl rfl fun H hO=>?_;cbv;cases h;exact⟨_,⟨o16,ho16,rfl,rfl,hO⟩,.e rfl .z,rfl⟩
  cbv;refine B0 hE h (fun _ h=>?_) fun _ h=>?_
  ·cbv;refine X2 (g:=fun r17=>(D8 r17)) hE hO ho0 1 rfl h (ih170 aC aO aA aL aG aH) (.refl _) fun r17 o18 H ho18 hO h=>?_;cbv;refine A9 hE hO 0 rfl rfl fun H hO=>?_;cbv;cases h;exact⟨_,⟨o18,ho18,rfl,rfl,hO⟩,.e rfl .z,rfl⟩
  cbv;obtain⟨s19,hx,h⟩:=bind_some h;refine M1 cf129 hE N4 (fun e l H1=>e= .normal∧l=[(0,.v (.eref [sr eZj aC.prover.cN,vi aC.prover.count,.map id0] 0)),fi 2 aL,(3,.v (sr eZh aG)),(4,.v (sr eZh aH)),(6,.v (.eref (C7 aA) 0)),(10,.v (.ref b1 0)),(81,.v (.bool s19))]∧B7 Eq (upd H0 id0 none) [cb b1 [vi 0,vi 0,vi 0,vi 0,sr eZi ([]),.bool false],.blk id0 (.vm o0.1 o0.2)] H1) (by kernel_rfl) ?_ ?_
  ·clear h;have h:=hx;clear hx;cbv;refine B0 hE h (fun _ h=>?_) fun _ h=>?_
   ·cbv;cases h;exact⟨_,⟨rfl,rfl,hO⟩,.e rfl (.e2 (.e4 .z)),rfl⟩
   cbv;cases h;exact⟨_,⟨rfl,rfl,hO⟩,.e rfl (.e2 (.e4 .z)),rfl⟩
  clear hx;rintro e l H ⟨rfl,rfl,hO⟩;cbv;refine B0 hE h (fun _ h=>?_) fun _ h=>?_
  ·cbv;refine X2 (g:=fun r20=>(D8 r20)) hE hO ho0 1 rfl h (ih171 aC aO aA aL aG aH) (.refl _) fun r20 o21 H ho21 hO h=>?_;cbv;refine A9 hE hO 0 rfl rfl fun H hO=>?_;cbv;cases h;exact⟨_,⟨o21,ho21,rfl,rfl,hO⟩,.e rfl .z,rfl⟩
  cbv;cases h;exact⟨_,⟨rfl,rfl,hO⟩,.e2 (.e4 .z),rfl⟩
 clear hx
 rcases s2 with y22|y27
 ·rintro e l H ⟨rfl,rfl,hO⟩;cbv;refine D1 hE eZp h fun x23 h=>?_;cbv;refine X2 (g:=fun r24=>(D8 r24)) hE hO ho0 1 rfl h (ih61 aC aO x23 (ar .add .i64 aL 1) aG aH) (.refl _) fun r24 o25 H ho25 hO h=>?_;cbv;refine B0 hE h (fun _ h=>?_) fun _ h=>?_
  ·cbv;refine BT hE (vs':=[vi 0,vi 0,vi 0,vi 0,sr eZi ([]),.bool false]) hO 0 rfl rfl (.cons (.refl _) (.cons (.refl _) (.cons (.refl _) (.cons (.refl _) (.cons (.lit _ (C1)) (.refl _)))))) fun H hO=>?_;cbv;refine A7 hE hO 0 rfl ?_;cbv;cases h;exact hK _ _ _ 1 _ ho25 rfl hO (.refl _)
  cbv;refine A8 hE h (c143 N aC.prover aA aH aG) (.cons (.sub (d:=0) (sz:=2) (Nat.le_of_ble_eq_true rfl)) (.refl _)) fun r26 h=>?_;cbv;refine B0 hE h (fun _ h=>?_) fun _ h=>?_
  ·cbv;refine BT hE (vs':=[vi 0,vi 0,vi 0,vi 0,sr eZi ([]),.bool false]) hO 0 rfl rfl (.cons (.refl _) (.cons (.refl _) (.cons (.refl _) (.cons (.refl _) (.cons (.lit _ (C1)) (.refl _)))))) fun H hO=>?_;cbv;refine A7 hE hO 0 rfl ?_;cbv;cases h;exact hK _ _ _ 1 _ ho25 rfl hO (.refl _)
  cbv;refine BT hE (vs':=[vi 0,vi 0,vi 0,vi 0,sr eZi ([r24.1.d]),.bool true]) hO 0 rfl rfl (.cons (.refl _) (.cons (.refl _) (.cons (.refl _) (.cons (.refl _) (.cons (.lit _ (D7 ((eZk r24.1.d).symm) (C1))) (.refl _)))))) fun H hO=>?_;cbv;refine A7 hE hO 0 rfl ?_;cbv;cases h;exact hK _ _ _ 1 _ ho25 rfl hO (.refl _)
 rintro e l H ⟨q28,hq28,rfl,rfl,hO⟩;cbv;refine A7 hE hO 0 rfl ?_;cbv;cases h;exact hK _ _ _ 1 _ hq28 rfl hO (.refl _)
set_option maxHeartbeats 2000000 in
theorem k169 (N n:Nat) (ih61:Yr N n):Yi N (n+1):=by
 intro aC aO aA aL aG aH r h
 unfold K5 at h
 refine CT (T:=TT) cf169 N4 func169 (by rfl) (by kernel_rfl) call169 ntmps169 (by rfl) (fun _=>rfl) ?_;intro E H0 id0 o0 K hE ho0 hO hK;cbv;refine F3 hE ?_;cbv;refine Re hE (f:=eZv) (by decide) (z0:=([]:List A2)) ((.eq (eZB _) (.lit _ (C1)))) hO h fun l2 q1 H hq1 h hO=>?_;cbv;refine Re hE (f:=V.bool) (by decide) (z0:=(false:Bool)) ((.refl _)) hO h fun l4 q3 H hq3 h hO=>?_;cbv;refine Q4 hE hO hq3 0 rfl h fun h=>?_;cbv;refine AP hE (f:=V.bool) (esz:=1) (tz:=1) (off:=0) (u:=(fun x5:Bool=>true)) (fun _=>⟨.bool true,.refl _,rfl,rfl,rfl⟩) (by decide) hO hq3 0 rfl h fun l6 H hq3 h hO=>?_;cbv;obtain⟨s11,hx,h⟩:=bind_some h;refine Q7 cf169 hE N4 (γ:=OG×OG×(List Value×List V)) (fun s7 g=>[(0,.v (.eref [sr eZj aC.prover.cN,vi aC.prover.count,.map id0] 0)),fi 2 aL,(3,.v (sr eZh aG)),(4,.v (sr eZh aH)),(6,.v (.eref (C7 aA) 0)),fi 12 (Ar.len aG),(13,.v (.own g.2.1.id g.2.1.lo g.2.1.n)),(14,.v (.own g.1.id g.1.lo g.1.n)),fi 15 s7.1]) (fun s7 g H1=>T7 g.1 (Ar.len s7.2.1)∧T7 g.2.1 (Ar.len s7.2.2.1)∧IG eZr eZu g.2.2 s7.2.2.2∧B7 Eq (upd H0 id0 none) [.blk g.1.id (.arr 1 (g.1.pre++lst V.bool s7.2.1++g.1.rest)),.blk g.2.1.id (.arr 1 (g.2.1.pre++lst eZv s7.2.2.1++g.2.1.rest)),.blk id0 (.vm g.2.2.1 g.2.2.2)] H1) (fun x e l H1=>∃u1:OG,T7 u1 (Ar.len x.1)∧∃u2:OG,T7 u2 (Ar.len x.2.1)∧∃u3:(List Value×List V),IG eZr eZu u3 x.2.2∧e= .exit 0∧l=[(13,.v (.own u2.id u2.lo u2.n)),(14,.v (.own u1.id u1.lo u1.n))]∧B7 Eq (upd H0 id0 none) [ob u1 1 V.bool x.1,ob u2 1 eZv x.2.1,.blk id0 (.vm u3.1 u3.2)] H1) (by kernel_rfl) ?_ (⟨q3,q1,o0⟩) hx ?_ ?_ ?_
 ·rintro s7 ⟨q8,q9,q10⟩ H o ⟨hq8,hq9,hq10,hO⟩ h;clear hx;cbv;refine B0 hE h (fun _ h=>?_) fun _ h=>?_
  ·cbv;obtain⟨s16,hx,h⟩:=bind_some h;refine Q7 cf169 hE N4 (γ:=OG×OG×(List Value×List V)) (fun s12 g=>[(0,.v (.eref [sr eZj aC.prover.cN,vi aC.prover.count,.map id0] 0)),fi 2 aL,(3,.v (sr eZh aG)),(4,.v (sr eZh aH)),(6,.v (.eref (C7 aA) 0)),fi 12 (Ar.len aG),(13,.v (.own g.2.1.id g.2.1.lo g.2.1.n)),(14,.v (.own g.1.id g.1.lo g.1.n)),fi 15 s7.1,fi 16 s12.1]) (fun s12 g H1=>T7 g.1 (Ar.len s12.2.1)∧T7 g.2.1 (Ar.len s12.2.2.1)∧IG eZr eZu g.2.2 s12.2.2.2∧B7 Eq (upd H0 id0 none) [.blk g.1.id (.arr 1 (g.1.pre++lst V.bool s12.2.1++g.1.rest)),.blk g.2.1.id (.arr 1 (g.2.1.pre++lst eZv s12.2.2.1++g.2.1.rest)),.blk id0 (.vm g.2.2.1 g.2.2.2)] H1) (fun x e l H1=>∃u1:OG,T7 u1 (Ar.len x.1)∧∃u2:OG,T7 u2 (Ar.len x.2.1)∧∃u3:(List Value×List V),IG eZr eZu u3 x.2.2∧e= .exit 2∧l=[(0,.v (.eref [sr eZj aC.prover.cN,vi aC.prover.count,.map id0] 0)),fi 2 aL,(3,.v (sr eZh aG)),(4,.v (sr eZh aH)),(6,.v (.eref (C7 aA) 0)),fi 12 (Ar.len aG),(13,.v (.own u2.id u2.lo u2.n)),(14,.v (.own u1.id u1.lo u1.n)),fi 15 s7.1]∧B7 Eq (upd H0 id0 none) [ob u1 1 V.bool x.1,ob u2 1 eZv x.2.1,.blk id0 (.vm u3.1 u3.2)] H1) (by kernel_rfl) ?_ (⟨q8,q9,q10⟩) hx ?_ ?_ ?_
   ·rintro s12 ⟨q13,q14,q15⟩ H o ⟨hq13,hq14,hq15,hO⟩ h;clear hx;cbv;refine B0 hE h (fun _ h=>?_) fun _ h=>?_
    ·cbv;refine Q4 hE hO hq13 0 rfl h fun h=>?_;cbv;refine U9 hE (fun _=>rfl) hO hq13 0 rfl h fun x17 h=>?_;cbv;refine B0 hE h (fun _ h=>?_) fun _ h=>?_
     ·cbv;refine Q4 hE hO hq13 0 rfl h fun h=>?_;cbv;refine U9 hE (fun _=>rfl) hO hq13 0 rfl h fun x18 h=>?_;cbv;refine B0 hE h (fun _ h=>?_) fun _ h=>?_
      ·cbv;cases h;exact⟨_,⟨q13,q14,q15⟩,rfl,.e2 (.e4 (.e4 .z)),rfl,hq13,hq14,hq15,hO⟩
      cbv;obtain⟨s19,hx,h⟩:=bind_some h;refine M1 cf169 hE N4 (fun e l H1=>∃u1:Nat,True∧∃u2:(List Value×List V),IG eZr eZu u2 s19.2∧e= .normal∧l=[(0,.v (.eref [sr eZj aC.prover.cN,vi aC.prover.count,.map id0] 0)),fi 2 aL,(3,.v (sr eZh aG)),(4,.v (sr eZh aH)),(6,.v (.eref (C7 aA) 0)),fi 12 (Ar.len aG),(13,.v (.own q14.id q14.lo q14.n)),(14,.v (.own q13.id q13.lo q13.n)),fi 15 s7.1,fi 16 s12.1,(17,.v (.ref u1 0))]∧B7 Eq (upd H0 id0 none) [cb u1 (K3 s19.1),ob q13 1 V.bool s12.2.1,ob q14 1 eZv s12.2.2.1,.blk id0 (.vm u2.1 u2.2)] H1) (by kernel_rfl) ?_ ?_
      ·clear h;have h:=hx;clear hx;cbv;obtain⟨x140,ex140,h⟩:=bind_some h;obtain⟨l420,el420,h⟩:=bind_some h;obtain⟨l580,el580,h⟩:=bind_some h;obtain⟨r620,er620,h⟩:=bind_some h;obtain⟨r660,er660,h⟩:=bind_some h
       repeat' first|refine And.intro ?_ ?_|(refine D1 hE eZp (P6 ex140) fun x140 hh=>?_;obtain rfl:=G0 hh;cbv)|(refine HI hE (f:=eZh) M7 (P6 el420) fun l420 t421 hh=>?_;obtain rfl:=G0 hh;cbv)|(refine HI hE (f:=eZh) M7 (P6 el580) fun l580 t581 hh=>?_;obtain rfl:=G0 hh;cbv)|(refine A8 hE (g:=fun r620=>sr eZh r620) (P6 er620) (c140 N aH l580) (.cons (.refl _) (.cons (.ro _ _) (.refl _))) fun r620 hh=>?_;obtain rfl:=G0 hh;cbv)|(refine X2 (g:=fun r660=>(D8 r660)) hE hO hq15 2 rfl (P6 er660) (ih61 aC s12.2.2.2 x140 (ar .add .i64 aL 1) l420 r620) (.cons (.refl _) (.cons (.refl _) (.cons (.refl _) (.cons (.ro _ _) (.refl _))))) fun r660 o661 H ho661 hO hh=>?_;obtain rfl:=G0 hh;cbv)|(refine C6 hE hO fun b700 H hO=>?_;cbv)|(refine A9 hE hO 0 rfl rfl fun H hO=>?_;cbv)|(have h:=G0 h;subst h;exact⟨_,⟨b700,trivial,o661,ho661,rfl,rfl,hO⟩,.e rfl (.e2 (.e4 (.e4 .z))),rfl⟩)|(refine X2 (g:=fun r660=>(D8 r660)) hE hO hq15 3 rfl (P6 er660) (ih61 aC s12.2.2.2 x140 (ar .add .i64 aL 1) l420 r620) (.cons (.refl _) (.cons (.refl _) (.cons (.refl _) (.cons (.ro _ _) (.refl _))))) fun r660 o661 H ho661 hO hh=>?_;obtain rfl:=G0 hh;cbv)
      clear hx;rintro e l H ⟨b820,hb820,q821,hq821,rfl,rfl,hO⟩;cbv;refine A7 hE hO 0 rfl ?_;cbv;refine B0 hE h (fun _ h=>?_) fun _ h=>?_
      ·cbv;obtain⟨s822,hx,h⟩:=bind_some h;refine M1 cf169 hE N4 (fun e l H1=>∃u1:OG,T7 u1 (Ar.len s822.1)∧∃u2:OG,T7 u2 (Ar.len s822.2)∧e= .normal∧l=[(0,.v (.eref [sr eZj aC.prover.cN,vi aC.prover.count,.map id0] 0)),fi 2 aL,(3,.v (sr eZh aG)),(4,.v (sr eZh aH)),(6,.v (.eref (C7 aA) 0)),fi 12 (Ar.len aG),(13,.v (.own u2.id u2.lo u2.n)),(14,.v (.own u1.id u1.lo u1.n)),fi 15 s7.1,fi 16 s12.1]∧B7 Eq (upd H0 id0 none) [cb b820 (K3 s19.1),ob u1 1 V.bool s822.1,ob u2 1 eZv s822.2,.blk id0 (.vm q821.1 q821.2)] H1) (by kernel_rfl) ?_ ?_
       ·clear h;have h:=hx;clear hx;cbv;obtain⟨u1182_0,eu1182_0,h⟩:=bind_some h;obtain⟨x1223,ex1223,h⟩:=bind_some h;obtain⟨l1264,el1264,h⟩:=bind_some h;obtain⟨u1302_0,eu1302_0,h⟩:=bind_some h;obtain⟨l1344,el1344,h⟩:=bind_some h;obtain⟨u1382_0,eu1382_0,h⟩:=bind_some h;obtain⟨l1424,el1424,h⟩:=bind_some h
        repeat' first|refine And.intro ?_ ?_|(refine A7 hE hO 0 rfl ?_;cbv)|(refine Q4 hE hO hq14 2 rfl (P6 eu1182_0) fun hh=>?_;clear hh;cbv)|(refine U9 hE eZB hO hq14 2 rfl (P6 ex1223) fun x1223 hh=>?_;obtain rfl:=G0 hh;cbv)|(refine Et (f:=eZi) hE J6 (by decide) (hO.tl0 (t:=.full) rfl) 0 rfl trivial (l:=[s19.1.d]) (m:=x1223) (.lstc (.eq (eZk s19.1.d) (.refl _)) (.lst0)) (.refl _) (P6 el1264) fun l1264 t1263 H hO ht1263 hh=>?_;obtain rfl:=G0 hh;cbv)|(refine Q4 hE hO hq14 3 rfl (P6 eu1302_0) fun hh=>?_;clear hh;cbv)|(refine AP hE (f:=eZv) (esz:=1) (tz:=1) (off:=0) (u:=(fun x1343:List A2=>l1264)) (fun _=>⟨_,.eq (eZB _) (.ro _ _),(by rw[eZB];rfl),Jn _,rfl⟩) (by decide) hO hq14 3 rfl (P6 el1344) fun l1344 H hq14 hh hO=>?_;obtain rfl:=G0 hh;cbv)|(refine Q4 hE hO hq13 2 rfl (P6 eu1382_0) fun hh=>?_;clear hh;cbv)|(refine AP hE (f:=V.bool) (esz:=1) (tz:=1) (off:=0) (u:=(fun x1423:Bool=>true)) (fun _=>⟨.bool true,.refl _,rfl,rfl,rfl⟩) (by decide) hO hq13 2 rfl (P6 el1424) fun l1424 H hq13 hh hO=>?_;obtain rfl:=G0 hh;cbv)|(have h:=G0 h;subst h;exact⟨_,⟨q13,hq13,q14,hq14,rfl,rfl,hO.tail⟩,.e2 (.e4 (.e4 .z)),rfl⟩)
       clear hx;rintro e l H ⟨q1503,hq1503,q1504,hq1504,rfl,rfl,hO⟩;cbv;cases h;exact⟨_,⟨q1503,q1504,q821⟩,rfl,.e2 (.e4 (.e4 .z)),rfl,hq1503,hq1504,hq821,hO.tail⟩
      cbv;cases h;exact⟨_,⟨q13,q14,q821⟩,rfl,.e2 (.e4 (.e4 .z)),rfl,hq13,hq14,hq821,hO.tail⟩
     cbv;cases h;exact⟨_,_,rfl,⟨q13,hq13,q14,hq14,q15,hq15,rfl,rfl,hO⟩,.e rfl (.e4 (.e4 .z)),rfl⟩
    cbv;cases h;exact⟨_,_,rfl,⟨q13,hq13,q14,hq14,q15,hq15,rfl,rfl,hO⟩,.e rfl (.e4 (.e4 .z)),rfl⟩
   ·exact .e2 (.e4 (.e4 .z))
   ·exact⟨hq8,hq9,hq10,hO⟩
   clear hx;rintro e l H ⟨q1505,hq1505,q1506,hq1506,q1507,hq1507,rfl,rfl,hO⟩;cbv;cases h;exact⟨_,⟨q1505,q1506,q1507⟩,rfl,.e rfl (.e4 (.e4 .z)),rfl,hq1505,hq1506,hq1507,hO⟩
  cbv;cases h;exact⟨_,_,rfl,⟨q8,hq8,q9,hq9,q10,hq10,rfl,rfl,hO⟩,.e2 .z,rfl⟩
 ·exact .e rfl (.e4 (.e4 .z))
 ·exact⟨hq3,hq1,ho0,hO⟩
 clear hx;rintro e l H ⟨q1508,hq1508,q1509,hq1509,q1510,hq1510,rfl,rfl,hO⟩;cbv;refine Q4 hE hO hq1509 1 rfl h fun h=>?_;cbv;refine U9 hE eZB hO hq1509 1 rfl h fun x1511 h=>?_;cbv;refine Q4 hE hO hq1508 0 rfl h fun h=>?_;cbv;refine U9 hE (fun _=>rfl) hO hq1508 0 rfl h fun x1512 h=>?_;cbv;cases h;exact hK _ _ _ 2 _ hq1510 rfl hO (.refl _)
end Go.Ab
namespace Go.Ab
open Go.RowKit Go.Proofs Go.Proofs.Tryz I6
variable [Ar][I6]
set_option maxRecDepth 100000
theorem k170 (N n:Nat) (ih61:Yr N n):Yh N (n+1):=by
 intro aC aO aA aL aG aH r h
 unfold N1 at h
 refine CT (T:=TT) cf170 N4 func170 (by rfl) (by kernel_rfl) call170 ntmps170 (by rfl) (fun _=>rfl) ?_;intro E H0 id0 o0 K hE ho0 hO hK;cbv;refine C6 hE hO fun b1 H hO=>?_;cbv;refine Xj hE (ds:=[vi 0,vi 0,vi 0,vi 0,sr eZi ([]),.bool false]) hO 0 rfl (.cons (.refl _) (.cons (.refl _) (.cons (.refl _) (.cons (.refl _) (.cons (.lit _ (C1)) (.refl _)))))) fun H hO=>?_;cbv;refine F3 hE ?_;cbv;obtain⟨s3,hx,h⟩:=bind_some h;refine K1 cf170 hE N4 (fun s2=>[(0,.v (.eref [sr eZj aC.prover.cN,vi aC.prover.count,.map id0] 0)),fi 2 s2.1,(3,.v (sr eZh aG)),(4,.v (sr eZh aH)),(10,.v (.ref b1 0)),(20,.v (sr eZn aA.cJ)),fi 21 (Ar.len aA.cJ),fi 22 s2.2]) (fun s2 H1=>B7 Eq (upd H0 id0 none) [cb b1 [vi 0,vi 0,vi 0,vi 0,sr eZi ([]),.bool false],.blk id0 (.vm o0.1 o0.2)] H1) (fun x e l H1=>match(generalizing:=false) x with| .inl y=>e= .exit 0∧l=[(10,.v (.ref b1 0))]∧B7 Eq (upd H0 id0 none) [cb b1 [vi 0,vi 0,vi 0,vi 0,sr eZi ([]),.bool false],.blk id0 (.vm o0.1 o0.2)] H1| .inr y=>∃u1:(List Value×List V),IG eZr eZu u1 y.2∧e= .ret∧l=[(10,.v (.ref b1 0))]∧B7 Eq (upd H0 id0 none) [cb b1 (K3 y.1),.blk id0 (.vm u1.1 u1.2)] H1) (by kernel_rfl) ?_ hx ?_ hO ?_
 ·intro s2 H o hO h;clear hx;cbv;refine B0 hE h (fun _ h=>?_) fun _ h=>?_
  ·cbv;refine D1 hE eZp h fun x4 h=>?_;cbv;refine C6 hE hO fun b5 H hO=>?_;cbv;refine A9 hE hO 0 rfl rfl fun H hO=>?_;cbv;refine A7 hE hO 0 rfl ?_;cbv;refine A8 hE h (c224 N x4 aG) (.refl _) fun r6 h=>?_;cbv;refine F3 hE ?_;cbv;refine F3 hE ?_;cbv;refine B0 hE h (fun _ h=>?_) fun _ h=>?_
   ·cbv;refine A7 hE hO 0 rfl ?_;cbv;refine X2 (g:=fun r7=>(D8 r7)) hE hO ho0 2 rfl h (ih61 aC aO x4 s2.1 aG aH) (.refl _) fun r7 o8 H ho8 hO h=>?_;cbv;refine BT hE (vs':=[vi 0,vi 0,vi 0,vi s2.2,sr eZi ([r7.1.d]),.bool r7.1.ok]) hO 1 rfl rfl (.cons (.refl _) (.cons (.refl _) (.cons (.refl _) (.cons (.refl _) (.cons (.lit _ (D7 ((eZk r7.1.d).symm) (C1))) (.refl _)))))) fun H hO=>?_;cbv;cases h;exact⟨_,_,rfl,⟨o8,ho8,rfl,rfl,hO.tail⟩,.e rfl .z,rfl⟩
   cbv;refine A7 hE hO 0 rfl ?_;cbv;refine A8 hE h (c214 N N x4) (.refl _) fun r9 h=>?_;cbv;cases h;exact⟨_,rfl,.e4 (.e4 .z),rfl,hO.tail⟩
  cbv;cases h;exact⟨_,_,rfl,⟨rfl,rfl,hO⟩,.e rfl .z,rfl⟩
 ·exact .e4 (.e4 .z)
 clear hx
 rcases s3 with y10|y11
 ·rintro e l H ⟨rfl,rfl,hO⟩;cbv;refine BT hE (vs':=[vi 0,vi 0,vi 0,vi 0,sr eZi ([]),.bool false]) hO 0 rfl rfl (.cons (.refl _) (.cons (.refl _) (.cons (.refl _) (.cons (.refl _) (.cons (.lit _ (C1)) (.refl _)))))) fun H hO=>?_;cbv;refine A7 hE hO 0 rfl ?_;cbv;cases h;exact hK _ _ _ 1 _ ho0 rfl hO (.refl _)
 rintro e l H ⟨q12,hq12,rfl,rfl,hO⟩;cbv;refine A7 hE hO 0 rfl ?_;cbv;cases h;exact hK _ _ _ 1 _ hq12 rfl hO (.refl _)
theorem k171 (N n:Nat) (ih61:Yr N n):Yg N (n+1):=by
 intro aC aO aA aL aG aH r h
 unfold O1 at h
 refine CT (T:=TT) cf171 N4 func171 (by rfl) (by kernel_rfl) call171 ntmps171 (by rfl) (fun _=>rfl) ?_;intro E H0 id0 o0 K hE ho0 hO hK;cbv;refine C6 hE hO fun b1 H hO=>?_;cbv;refine F3 hE ?_;cbv;replace hO:=hO.tl0 (t:=.nil) rfl;obtain⟨s5,hx,h⟩:=bind_some h;refine Q7 cf171 hE N4 (γ:=E5×(List Value×List V)) (fun s2 g=>[(0,.v (.eref [sr eZj aC.prover.cN,vi aC.prover.count,.map id0] 0)),fi 2 s2.1,(3,.v (sr eZh aG)),(4,.v (sr eZh s2.2.1)),(6,.v (.eref (C7 aA) 0)),(10,.v (.ref b1 0)),(11,.v (.sl (lst eZi s2.2.2.1) g.1)),fi 12 s2.2.2.2.1,fi 13 s2.2.2.2.2.1,(23,.v (sr eZn aA.cJ)),fi 24 (Ar.len aA.cJ),fi 25 s2.2.2.2.2.2.1]) (fun s2 g H1=>Bl g.1∧IG eZr eZu g.2 s2.2.2.2.2.2.2∧B7 Eq (upd H0 id0 none) [.tl g.1,cb b1 [vi 0,vi 0,vi 0,vi 0,.sl [] .nil,.bool false],.blk id0 (.vm g.2.1 g.2.2)] H1) (fun x e l H1=>match(generalizing:=false) x with| .inl y=>∃u1:E5,Bl u1∧∃u2:(List Value×List V),IG eZr eZu u2 y.2.2∧e= .exit 0∧l=[(3,.v (sr eZh aG)),(10,.v (.ref b1 0)),(11,.v (.sl (lst eZi y.1) u1)),fi 12 y.2.1]∧B7 Eq (upd H0 id0 none) [.tl u1,cb b1 [vi 0,vi 0,vi 0,vi 0,.sl [] .nil,.bool false],.blk id0 (.vm u2.1 u2.2)] H1| .inr y=>∃u1:E5,Bl u1∧∃u2:(List Value×List V),IG eZr eZu u2 y∧e= .ret∧l=[(10,.v (.ref b1 0))]∧B7 Eq (upd H0 id0 none) [.tl u1,cb b1 [vi 0,vi 0,vi 0,vi 0,.sl [] .nil,.bool false],.blk id0 (.vm u2.1 u2.2)] H1) (by kernel_rfl) ?_ (⟨.nil,o0⟩) hx ?_ ?_ ?_
 ·rintro s2 ⟨t3,q4⟩ H o ⟨ht3,hq4,hO⟩ h;clear hx;cbv;refine B0 hE h (fun _ h=>?_) fun _ h=>?_
  ·cbv;refine D1 hE eZp h fun x6 h=>?_;cbv;refine A8 hE h (c224 N x6 aG) (.refl _) fun r7 h=>?_;cbv;refine F3 hE ?_;cbv;refine B0 hE h (fun _ h=>?_) fun _ h=>?_
   ·cbv;refine A9 hE hO 1 rfl rfl fun H hO=>?_;cbv;cases h;exact⟨_,_,rfl,⟨t3,ht3,q4,hq4,rfl,rfl,hO⟩,.e rfl .z,rfl⟩
   cbv;refine B0 hE h (fun _ h=>?_) fun _ h=>?_
   ·cbv;refine D1 hE eZq h fun x8 h=>?_;cbv;refine B0 hE h (fun _ h=>?_) fun _ h=>?_
    ·cbv;refine A9 hE hO 1 rfl rfl fun H hO=>?_;cbv;cases h;exact⟨_,_,rfl,⟨t3,ht3,q4,hq4,rfl,rfl,hO⟩,.e rfl .z,rfl⟩
    cbv;refine X2 (g:=fun r9=>(D8 r9)) hE hO hq4 2 rfl h (ih61 aC s2.2.2.2.2.2.2 x6 s2.1 r7 s2.2.1) (.refl _) fun r9 o10 H ho10 hO h=>?_;cbv;refine B0 hE h (fun _ h=>?_) fun _ h=>?_
    ·cbv;refine A9 hE hO 1 rfl rfl fun H hO=>?_;cbv;cases h;exact⟨_,_,rfl,⟨t3,ht3,o10,ho10,rfl,rfl,hO⟩,.e rfl .z,rfl⟩
    cbv;obtain⟨s11,hx,h⟩:=bind_some h;refine M1 cf171 hE N4 (fun e l H1=>e= .normal∧l=[(0,.v (.eref [sr eZj aC.prover.cN,vi aC.prover.count,.map id0] 0)),fi 2 s2.1,(3,.v (sr eZh aG)),(4,.v (sr eZh s11.1)),(6,.v (.eref (C7 aA) 0)),(10,.v (.ref b1 0)),(11,.v (.sl (lst eZi s2.2.2.1) t3)),fi 12 s2.2.2.2.1,fi 13 s11.2,(15,.v (.eref (C7 x6) 0)),(16,.v (sr eZh r7)),(17,.v (.eref (K3 r9.1) 0)),(23,.v (sr eZn aA.cJ)),fi 24 (Ar.len aA.cJ),fi 25 s2.2.2.2.2.2.1]∧B7 Eq (upd H0 id0 none) [.tl t3,cb b1 [vi 0,vi 0,vi 0,vi 0,.sl [] .nil,.bool false],.blk id0 (.vm o10.1 o10.2)] H1) (by kernel_rfl) ?_ ?_
    ·clear h;have h:=hx;clear hx;cbv;refine B0 hE h (fun _ h=>?_) fun _ h=>?_
     ·cbv;refine A8 hE h (c140 N s2.2.1 r7) (.refl _) fun r12 h=>?_;cbv;refine A8 hE h (c142 N r7) (.refl _) fun r13 h=>?_;cbv;cases h;exact⟨_,⟨rfl,rfl,hO⟩,.e rfl (.e2 (.e4 (.e4 (.e4 .z)))),rfl⟩
     cbv;cases h;exact⟨_,⟨rfl,rfl,hO⟩,.e rfl (.e2 (.e4 (.e4 (.e4 .z)))),rfl⟩
    clear hx;rintro e l H ⟨rfl,rfl,hO⟩;cbv;refine A8 hE h (c214 N N x6) (.refl _) fun r14 h=>?_;cbv;refine Et (f:=eZi) hE J6 (by decide) hO 0 rfl ht3 (l:=s2.2.2.1) (m:=[r9.1.d]) (.refl _) (.lstc (.eq (eZk r9.1.d) (.refl _)) (.lst0)) h fun l16 t15 H hO ht15 h=>?_;cbv;refine F3 hE ?_;cbv;cases h;exact⟨_,⟨t15,o10⟩,rfl,.e4 (.e4 (.e4 .z)),rfl,ht15,ho10,hO⟩
   cbv;refine X2 (g:=fun r17=>(D8 r17)) hE hO hq4 2 rfl h (ih61 aC s2.2.2.2.2.2.2 x6 s2.1 r7 s2.2.1) (.refl _) fun r17 o18 H ho18 hO h=>?_;cbv;refine B0 hE h (fun _ h=>?_) fun _ h=>?_
   ·cbv;refine A9 hE hO 1 rfl rfl fun H hO=>?_;cbv;cases h;exact⟨_,_,rfl,⟨t3,ht3,o18,ho18,rfl,rfl,hO⟩,.e rfl .z,rfl⟩
   cbv;obtain⟨s19,hx,h⟩:=bind_some h;refine M1 cf171 hE N4 (fun e l H1=>e= .normal∧l=[(0,.v (.eref [sr eZj aC.prover.cN,vi aC.prover.count,.map id0] 0)),fi 2 s2.1,(3,.v (sr eZh aG)),(4,.v (sr eZh s19.1)),(6,.v (.eref (C7 aA) 0)),(10,.v (.ref b1 0)),(11,.v (.sl (lst eZi s2.2.2.1) t3)),fi 12 s2.2.2.2.1,fi 13 s19.2,(15,.v (.eref (C7 x6) 0)),(16,.v (sr eZh r7)),(17,.v (.eref (K3 r17.1) 0)),(23,.v (sr eZn aA.cJ)),fi 24 (Ar.len aA.cJ),fi 25 s2.2.2.2.2.2.1]∧B7 Eq (upd H0 id0 none) [.tl t3,cb b1 [vi 0,vi 0,vi 0,vi 0,.sl [] .nil,.bool false],.blk id0 (.vm o18.1 o18.2)] H1) (by kernel_rfl) ?_ ?_
   ·clear h;have h:=hx;clear hx;cbv;refine B0 hE h (fun _ h=>?_) fun _ h=>?_
    ·cbv;refine A8 hE h (c140 N s2.2.1 r7) (.refl _) fun r20 h=>?_;cbv;refine A8 hE h (c142 N r7) (.refl _) fun r21 h=>?_;cbv;cases h;exact⟨_,⟨rfl,rfl,hO⟩,.e rfl (.e2 (.e4 (.e4 (.e4 .z)))),rfl⟩
    cbv;cases h;exact⟨_,⟨rfl,rfl,hO⟩,.e rfl (.e2 (.e4 (.e4 (.e4 .z)))),rfl⟩
   clear hx;rintro e l H ⟨rfl,rfl,hO⟩;cbv;refine A8 hE h (c214 N N x6) (.refl _) fun r22 h=>?_;cbv;refine Et (f:=eZi) hE J6 (by decide) hO 0 rfl ht3 (l:=s2.2.2.1) (m:=[r17.1.d]) (.refl _) (.lstc (.eq (eZk r17.1.d) (.refl _)) (.lst0)) h fun l24 t23 H hO ht23 h=>?_;cbv;refine F3 hE ?_;cbv;cases h;exact⟨_,⟨t23,o18⟩,rfl,.e4 (.e4 (.e4 .z)),rfl,ht23,ho18,hO⟩
  cbv;cases h;exact⟨_,_,rfl,⟨t3,ht3,q4,hq4,rfl,rfl,hO⟩,.e4 .z,rfl⟩
 ·exact .e2 (.e4 (.v (.slt _ (.lst0)) (.e rfl (.e rfl (.e rfl (.e rfl (.e rfl (.z))))))))
 ·exact⟨trivial,ho0,hO⟩
 clear hx
 rcases s5 with y25|y28
 ·rintro e l H ⟨t26,ht26,q27,hq27,rfl,rfl,hO⟩;cbv;refine F3 hE ?_;cbv;refine A9 hE hO 1 rfl rfl fun H hO=>?_;cbv;refine A7 hE hO 1 rfl ?_;cbv;cases h;exact hK _ _ _ 2 _ hq27 rfl hO (.agg (.cons (.refl _) (.cons (.refl _) (.cons (.refl _) (.cons (.refl _) (.cons (.ro _ _) (.refl _)))))))
 rintro e l H ⟨t29,ht29,q30,hq30,rfl,rfl,hO⟩;cbv;refine A7 hE hO 1 rfl ?_;cbv;cases h;exact hK _ _ _ 2 _ hq30 rfl hO (.agg (.cons (.refl _) (.cons (.refl _) (.cons (.refl _) (.cons (.refl _) (.cons (.lit _ (C1)) (.refl _)))))))
theorem Gq (N:Nat):∀n,Yr N n∧Yj N n∧Yi N n∧Yh N n∧Yg N n:=by
 intro n
 induction n with
 |zero=>exact⟨(by intro aC aO aA aL aG aH r h;unfold E6 at h;cases h),(by intro aC aO aA aL aG aH r h;unfold P0 at h;cases h),(by intro aC aO aA aL aG aH r h;unfold K5 at h;cases h),(by intro aC aO aA aL aG aH r h;unfold N1 at h;cases h),(by intro aC aO aA aL aG aH r h;unfold O1 at h;cases h)⟩
 |succ n ih=>
  obtain⟨ih61,ih129,ih169,ih170,ih171⟩:=ih;exact⟨k61 N n ih129,k129 N n ih61 ih169 ih170 ih171,k169 N n ih61,k170 N n ih61,k171 N n ih61⟩
theorem c61 (N n aC aO aA aL aG aH r)(h:E6 N n aC aO aA aL aG aH=some r):FO prog 61 (fun id=>[.eref [sr eZj aC.prover.cN,vi aC.prover.count,.map id] 0,(C4 aA),vi aL,sr eZh aG,sr eZh aH]) eZr eZu aO ((D8 r.1)) r.2:=(Gq N n).1 aC aO aA aL aG aH r h
def cf16 :Cf:=⟨[6],[],[],[],[],[]⟩
theorem c16 (N aA aG aX r) (h:Bz N aA aG aX=some r):B8 prog 16 [(C4 aA),sr eZj aG,(Ee aX)] (.tup [(C2 r.1),vi r.2]):=by
 unfold Bz at h
 refine N3 cf16 func16 call16 ntmps16 ?_;intro E H0 K hE hK hO;cbv;refine C6 hE hO fun b1 H hO=>?_;cbv;refine A8 hE h (c55 N aA) (.refl _) fun r2 h=>?_;cbv;refine B0 hE h (fun _ h=>?_) fun _ h=>?_
 ·cbv;refine A9 hE hO 0 rfl rfl fun H hO=>?_;cbv;refine A7 hE hO 0 rfl ?_;cbv;cases h;exact hK hO (.tup (.cons (.agg (.cons (.refl _) (.cons (.refl _) (.cons (.refl _) (.cons (.refl _) (.cons (.lit _ (C1)) (.refl _))))))) (.refl _)))
 cbv;refine A8 hE h (c56 N aG) (.refl _) fun r3 h=>?_;cbv;refine B0 hE h (fun _ h=>?_) fun _ h=>?_
 ·cbv;refine A9 hE hO 0 rfl rfl fun H hO=>?_;cbv;refine A7 hE hO 0 rfl ?_;cbv;cases h;exact hK hO (.tup (.cons (.agg (.cons (.refl _) (.cons (.refl _) (.cons (.refl _) (.cons (.refl _) (.cons (.lit _ (C1)) (.refl _))))))) (.refl _)))
 cbv;refine A8 hE h (c59 N aX) (.refl _) fun r4 h=>?_;cbv;refine B0 hE h (fun _ h=>?_) fun _ h=>?_
 ·cbv;refine A9 hE hO 0 rfl rfl fun H hO=>?_;cbv;refine A7 hE hO 0 rfl ?_;cbv;cases h;exact hK hO (.tup (.cons (.agg (.cons (.refl _) (.cons (.refl _) (.cons (.refl _) (.cons (.refl _) (.cons (.lit _ (C1)) (.refl _))))))) (.refl _)))
 cbv;refine F3 hE ?_;cbv;refine B0 hE h (fun _ h=>?_) fun _ h=>?_
 ·cbv;refine A9 hE hO 0 rfl rfl fun H hO=>?_;cbv;refine A7 hE hO 0 rfl ?_;cbv;cases h;exact hK hO (.tup (.cons (.agg (.cons (.refl _) (.cons (.refl _) (.cons (.refl _) (.cons (.refl _) (.cons (.lit _ (C1)) (.refl _))))))) (.refl _)))
 cbv;refine F3 hE ?_;cbv;replace hO:=hO.tl0 (t:=.nil) rfl;obtain⟨s7,hx,h⟩:=bind_some h;refine Q7 cf16 hE N4 (γ:=E5) (fun s5 g=>[(1,.v (sr eZj aG)),(3,.v (.eref (C7 aA) 0)),(6,.v (.ref b1 0)),(11,.v (.sl (lst eZh s5.1) g)),(43,.v (sr eZl aX.cO)),fi 44 (Ar.len aX.cO),fi 45 s5.2]) (fun s5 g H1=>Bl g∧B7 Eq H0 [.tl g,cb b1 [vi 0,vi 0,vi 0,vi 0,.sl [] .nil]] H1) (fun x e l H1=>match(generalizing:=false) x with| .inl y=>∃u1:E5,Bl u1∧e= .exit 0∧l=[(1,.v (sr eZj aG)),(3,.v (.eref (C7 aA) 0)),(6,.v (.ref b1 0)),(11,.v (.sl (lst eZh y) u1))]∧B7 Eq H0 [.tl u1,cb b1 [vi 0,vi 0,vi 0,vi 0,.sl [] .nil]] H1| .inr y=>∃u1:E5,Bl u1∧e= .ret∧l=[(6,.v (.ref b1 0)),fi 7 6]∧B7 Eq H0 [.tl u1,cb b1 [vi 0,vi 0,vi 0,vi 0,.sl [] .nil]] H1) (by kernel_rfl) ?_ .nil hx ?_ ?_ ?_
 ·rintro s5 t6 H o ⟨ht6,hO⟩ h;clear hx;cbv;refine B0 hE h (fun _ h=>?_) fun _ h=>?_
  ·cbv;refine D1 hE eZs h fun x8 h=>?_;cbv;refine A8 hE h (c60 N aG x8.Ref) (.refl _) fun r9 h=>?_;cbv;refine B0 hE h (fun _ h=>?_) fun _ h=>?_
   ·cbv;refine A9 hE hO 1 rfl rfl fun H hO=>?_;cbv;cases h;exact⟨_,_,rfl,⟨t6,ht6,rfl,rfl,hO⟩,.e2 .z,rfl⟩
   cbv;refine Et (f:=eZh) hE M7 (by decide) hO 0 rfl ht6 (l:=s5.1) (m:=[(⟨x8.Var,r9.1⟩:A3)]) (.refl _) (.lstc (.eq (eZq (⟨x8.Var,r9.1⟩:A3)) (.refl _)) (.lst0)) h fun l11 t10 H hO ht10 h=>?_;cbv;cases h;exact⟨_,t10,rfl,.e rfl (.e2 (.e4 .z)),rfl,ht10,hO⟩
  cbv;cases h;exact⟨_,_,rfl,⟨t6,ht6,rfl,rfl,hO⟩,.e4 .z,rfl⟩
 ·exact .e rfl (.e2 (.v (.slt _ (.lst0)) (.e rfl (.e rfl (.e rfl (.z))))))
 ·exact⟨trivial,hO⟩
 clear hx
 rcases s7 with y12|y18
 ·rintro e l H ⟨t13,ht13,rfl,rfl,hO⟩;cbv;refine YF hE eZr eZu hO fun m14 o15 H ho15 hO=>?_;cbv;refine X2 (g:=fun r16=>(D8 r16)) hE hO ho15 0 rfl h (c61 N N (⟨(⟨aG,0⟩:C5)⟩:F2) ([]:List (B2×A5)) aA 0 y12 ([])) (.cons (.refl _) (.cons (.refl _) (.cons (.refl _) (.cons (.ro _ _) (.cons (.lit _ (C1)) (.refl _)))))) fun r16 o17 H ho17 hO h=>?_;cbv;refine B0 hE h (fun _ h=>?_) fun _ h=>?_
  ·cbv;refine A9 hE hO 2 rfl rfl fun H hO=>?_;cbv;refine A7 hE hO 2 rfl ?_;cbv;cases h;exact hK hO (.tup (.cons (.agg (.cons (.refl _) (.cons (.refl _) (.cons (.refl _) (.cons (.refl _) (.cons (.lit _ (C1)) (.refl _))))))) (.refl _)))
  cbv;refine A9 hE hO 2 rfl rfl fun H hO=>?_;cbv;refine A7 hE hO 2 rfl ?_;cbv;cases h;exact hK hO (.refl _)
 rintro e l H ⟨t19,ht19,rfl,rfl,hO⟩;cbv;refine A7 hE hO 1 rfl ?_;cbv;cases h;exact hK hO (.tup (.cons (.agg (.cons (.refl _) (.cons (.refl _) (.cons (.refl _) (.cons (.refl _) (.cons (.lit _ (C1)) (.refl _))))))) (.refl _)))
theorem c227 (N aC aP r)(h:Hn N aC aP=some r):B8 prog 227 [.int .u64 aC,.int .u64 aP] (.tup [.int .u64 r.1,.int .u64 r.2]):=by
 unfold Hn at h
 refine N3 cf0 func227 call227 ntmps227 ?_;intro E H0 K hE hK hO;cbv;refine Gb hE (Ea hE rfl) ?_;cbv;refine Gb hE (Ea hE rfl) ?_;cbv;refine Gb hE (Ea hE rfl) ?_;cbv;refine Gb hE (Ea hE rfl) ?_;cbv;refine Gb hE (Ea hE rfl) ?_;cbv;cases h;exact hK hO (.refl _)
theorem c176 (N aC aP r)(h:KX N aC aP=some r):B8 prog 176 [.int .u64 aC,.int .u64 aP] (.tup [.int .u64 r.1,.int .u64 r.2]):=by
 unfold KX at h
 refine N3 cf0 func176 call176 ntmps176 ?_;intro E H0 K hE hK hO;cbv;refine A8 hE h (c227 N aC aP) (.refl _) fun r1 h=>?_;cbv;cases h;exact hK hO (.refl _)
def cf137 :Cf:=⟨[],[(9,7),(1000009,0)],[(10,3),(26,6)],[],[],[]⟩
theorem c137 (N aC bW r) (h:N6 N aC bW=some r):B8 prog 137 [sr eZn aC,vi bW] (sr eZn r):=by
 unfold N6 at h
 refine Bd (T:=TT) cf137 N4 func137 (by rfl) (by kernel_rfl) call137 ntmps137 (by rfl) (by rfl) ?_;intro E H0 K hE hK hF;have hO:B7 Eq H0 [] H0:=.start F5 rfl;cbv;obtain⟨s1,hx,h⟩:=bind_some h;refine M1 cf137 hE N4 (fun e l H1=>e= .normal∧l=[(0,.v (sr eZn aC)),fi 1 bW]∧B7 Eq H0 [] H1) (by kernel_rfl) ?_ ?_
 ·clear h;have h:=hx;clear hx;cbv;refine B0 hE h (fun _ h=>?_) fun _ h=>?_
  ·cbv;cases h
  cbv;cases h;exact⟨_,⟨rfl,rfl,hO⟩,.e2 .z,rfl⟩
 clear hx;rintro e l H ⟨rfl,rfl,hO⟩;cbv;refine F3 hE ?_;cbv;refine A8 hE h (c176 N (Ar.wr .u64 (Ar.len aC)) (Ar.wr .u64 bW)) (.refl _) fun r2 h=>?_;cbv;obtain⟨s3,hx,h⟩:=bind_some h;refine M1 cf137 hE N4 (fun e l H1=>e= .normal∧l=[(0,.v (sr eZn aC)),(6,.v (.int .u64 r2.2))]∧B7 Eq H0 [] H1) (by kernel_rfl) ?_ ?_
 ·clear h;have h:=hx;clear hx;cbv;refine B0 hE h (fun _ h=>?_) fun _ h=>?_
  ·cbv;cases h
  cbv;cases h;exact⟨_,⟨rfl,rfl,hO⟩,.e2 .z,rfl⟩
 clear hx;rintro e l H ⟨rfl,rfl,hO⟩;cbv;refine Re hE (f:=eZn) (by decide) (z0:=((⟨0,[],0,0,0,0,(⟨0,[],0,0,0,(⟨0,0,⟨#[]⟩⟩:B4)⟩:B6)⟩:A1):A1)) ((.eq (eZp _) (.agg (.cons (.refl _) (.cons (.lit _ (C1)) (.cons (.refl _) (.cons (.refl _) (.cons (.refl _) (.cons (.refl _) (.cons (.refl _) (.cons (.lit _ (C1)) (.refl _)))))))))))) hO h fun l5 q4 H hq4 h hO=>?_;cbv;refine VV (f:=eZn) hE hO hq4 0 rfl (m:=aC) (Il (f:=eZn) hE IM (.refl _)) h fun p6 H hq4 hO h=>?_;cbv;obtain⟨s9,hx,h⟩:=bind_some h;refine Q7 cf137 hE N4 (γ:=OG) (fun s7 g=>[(7,.v (.own g.id g.lo g.n)),fi 8 s7.1]) (fun s7 g H1=>T7 g (Ar.len s7.2)∧B7 Eq H0 [ob g 14 eZn s7.2] H1) (fun x e l H1=>∃u1:OG,T7 u1 (Ar.len x)∧e= .exit 0∧l=[(7,.v (.own u1.id u1.lo u1.n))]∧B7 Eq H0 [ob u1 14 eZn x] H1) (by kernel_rfl) ?_ q4 hx ?_ ?_ ?_
 ·rintro s7 q8 H o ⟨hq8,hO⟩ h;clear hx;cbv;refine Kp hE hq8 ?_;cbv;refine B0 hE h (fun _ h=>?_) fun _ h=>?_
  ·cbv;refine Sy hE hO hq8 0 rfl h fun l11 q10 hq10 h=>?_;cbv;refine Sx hE hO hq8 0 rfl h fun l13 q12 hq12 h=>?_;cbv;refine Ot (f:=eZn) hE hO hq8 0 rfl hq10 (m:=l13) (hq12) h fun p14 H hq8 hO h=>?_;cbv;cases h;exact⟨_,q8,rfl,.e2 .z,rfl,hq8,hO⟩
  cbv;cases h;exact⟨_,_,rfl,⟨q8,hq8,rfl,rfl,hO⟩,.e rfl .z,rfl⟩
 ·exact .e2 .z
 ·exact⟨hq4,hO⟩
 clear hx;rintro e l H ⟨q15,hq15,rfl,rfl,hO⟩;cbv;cases h;exact hF q15 _ _ 0 _ _ hO rfl (AO hE hq15) (.refl _)
def cf82 :Cf:=⟨[7],[(18,5)],[],[0],[],[]⟩
theorem c82 (N:Nat):∀n aA aI r,Z0 N n aA aI=some r→B8 prog 82 [(C4 aA),(C2 aI)] (vi r):=by
 intro n
 induction n with
 |zero=>intro aA aI r h;cases h
 |succ n ih=>
 intro aA aI r h
 unfold Z0 at h
 refine N3 cf82 func82 call82 ntmps82 ?_;intro E H0 K hE hK hO;cbv;refine B0 hE h (fun _ h=>?_) fun _ h=>?_
 ·cbv;cases h;exact hK hO (.refl _)
 cbv;obtain⟨s1,hx,h⟩:=bind_some h;refine M1 cf82 hE N4 (fun e l H1=>match(generalizing:=false) s1 with| .inl y=>e= .normal∧l=[(3,.v (.eref (J2 aI) 0)),(5,.v (sr eZn y))]∧B7 Eq H0 [] H1| .inr y=>e= .ret∧l=[fi 4 y]∧B7 Eq H0 [] H1) (by kernel_rfl) ?_ ?_
 ·clear h;have h:=hx;clear hx;cbv;refine B0 hE h (fun _ h=>?_) fun _ h=>?_
  ·cbv;refine F3 hE ?_;cbv;refine B0 hE h (fun _ h=>?_) fun _ h=>?_
   ·cbv;cases h;exact⟨_,⟨rfl,rfl,hO⟩,.e rfl .z,rfl⟩
   cbv;refine HI hE (f:=eZn) IM h fun l2 t3 h=>?_;cbv;cases h;exact⟨_,⟨rfl,rfl,hO⟩,.e rfl (.v (.ro _ _) (.z)),rfl⟩
  cbv;refine B0 hE h (fun _ h=>?_) fun _ h=>?_
  ·cbv;refine F3 hE ?_;cbv;refine B0 hE h (fun _ h=>?_) fun _ h=>?_
   ·cbv;cases h;exact⟨_,⟨rfl,rfl,hO⟩,.e rfl .z,rfl⟩
   cbv;refine F3 hE ?_;cbv;refine A8 hE h (c137 N aA.cJ (Ar.len aI.Kids)) (.refl _) fun r4 h=>?_;cbv;cases h;exact⟨_,⟨rfl,rfl,hO⟩,.e2 .z,rfl⟩
  cbv;cases h;exact⟨_,⟨rfl,rfl,hO⟩,.e2 .z,rfl⟩
 clear hx
 rcases s1 with y5|y14
 ·rintro e l H ⟨rfl,rfl,hO⟩;cbv;refine F3 hE ?_;cbv;refine F3 hE ?_;cbv;refine B0 hE h (fun _ h=>?_) fun _ h=>?_
  ·cbv;cases h;exact hK hO (.refl _)
  cbv;refine F3 hE ?_;cbv;obtain⟨s7,hx,h⟩:=bind_some h;refine K1 cf82 hE N4 (fun s6=>[(5,.v (sr eZn y5)),(69,.v (sr eZi aI.Kids)),fi 70 (Ar.len aI.Kids),fi 71 s6]) (fun s6 H1=>B7 Eq H0 [] H1) (fun x e l H1=>match(generalizing:=false) x with| .inl y=>e= .exit 1∧l=[]∧B7 Eq H0 [] H1| .inr y=>e= .ret∧l=[fi 4 y]∧B7 Eq H0 [] H1) (by kernel_rfl) ?_ hx ?_ hO ?_
  ·intro s6 H o hO h;clear hx;cbv;refine B0 hE h (fun _ h=>?_) fun _ h=>?_
   ·cbv;refine D1 hE eZk h fun x8 h=>?_;cbv;refine C6 hE hO fun b9 H hO=>?_;cbv;refine A9 hE hO 0 rfl rfl fun H hO=>?_;cbv;refine D1 hE eZp h fun x10 h=>?_;cbv;refine A7 hE hO 0 rfl ?_;cbv;refine A8 hE h (ih x10 x8) (.refl _) fun r11 h=>?_;cbv;refine B0 hE h (fun _ h=>?_) fun _ h=>?_
    ·cbv;cases h;exact⟨_,_,rfl,⟨rfl,rfl,hO.tail⟩,.e rfl .z,rfl⟩
    cbv;cases h;exact⟨_,rfl,.e4 .z,rfl,hO.tail⟩
   cbv;cases h;exact⟨_,_,rfl,⟨rfl,rfl,hO⟩,.z,rfl⟩
  ·exact .e4 .z
  clear hx
  rcases s7 with y12|y13
  ·rintro e l H ⟨rfl,rfl,hO⟩;cbv;cases h;exact hK hO (.refl _)
  rintro e l H ⟨rfl,rfl,hO⟩;cbv;cases h;exact hK hO (.refl _)
 rintro e l H ⟨rfl,rfl,hO⟩;cbv;cases h;exact hK hO (.refl _)
theorem c26 (N aA aI r)(h:Z2 N aA aI=some r):B8 prog 26 [(C4 aA),(C2 aI)] (vi r):=by
 unfold Z2 at h
 refine N3 cf0 func26 call26 ntmps26 ?_;intro E H0 K hE hK hO;cbv;refine A8 hE h (c55 N aA) (.refl _) fun r1 h=>?_;cbv;refine B0 hE h (fun _ h=>?_) fun _ h=>?_
 ·cbv;cases h;exact hK hO (.refl _)
 cbv;refine A8 hE h (c29 N N aI) (.refl _) fun r2 h=>?_;cbv;refine B0 hE h (fun _ h=>?_) fun _ h=>?_
 ·cbv;cases h;exact hK hO (.refl _)
 cbv;refine A8 hE h (c82 N N aA aI) (.refl _) fun r3 h=>?_;cbv;cases h;exact hK hO (.refl _)
def cf62 :Cf:=⟨[7],[(5,10),(10,12)],[],[],[],[]⟩
theorem c62 (N:Nat):∀n aA aI r,M8 N n aA aI=some r→B8 prog 62 [(C4 aA),(C2 aI)] (sr eZl r):=by
 intro n
 induction n with
 |zero=>intro aA aI r h;cases h
 |succ n ih=>
 intro aA aI r h
 unfold M8 at h
 refine N3 cf62 func62 call62 ntmps62 ?_;intro E H0 K hE hK hO;cbv;refine B0 hE h (fun _ h=>?_) fun _ h=>?_
 ·cbv;cases h;exact hK hO (.lit _ (D7 ((eZs (⟨aA.Var,aI.Ref⟩:C0)).symm) (C1)))
 cbv;refine B0 hE h (fun _ h=>?_) fun _ h=>?_
 ·cbv;refine D1 hE eZp h fun x1 h=>?_;cbv;refine D1 hE eZk h fun x2 h=>?_;cbv;refine A8 hE h (ih x1 x2) (.refl _) fun r3 h=>?_;cbv;cases h;exact hK hO (.refl _)
 cbv;refine F3 hE ?_;cbv;replace hO:=hO.tl0 (t:=.nil) rfl;obtain⟨s6,hx,h⟩:=bind_some h;refine Q7 cf62 hE N4 (γ:=E5) (fun s4 g=>[(2,.v (.eref (C7 aA) 0)),(5,.v (.sl (lst eZl s4.1) g)),(32,.v (sr eZi aI.Kids)),fi 33 (Ar.len aI.Kids),fi 34 s4.2]) (fun s4 g H1=>Bl g∧B7 Eq H0 [.tl g] H1) (fun x e l H1=>∃u1:E5,Bl u1∧e= .exit 1∧l=[(5,.v (.sl (lst eZl x) u1))]∧B7 Eq H0 [.tl u1] H1) (by kernel_rfl) ?_ .nil hx ?_ ?_ ?_
 ·rintro s4 t5 H o ⟨ht5,hO⟩ h;clear hx;cbv;refine B0 hE h (fun _ h=>?_) fun _ h=>?_
  ·cbv;refine D1 hE eZk h fun x7 h=>?_;cbv;refine C6 hE hO fun b8 H hO=>?_;cbv;refine A9 hE hO 0 rfl rfl fun H hO=>?_;cbv;refine F3 hE ?_;cbv;refine Jy hE h fun h=>?_;cbv;refine D1 hE eZp h fun x9 h=>?_;cbv;refine A7 hE hO 0 rfl ?_;cbv;refine C9 hE (g:=fun r10=>sr eZl r10) h (ih x9 x7) (.refl _) fun r10 h=>?_;cbv;refine Et (f:=eZl) hE BO (by decide) hO 1 rfl ht5 (l:=s4.1) (m:=r10) (.refl _) (.refl _) h fun l12 t11 H hO ht11 h=>?_;cbv;cases h;exact⟨_,t11,rfl,.e rfl (.e4 .z),rfl,ht11,hO.tail⟩
  cbv;cases h;exact⟨_,_,rfl,⟨t5,ht5,rfl,rfl,hO⟩,.e rfl .z,rfl⟩
 ·exact .e rfl (.v (.slt _ (.lst0)) (.e rfl (.e rfl (.e rfl (.z)))))
 ·exact⟨trivial,hO⟩
 clear hx;rintro e l H ⟨t13,ht13,rfl,rfl,hO⟩;cbv;cases h;exact hK hO (.ro _ _)
def cf172 :Cf:=⟨[],[(4,14),(3000006,0),(3000006,1),(3000006,2),(3000006,3),(3000006,4),(3000006,5),(3000006,6),(3000006,7),(3000006,9),(3000006,10),(3000006,11),(3000006,13)],[],[2000006],[],[]⟩
set_option maxHeartbeats 2000000 in
theorem c172 (N:Nat) (bP:List C0) (aB:Int) (aD:Int) (aU:V) (aT:C0→C0→Option Int) (bL:∀y1 y2 q,aT y1 y2=some q→Q6 prog aU [(V9 y1),(V9 y2)] (vi q)) (r:(List C0)) (h:H8 N bP aB aD aT=some r):Pi prog 172 (fun q=>[.own q.id q.lo q.n,vi aB,vi aD,aU]) 4 (lst eZl bP) (lst eZl r):=by
 unfold H8 at h
 refine ID (T:=TT) (m:=4) cf172 N4 func172 (by rfl) (by kernel_rfl) call172 ntmps172 (by rfl) (fun _=>rfl) (by rfl) ?_;intro E H0 q0 K hE hq0 hO hK;cbv;obtain⟨s3,hx,h⟩:=bind_some h;refine Q7 cf172 hE N4 (γ:=(Vu q0)) (fun s1 g=>[(0,.v (.own g.id g.lo g.n)),fi 1 aB,fi 2 aD,(3,.v (aU)),fi 8 s1.1]) (fun s1 g H1=>T7 g (Ar.len s1.2)∧B7 Eq (upd H0 q0.id none) [ob g 4 eZl s1.2] H1) (fun x e l H1=>∃u1:(Vu q0),T7 u1 (Ar.len x)∧e= .exit 0∧l=[(0,.v (.own u1.id u1.lo u1.n))]∧B7 Eq (upd H0 q0.id none) [ob u1 4 eZl x] H1) (by kernel_rfl) ?_ q0 hx ?_ ?_ ?_
 ·rintro s1 q2 H o ⟨hq2,hO⟩ h;clear hx;cbv;refine B0 hE h (fun _ h=>?_) fun _ h=>?_
  ·cbv;obtain⟨s6,hx,h⟩:=bind_some h;refine Q7 cf172 hE N4 (γ:=(Vu q0)) (fun s4 g=>[(0,.v (.own g.id g.lo g.n)),fi 1 aB,fi 2 aD,(3,.v (aU)),fi 8 s1.1,fi 9 s4.1]) (fun s4 g H1=>T7 g (Ar.len s4.2)∧B7 Eq (upd H0 q0.id none) [ob g 4 eZl s4.2] H1) (fun x e l H1=>∃u1:(Vu q0),T7 u1 (Ar.len x)∧e= .exit 2∧l=[(0,.v (.own u1.id u1.lo u1.n)),fi 1 aB,fi 2 aD,(3,.v (aU)),fi 8 s1.1]∧B7 Eq (upd H0 q0.id none) [ob u1 4 eZl x] H1) (by kernel_rfl) ?_ q2 hx ?_ ?_ ?_
   ·rintro s4 q5 H o ⟨hq5,hO⟩ h;clear hx;cbv;refine B0 hE h (fun _ h=>?_) fun _ h=>?_
    ·cbv;refine Q4 hE hO hq5 0 rfl h fun h=>?_;cbv;refine U9 hE eZs hO hq5 0 rfl h fun x7 h=>?_;cbv;refine Q4 hE hO hq5 0 rfl h fun h=>?_;cbv;refine U9 hE eZs hO hq5 0 rfl h fun x8 h=>?_;cbv;refine V0 hE (g:=fun r9=>vi r9) h (fun r9 hx=>bL x7 x8 r9 hx) (.refl _) fun r9 h=>?_;cbv;refine B0 hE h (fun _ h=>?_) fun _ h=>?_
     ·cbv;obtain⟨s10,hx,h⟩:=bind_some h;refine M1 cf172 hE N4 (fun e l H1=>∃u1:(Vu q0),T7 u1 (Ar.len s10)∧e= .normal∧l=[(0,.v (.own u1.id u1.lo u1.n)),fi 1 aB,fi 2 aD,(3,.v (aU)),fi 8 s1.1,fi 9 s4.1]∧B7 Eq (upd H0 q0.id none) [ob u1 4 eZl s10] H1) (by kernel_rfl) ?_ ?_
      ·clear h;have h:=hx;clear hx;cbv;obtain⟨u330_0,eu330_0,h⟩:=bind_some h;obtain⟨x371,ex371,h⟩:=bind_some h;obtain⟨u490_0,eu490_0,h⟩:=bind_some h;obtain⟨x531,ex531,h⟩:=bind_some h;obtain⟨u570_0,eu570_0,h⟩:=bind_some h;obtain⟨l612,el612,h⟩:=bind_some h;obtain⟨u650_0,eu650_0,h⟩:=bind_some h;obtain⟨l692,el692,h⟩:=bind_some h
       repeat' first|refine And.intro ?_ ?_|(refine Q4 hE hO hq5 0 rfl (P6 eu330_0) fun hh=>?_;clear hh;cbv)|(refine U9 hE eZs hO hq5 0 rfl (P6 ex371) fun x371 hh=>?_;obtain rfl:=G0 hh;cbv)|(refine Q4 hE hO hq5 0 rfl (P6 eu490_0) fun hh=>?_;clear hh;cbv)|(refine U9 hE eZs hO hq5 0 rfl (P6 ex531) fun x531 hh=>?_;obtain rfl:=G0 hh;cbv)|(refine Q4 hE hO hq5 0 rfl (P6 eu570_0) fun hh=>?_;clear hh;cbv)|(refine AP hE (f:=eZl) (esz:=4) (tz:=4) (off:=0) (u:=(fun x611:C0=>x371)) (fun _=>⟨_,.eq (eZs _) (.refl _),(by rw[eZs];rfl),BO _,rfl⟩) (by decide) hO hq5 0 rfl (P6 el612) fun l612 H hq5 hh hO=>?_;obtain rfl:=G0 hh;cbv)|(refine Q4 hE hO hq5 0 rfl (P6 eu650_0) fun hh=>?_;clear hh;cbv)|(refine AP hE (f:=eZl) (esz:=4) (tz:=4) (off:=0) (u:=(fun x691:C0=>x531)) (fun _=>⟨_,.eq (eZs _) (.refl _),(by rw[eZs];rfl),BO _,rfl⟩) (by decide) hO hq5 0 rfl (P6 el692) fun l692 H hq5 hh hO=>?_;obtain rfl:=G0 hh;cbv)|(have h:=G0 h;subst h;exact⟨_,⟨q5,hq5,rfl,rfl,hO⟩,.e2 (.e4 .z),rfl⟩)
      clear hx;rintro e l H ⟨q771,hq771,rfl,rfl,hO⟩;cbv;cases h;exact⟨_,q771,rfl,.e2 (.e4 .z),rfl,hq771,hO⟩
     cbv;cases h;exact⟨_,_,rfl,⟨q5,hq5,rfl,rfl,hO⟩,.e rfl (.e4 .z),rfl⟩
    cbv;cases h;exact⟨_,_,rfl,⟨q5,hq5,rfl,rfl,hO⟩,.e rfl (.e4 .z),rfl⟩
   ·exact .e2 (.e4 .z)
   ·exact⟨hq2,hO⟩
   clear hx;rintro e l H ⟨q772,hq772,rfl,rfl,hO⟩;cbv;cases h;exact⟨_,q772,rfl,.e rfl (.e4 .z),rfl,hq772,hO⟩
  cbv;cases h;exact⟨_,_,rfl,⟨q2,hq2,rfl,rfl,hO⟩,.e rfl .z,rfl⟩
 ·exact .e rfl (.e4 .z)
 ·exact⟨hq0,hO⟩
 clear hx;rintro e l H ⟨q773,hq773,rfl,rfl,hO⟩;cbv;cases h;obtain⟨q773,rfl⟩:=q773;exact hK _ 0 _ hq773 rfl hO
end Go.Ab
