/- GHCo2 GHCo3 -/
import Derived.Test.YtmfdlklcmoklhaaGreatDoorB12
set_option linter.all false
open Go.Ab.Ar (ar ar_eq cmp cmp_eq lst nt_eq)
namespace Go.Ab
open Go.RowKit Go.Proofs Go.Proofs.Tryz L9
variable [Ar][L9]
set_option maxRecDepth 100000
def cf152 :Cf:=⟨[7],[],[],[],[],[]⟩
theorem c152 (N aH r)(h:L7 N aH=some r):YI prog 152 [sr eBe0 aH] 14 (lst eBe0 r):=by
 unfold L7 at h
 intro H0;refine Gt (T:=TT) cf152 Q6 func152 (by rfl) (by kernel_rfl) call152 ntmps152 (by rfl) (by rfl) ?_;intro E K hE hK hN;have hO:C3 Eq H0 [] H0:=.start G4 rfl;cbv;refine AV1 hE rfl (fun hx=>?_) ?_
 ·cbv;exact hN (AG6 hx h) [] H0 hO
 cbv;refine AM0 (f:=eBe0) hE AR (by decide) hO (.inr rfl) (m:=aH) (HQ (f:=eBe0) hE AR (.refl _)) h fun l q H hq hO h=>?_;cbv;cases h;exact hK q _ _ (Hy hE hq) hO
theorem Ba9 (vals:Array Value)(w:World):(callFunc 177 vals).run prog w=((Extern.SlicesOverlaps.overlaps #[22,22] #[4] vals).run prog w).andThen fun v w'=>.ok (.value v) w':=
 run_callFunc_extern func177 (by kernel_rfl) (by kernel_rfl) (by kernel_rfl) (e:=Extern.SlicesOverlaps.overlaps #[22,22] #[4]) (by kernel_rfl) vals w
def cf153 :Cf:=⟨[],[(11,8),(15,8)],[],[],[],[]⟩
set_option maxHeartbeats 1000000 in
theorem c153 (N aH aQ aI r) (h:S9 N aH aQ aI=some r):Qh prog 153 [vi aQ,.sl (lst eBe0 aI) .ro] 14 (lst eBe0 aH) (lst eBe0 r):=by
 unfold S9 at h
 obtain⟨x,h1,h2⟩:=bind_some h;cases M6 h2;obtain⟨h0,h1,h2,hr⟩:=AM5 (f:=eBe0) h1;rw[hr];clear hr h;have hvall:=LZ AR aI
 generalize lst eBe0 aH=xs at *
 generalize lst eBe0 aI=vs at *
 rintro H ⟨id,lo,n,pre,rest⟩ ⟨e1,e2⟩ hk
 simp only at e1 e2 hk
 refine Th (T:=TT) cf153 Q6 func153 (by rfl) (by kernel_rfl) call153 ntmps153 (by rfl) (by rfl) ?_;intro E K hE hK
 simp only at hK ⊢
 generalize hrow:pre++xs++rest=row at hk
 obtain⟨RL,hRL⟩:∃RL:Int,RL=(row.length:Nat):=⟨_,rfl⟩;obtain⟨M,hM⟩:∃M:Int,M=(vs.length:Nat):=⟨_,rfl⟩
 have hlen:lo+n≤RL:=by rw[hRL,←hrow,e1,e2];simp;omega
 have hn0:0≤lo∧0≤n∧aQ≤n∧0≤M∧n+M≤1073741824:=by omega
 have hwrap:∀a b:Int,0≤a→0≤b→a+b≤1073741824→ar .add .i64 a b=a+b:=fun a b ha hb hab=>by rw[ar_eq];exact wrap_small _ (by omega) (by omega)
 have hwrap2:∀a b:Int,0≤b→b≤a→a≤1073741824→ar .sub .i64 a b=a - b:=fun a b ha hb hab=>by rw[ar_eq];exact wrap_small _ (by omega) (by omega)
 have hadd:ar .add .i64 n M=n+M:=hwrap _ _ (by omega) (by omega) (by omega);have haddi:ar .add .i64 aQ M=aQ+M:=hwrap _ _ (by omega) (by omega) (by omega)
 have hd2:ar .sub .i64 (ar .add .i64 n M) aQ=n+M - aQ:=by rw[hadd];exact hwrap2 _ aQ h0 (by omega) (by omega)
 have hgt:∀c b,cmp .gtr (ar .add .i64 n M) c=b→(b=true→c<n+M)∧(b=false→n+M≤c):=fun c b h=>by
  rw[cmp_eq,hadd]at h;subst h;simp[Ir]
 have hbn:(n.toNat+vs.length)*152≤140737488355328:=OI (by omega) (by decide);have hbn2:∀a b:Int,0≤a→0≤b→a+b≤1073741824→(a.toNat+b.toNat)*152≤140737488355328:=fun a b _ _ _=>OI (by omega) (by decide)
 have hsubl:∀l2 n2:Int,0≤l2→0≤n2→l2+n2≤RL→n2=((M4 row l2 n2).length:Nat):=fun l2 n2 a b c=>by rw[Cq a b (by rw[←hRL];exact c)];omega
 have hov:∀(r1 r2 ys:List V) (L l YL n:Int),L=(r1.length:Nat)→YL=(ys.length:Nat)→0≤l→l+YL≤L→r2=Bq r1 l.toNat (ys.take n.toNat)→L=(r2.length:Nat):=fun r1 r2 ys L l YL n a b c d e=>by
  rw[e,Fh (by simp;omega)];exact a
 have hov2:∀(r1:List V) (l l2 n2 n:Int),0≤l→0≤n→l+n≤RL→0≤l2→0≤n2→r1=Bq row l.toNat ((M4 row l2 n2).take n.toNat)→RL=(r1.length:Nat):=fun r1 l l2 n2 n a b c _ _ e=>by
  rw[e,Fh (by simp;omega)];exact hRL
 have hnl:∀(r2:List V) (z:V) (j:Nat) (l n d:Int),0≤l→0≤n→l+n≤RL→0≤d→r2=M4 row l n++List.replicate d.toNat z++List.replicate j z→∃L:Int,L=(r2.length:Nat)∧n+d≤L:=fun r2 z j l n d a b c e f=>⟨_,rfl,by rw[f];simp only[K7,Qk,Cq a b (by rw[←hRL];exact c)];omega⟩
 have hne:∀t (b:Option HC),H t=none→upd H t b id=some (.arr 14 row):=fun t b ht=>by rw[C2 _ _ (fun e=>by subst e;rw[hk]at ht;cases ht)];exact hk
 have hx0:vs=[]→xs.take aQ.toNat++vs++xs.drop aQ.toNat=xs:=fun e=>by rw[e,F2,Gb]
 have hx1:aQ=n→xs.take aQ.toNat++vs++xs.drop aQ.toNat=xs++vs:=fun e=>by rw[e,e2,Z8,T8 (C4 _),Qn (C4 _),F2]
 have hv0:M=0→vs=[]:=fun e=>List.length_eq_zero_iff.1 (by omega)
 have hcmp:∀op a b c,cmp op a b=c→Ir op a b=c:=fun op a b c h=>by rw[←cmp_eq];exact h
 cbv;refine AH hE hk hRL aQ n rfl rfl h0 (by omega) hlen fun _ _ _ _=>?_;cbv;refine Zw hE hM ?_;cbv;refine Ss hE (fun hc=>?_) (fun hc=>?_)
 ·cbv
  have hm0:M=0:=by simpa[Ir]using hcmp _ _ _ _ hc
  rw[hx0 (hv0 hm0)]at hK
  refine hK id lo n row pre rest H hrow.symm e1 e2 (.inl rfl) ?_;rw[AM];exact AT4 hk
 cbv
 have hm0:¬M=0:=by simpa[Ir]using hcmp _ _ _ _ hc
 refine VC hE ?_;cbv;refine Ss hE (fun hc2=>?_) (fun hc2=>?_)
 ·cbv
  have hin2:aQ=n:=by simpa[Ir]using hcmp _ _ _ _ hc2
  rw[hx1 hin2]at hK
  refine Ay2 hE hk hRL (y:=.sl vs .ro) (ys':=vs) ⟨.refl _,hvall⟩ hM (fun hfit m row1 q5 hr1=>?_) (fun hno=>⟨hbn,fun t m row1 j ht q5 hr1=>?_⟩)
  ·cbv;have h3:=AN7 hrow.symm e1 e2 hM q5 hr1;exact hK id lo m row1 pre _ _ h3.1 e1 h3.2 (.inl rfl) (by rw[AM];exact .refl _)
  cbv;have h3:=AC7 hrow.symm e1 e2 hM q5 hr1;exact hK t 0 m row1 [] _ _ h3.1 rfl h3.2 (.inr ht) Ai2
 cbv;refine AU0 hE hk hRL fun c hcap=>?_;cbv;refine Ss hE (fun hc3=>?_) (fun hc3=>?_)
 ·have hgr:c<n+M:=(hgt c _ hc3).1 rfl;cbv;refine AH hE hk hRL 0 aQ rfl rfl (Z2 _) h0 (by omega) fun l1 n1 q1 q2=>?_
  have q1':lo=l1:=by omega
  have q2':aQ=n1:=by omega
  subst q1' q2';cbv;refine AK4 hE (n+M - aQ) hd2 hk hRL (by omega) (hbn2 _ _ (by omega) (by omega) (by omega)) (fun hfit=>absurd hfit (by omega)) (fun hno t m row2 j ht qm hr2=>?_);obtain⟨L2,hL2,hL2'⟩:=hnl row2 _ j _ _ _ (by omega) (by omega) (by omega) (by omega) hr2;cbv;refine AH hE (D6 _ _ _) hL2 aQ m rfl rfl h0 (by omega) (by omega) fun l1' n1' q1 q2=>?_;cbv;refine Rn hE (D6 _ _ _) (y:=.sl vs .ro) (ys':=vs) ⟨.refl _,hvall⟩ hM fun cm row3 _ hr3=>?_;have hL3:=hov row2 row3 vs L2 l1' M n1' hL2 hM (by omega) (by omega) hr3;rw[AM];cbv;refine AH hE (D6 _ _ _) hL3 _ m haddi rfl (by omega) (by omega) (by omega) fun l2' n2' q3 q4=>?_;cbv;refine AH hE (hne _ _ ht) hRL aQ n rfl rfl h0 (by omega) hlen fun l3' n3' q5 q6=>?_;cbv;refine Rn hE (D6 _ _ _) (Vj hE (hne _ _ ht)) (hsubl l3' n3' (by omega) (by omega) (by omega)) fun cm2 row4 _ hr4=>?_;rw[AM];cbv;have h3:=AN6 (d:=n+M - aQ) (m:=m) hrow.symm e1 e2 hM h0 h1 rfl qm hr2 (by omega) q2 hr3 (by omega) (by omega) q5 q6 hr4;exact hK t 0 m row4 [] _ _ h3.1 rfl h3.2 (.inr ht) Ai2
 have hle':n+M≤c:=(hgt c _ hc3).2 rfl;cbv;refine AH hE hk hRL 0 (n+M) rfl hadd (Z2 _) (by omega) (by omega) fun l0 n0 ql qm=>?_;cbv;refine AH hE hk hRL _ n0 haddi rfl (by omega) (by omega) (by omega) fun l1 n1 q1 q2=>?_;cbv;refine AK5 hE (Ti (P:=prog) (f:=177) (tS:=22) (tR:=4) (e:=29) (sz:=14) (xs:=vs) (t:=.ro) Ba9 (by kernel_rfl) (by kernel_rfl) hk hvall) ?_;cbv;refine Ss hE (fun hc4=>?_) (fun hc4=>?_)
 rotate_left
 ·exact absurd (show Ar.nt false=false from hc4) (by rw[nt_eq];decide)
 cbv;refine AH hE hk hRL _ n0 haddi rfl (by omega) (by omega) (by omega) fun l1 n1 q1 q2=>?_;cbv;refine AH hE hk hRL aQ n0 rfl rfl h0 (by omega) (by omega) fun l2 n2 q3 q4=>?_;cbv;refine Rn hE hk (Vj hE hk) (hsubl l2 n2 (by omega) (by omega) (by omega)) fun cm row1 _ hr1=>?_;have hL1:=hov2 row1 l1 l2 n2 n1 (by omega) (by omega) (by omega) (by omega) (by omega) hr1;cbv;refine AH hE (D6 _ _ _) hL1 aQ n0 rfl rfl h0 (by omega) (by omega) fun l3 n3 q5 q6=>?_;cbv;refine Rn hE (D6 _ _ _) (y:=.sl vs .ro) (ys':=vs) ⟨.refl _,hvall⟩ hM fun cm2 row2 _ hr2=>?_;rw[AM];cbv;have h3:=AW0 (m:=n0) hrow.symm e1 e2 hM h0 h1 hRL (by omega) (by omega) (by omega) q1 q2 q3 q4 hr1 q5 q6 hr2;exact hK id l0 n0 row2 pre _ _ h3.1 (by omega) h3.2 (.inl rfl) (by rw[AM];exact .refl _)
def cf154 :Cf:=⟨[4],[],[],[],[],[]⟩
theorem c154 (N aK bN r)(h:AD N aK bN=some r):C0 prog 154 [vi aK,sr eBe0 bN] ((D2 r)):=by
 unfold AD at h
 refine O7 cf154 func154 call154 ntmps154 ?_;intro E H0 K hE hK hO;cbv;refine D3 hE hO fun b1 H hO=>?_;cbv;refine G1 hE ?_;cbv;refine B1 hE h (fun _ h=>?_) fun _ h=>?_
 ·cbv;refine C9 hE eBe1 h fun x2 h=>?_;cbv;refine A9 hE hO 0 rfl rfl fun H hO=>?_;cbv;refine B2 hE hO 0 rfl ?_;cbv;cases h;exact hK hO (.refl _)
 cbv;refine A9 hE hO 0 rfl rfl fun H hO=>?_;cbv;refine B2 hE hO 0 rfl ?_;cbv;cases h;exact hK hO (.agg (.cons (.refl _) (.cons (.refl _) (.cons (.refl _) (.cons (.refl _) (.cons (.refl _) (.cons (.refl _) (.cons (.refl _) (.cons (.lit _ (E0)) (.refl _))))))))))
def cf118 :Cf:=⟨[4],[],[(10,4)],[],[(20,5),(20,16)],[]⟩
theorem c118 (N bJ cJ r) (h:Aq N bJ cJ=some r):C0 prog 118 [(B8 bJ),sr eBe0 cJ] ((B8 r)):=by
 unfold Aq at h
 refine O7 cf118 func118 call118 ntmps118 ?_;intro E H0 K hE hK hO;cbv;refine D3 hE hO fun b1 H hO=>?_;cbv;refine OH hE (f:=eBe0) h (c152 N cJ) (.refl _) hO fun l2 q3 H hq3 hO h=>?_;cbv;obtain⟨s4,hx,h⟩:=bind_some h;refine Y4 cf118 hE Q6 (fun e l H1=>∃u1:OG,Hs u1 (Ar.len s4)∧e= .normal∧l=[(4,.v (.ref b1 0)),(5,.v (.own u1.id u1.lo u1.n))]∧C3 Eq H0 [ob u1 14 eBe0 s4,cb b1 [.bool false,vi 0,.sl [] .nil,vi 0,vi 0,vi 0,vi 0,vi 0,.sl [] .nil,vi 0,vi 0,vi 0,vi 0,vi 0,.str (⟨#[]⟩)]] H1) (by kernel_rfl) ?_ ?_
 ·clear h;have h:=hx;clear hx;cbv;refine B1 hE h (fun _ h=>?_) fun _ h=>?_
  ·cbv;refine Ib hE (f:=eBe0) hO hq3 0 rfl h (c153 N l2 0 ([bJ.p])) (.cons (.refl _) (.cons (.lit _ (I0 ((eBe1 bJ.p).symm) (E0))) (.refl _))) fun l5 q6 H hq6 hO h=>?_;cbv;cases h;exact⟨_,⟨q6,hq6,rfl,rfl,hO⟩,.e2 .z,rfl⟩
  cbv;cases h;exact⟨_,⟨q3,hq3,rfl,rfl,hO⟩,.e2 .z,rfl⟩
 clear hx;rintro e l H ⟨q7,hq7,rfl,rfl,hO⟩;cbv;refine AV0 hE hq7 ?_;cbv;refine B1 hE h (fun _ h=>?_) fun _ h=>?_
 ·cbv;refine A9 hE hO 1 rfl rfl fun H hO=>?_;cbv;refine B2 hE hO 1 rfl ?_;cbv;cases h;exact hK hO (.agg (.cons (.refl _) (.cons (.refl _) (.cons (.lit _ (E0)) (.cons (.refl _) (.cons (.refl _) (.cons (.refl _) (.cons (.refl _) (.cons (.refl _) (.cons (.lit _ (E0)) (.refl _)))))))))))
 cbv;refine VI hE hO hq7 0 rfl fun H hO=>?_;cbv;refine Fv hE (by trivial) ?_;cbv;refine A8 hE h (c154 N 1 s4) (.refl _) fun r8 h=>?_;cbv;refine A9 hE hO 0 rfl rfl fun H hO=>?_;cbv;refine B2 hE hO 0 rfl ?_;cbv;cases h;exact hK hO (.refl _)
def cf155 :Cf:=⟨[],[(5,6)],[],[],[],[]⟩
theorem c155 (N aH aQ bU r) (h:T3 N aH aQ bU=some r):Qh prog 155 [vi aQ,vi bU] 14 (lst eBe0 aH) (lst eBe0 r):=by
 unfold T3 at h
 obtain⟨x,h1,h2⟩:=bind_some h;cases M6 h2;obtain⟨h0,h1,h2,hr⟩:=AM6 (f:=eBe0) h1;rw[hr];clear hr h
 generalize lst eBe0 aH=xs at *
 rintro H ⟨id,lo,n,pre,rest⟩ ⟨e1,e2⟩ hk
 simp only at e1 e2 hk
 refine Th (T:=TT) cf155 Q6 func155 (by rfl) (by kernel_rfl) call155 ntmps155 (by rfl) (by rfl) ?_;intro E K hE hK
 simp only at hK ⊢
 generalize hrow:pre++xs++rest=row at hk
 obtain⟨RL,hRL⟩:∃RL:Int,RL=(row.length:Nat):=⟨_,rfl⟩
 have hlen:lo+n≤RL:=by rw[hRL,←hrow,e1,e2];simp;omega
 have hn0:0≤lo∧0≤n∧bU≤n:=by omega
 have hdl:∀l2 n2:Int,0≤l2→0≤n2→l2+n2≤RL→n2=((M4 row l2 n2).length:Nat):=fun l2 n2 a b c=>by rw[Cq a b (by rw[←hRL];exact c)];omega
 cbv;refine VC hE ?_;cbv;refine Ao0 hE hk hRL aQ bU rfl rfl h0 h1 (by omega) hlen rfl ?_;cbv;refine Ss hE (fun hc=>?_) (fun hc=>?_)
 ·cbv
  have hij:aQ=bU:=by rw[cmp_eq]at hc;simpa[Ir]using hc
  refine hK id lo n row pre rest H ?_ e1 ?_ (.inl rfl) ?_
  ·rw[←hrow,hij,Gb]
  ·rw[hij,Gb];exact e2
  rw[AM];intro y b hy
  by_cases ey:y=id
  ·subst ey;rw[D6]at hy;cases hy;exact hk
  rwa[C2 _ _ ey]at hy
 cbv;refine VC hE ?_;cbv;refine AH hE hk hRL 0 aQ rfl rfl (Z2 _) h0 (by omega) fun l1 n1 q1 q2=>?_;cbv;refine AH hE hk hRL bU n rfl rfl (by omega) (by omega) hlen fun l2 n2 q3 q4=>?_;cbv;have hsl:=hdl l2 n2 (by omega) (by omega) (by omega);refine Ay2 hE hk hRL (Vj hE hk) hsl (fun hfit m row1 q5 hr1=>?_) (fun hno=>absurd hno (by omega));cbv;refine VC hE ?_;cbv
 have hR1:RL=(row1.length:Nat):=by rw[hr1,Fh (AI4 hRL hsl (by omega) (by omega) hfit)];exact hRL
 refine AH hE (D6 _ _ _) hR1 m n rfl rfl (by omega) (by omega) (by omega) fun l3 n3 q6 q7=>?_;cbv;refine Ay1 hE (D6 _ _ _) fun row2 hr2=>?_;cbv;have hd:=AO7 hrow.symm e1 e2 h0 h1 h2 (by omega) (by omega) q3 q4 hr1 (q5.trans (J5 (n1+ ·) hsl)) q6 q7 hr2;rw[AM];exact hK id l1 m row2 pre _ _ hd.1 (by omega) hd.2 (.inl rfl) (by rw[AM];exact .refl _)
def cf119 :Cf:=⟨[6],[],[],[],[(22,7)],[]⟩
theorem c119 (N bN bG bJ r)(h:BE N bN bG bJ=some r):C0 prog 119 [sr eBe0 bN,vi bG,(B8 bJ)] ((B8 r)):=by
 unfold BE at h
 refine O7 cf119 func119 call119 ntmps119 ?_;intro E H0 K hE hK hO;cbv;refine D3 hE hO fun b1 H hO=>?_;cbv;refine OH hE (f:=eBe0) h (c152 N bN) (.refl _) hO fun l2 q3 H hq3 hO h=>?_;cbv;refine B1 hE h (fun _ h=>?_) fun _ h=>?_
 ·cbv;refine Ib hE (f:=eBe0) hO hq3 0 rfl h (c155 N l2 bG (ar .add .i64 bG 1)) (.refl _) fun l4 q5 H hq5 hO h=>?_;cbv;refine VI hE hO hq5 0 rfl fun H hO=>?_;cbv;refine A8 hE h (c154 N 3 l4) (.refl _) fun r6 h=>?_;cbv;refine A9 hE hO 0 rfl rfl fun H hO=>?_;cbv;refine B2 hE hO 0 rfl ?_;cbv;cases h;exact hK hO (.refl _)
 cbv;refine AA0 hE hO hq3 0 rfl h fun h=>?_;cbv;refine XC hE (f:=eBe0) (esz:=14) (tz:=14) (off:=0) (u:=(fun x7:A0=>bJ.p)) (fun _=>⟨_,.eq (eBe1 _) (.refl _),(by rw[eBe1];rfl),AR _,rfl⟩) (by decide) hO hq3 0 rfl h fun l8 H hq3 h hO=>?_;cbv;refine VI hE hO hq3 0 rfl fun H hO=>?_;cbv;refine A8 hE h (c154 N 3 l8) (.refl _) fun r9 h=>?_;cbv;refine A9 hE hO 0 rfl rfl fun H hO=>?_;cbv;refine B2 hE hO 0 rfl ?_;cbv;cases h;exact hK hO (.refl _)
def cf156 :Cf:=⟨[22],[],[],[],[],[]⟩
theorem c156 (N aH aR r) (h:CD N aH aR=some r):YI prog 156 [.sl [] .nil,vi aR] 8 (lst eBe5 r):=by
 unfold CD at h
 obtain⟨h1,h2,hr⟩:=SE (f:=eBe5) h;rw[hr];clear hr h;intro H0
 have hneg:∀b,cmp .lss aR 0=b→b=false:=fun b h=>by rw[cmp_eq]at h;subst h;simp[Ir];omega
 have hsub:ar .sub .i64 aR (ar .sub .i64 0 0)=aR:=by rw[ar_eq,ar_eq];simp only[arI];rw[show(0:Int) - 0=0 from rfl,wrap_small 0 (by omega) (by omega),KS];exact wrap_small _ (by omega) (by omega)
 have hgt:∀b,cmp .gtr (ar .sub .i64 aR (ar .sub .i64 0 0)) 0=b→(b=false→aR=0):=fun b h=>by rw[hsub,cmp_eq]at h;subst h;simp[Ir];omega
 have hbn:aR.toNat*88≤140737488355328:=by have:=OI (a:=aR.toNat) (b:=0) (by_:=88) (by omega) (by decide);simpa using this
 have hl0:(0:Int)=(([]:List V).length:Nat):=rfl;refine Gt (T:=TT) cf156 Q6 func156 (by rfl) (by kernel_rfl) call156 ntmps156 (by rfl) (by rfl) ?_;intro E K hE hK hN;cbv;refine Ss hE (fun hc=>absurd (hneg _ hc) (by decide)) (fun hc=>?_);cbv;refine Zw hE hl0 ?_;cbv;refine Ss hE (fun hc2=>?_) (fun hc2=>?_)
 ·cbv;refine VB hE ?_;cbv;refine Sr hE aR hsub (.inl rfl) h1 hbn fun t m row j ht hm hrow=>?_;obtain⟨RL,hRL,hR0⟩:∃RL:Int,RL=(row.length:Nat)∧0≤RL:=⟨_,rfl,by omega⟩;cbv;refine Zw hE hl0 ?_;cbv;refine AH hE (D6 _ _ _) hRL 0 0 rfl rfl (Z2 _) (Z2 _) hR0 fun l' n' q1 q2=>?_;cbv
  have e1:0=l':=by omega
  have e2:0=n':=by omega
  subst e1 e2;exact hK ⟨t,0,0,[],row⟩ [] _ ⟨rfl,rfl⟩ ((C3.start G4 rfl).push ht rfl)
 cbv;exact hN rfl [] H0 (.start G4 rfl)
theorem c122 (N aZ r) (h:V2 N aZ=some r):C0 prog 122 [sr eBg3 aZ] (sr eBe5 r):=by
 unfold V2 at h
 refine FK (T:=TT) cf0 Q6 func122 (by rfl) (by kernel_rfl) call122 ntmps122 (by rfl) (by rfl) ?_;intro E H0 K hE hK hF;have hO:C3 Eq H0 [] H0:=.start G4 rfl;cbv;refine G1 hE ?_;cbv;obtain⟨s2,hx,h⟩:=bind_some h;refine K0 cf0 hE Q6 (fun s1=>[(0,.v (sr eBg3 aZ)),fi 3 s1.1,(9,.v (sr eBg3 aZ)),fi 10 (Ar.len aZ),fi 11 s1.2]) (fun s1 H1=>C3 Eq H0 [] H1) (fun x e l H1=>e= .exit 0∧l=[(0,.v (sr eBg3 aZ)),fi 3 x]∧C3 Eq H0 [] H1) (by kernel_rfl) ?_ hx ?_ hO ?_
 ·intro s1 H o hO h;clear hx;cbv;refine B1 hE h (fun _ h=>?_) fun _ h=>?_
  ·cbv;refine C9 hE eBg8 h fun x3 h=>?_;cbv;refine G1 hE ?_;cbv;refine B1 hE h (fun _ h=>?_) fun _ h=>?_
   ·cbv;cases h
   cbv;cases h;exact⟨_,rfl,.e rfl (.e4 .z),rfl,hO⟩
  cbv;cases h;exact⟨_,_,rfl,⟨rfl,rfl,hO⟩,.e2 .z,rfl⟩
 ·exact .e rfl (.e4 .z)
 clear hx;rintro e l H ⟨rfl,rfl,hO⟩;cbv;refine OH hE (f:=eBe5) h (c156 N [] s2) (.cons (.refl _) (.cons (.refl _) .nil)) hO fun l4 q5 H hq5 hO h=>?_;cbv;refine G1 hE ?_;cbv;obtain⟨s8,hx,h⟩:=bind_some h;refine Bm cf0 hE Q6 (γ:=OG) (fun s6 g=>[(6,.v (.own g.id g.lo g.n)),(25,.v (sr eBg3 aZ)),fi 26 (Ar.len aZ),fi 27 s6.1]) (fun s6 g H1=>Hs g (Ar.len s6.2)∧C3 Eq H0 [ob g 8 eBe5 s6.2] H1) (fun x e l H1=>∃u1:OG,Hs u1 (Ar.len x)∧e= .exit 2∧l=[(6,.v (.own u1.id u1.lo u1.n))]∧C3 Eq H0 [ob u1 8 eBe5 x] H1) (by kernel_rfl) ?_ q5 hx ?_ ?_ ?_
 ·rintro s6 q7 H o ⟨hq7,hO⟩ h;clear hx;cbv;refine B1 hE h (fun _ h=>?_) fun _ h=>?_
  ·cbv;refine C9 hE eBg8 h fun x9 h=>?_;cbv;refine JD (f:=eBe5) hE WG (by decide) hO hq7 0 rfl (m:=x9) (HQ (f:=eBe5) hE WG (.refl _)) h fun l11 q10 H hq10 hO h=>?_;cbv;cases h;exact⟨_,q10,rfl,.e4 .z,rfl,hq10,hO⟩
  cbv;cases h;exact⟨_,_,rfl,⟨q7,hq7,rfl,rfl,hO⟩,.e rfl .z,rfl⟩
 ·exact .e4 .z
 ·exact⟨hq5,hO⟩
 clear hx;rintro e l H ⟨q12,hq12,rfl,rfl,hO⟩;cbv;cases h;exact hF q12 _ _ 0 _ _ hO rfl (Hy hE hq12) (.refl _)
def cf179 :Cf:=⟨[22],[],[],[],[],[]⟩
theorem c179 (N aH aR r) (h:DC N aH aR=some r):YI prog 179 [.sl [] .nil,vi aR] 1 (lst (V.int .i64) r):=by
 unfold DC at h
 obtain⟨h1,h2,hr⟩:=SE (f:=(V.int .i64)) h;rw[hr];clear hr h;intro H0
 have hneg:∀b,cmp .lss aR 0=b→b=false:=fun b h=>by rw[cmp_eq]at h;subst h;simp[Ir];omega
 have hsub:ar .sub .i64 aR (ar .sub .i64 0 0)=aR:=by rw[ar_eq,ar_eq];simp only[arI];rw[show(0:Int) - 0=0 from rfl,wrap_small 0 (by omega) (by omega),KS];exact wrap_small _ (by omega) (by omega)
 have hgt:∀b,cmp .gtr (ar .sub .i64 aR (ar .sub .i64 0 0)) 0=b→(b=false→aR=0):=fun b h=>by rw[hsub,cmp_eq]at h;subst h;simp[Ir];omega
 have hbn:aR.toNat*8≤140737488355328:=by have:=OI (a:=aR.toNat) (b:=0) (by_:=8) (by omega) (by decide);simpa using this
 have hl0:(0:Int)=(([]:List V).length:Nat):=rfl;refine Gt (T:=TT) cf179 Q6 func179 (by rfl) (by kernel_rfl) call179 ntmps179 (by rfl) (by rfl) ?_;intro E K hE hK hN;cbv;refine Ss hE (fun hc=>absurd (hneg _ hc) (by decide)) (fun hc=>?_);cbv;refine Zw hE hl0 ?_;cbv;refine Ss hE (fun hc2=>?_) (fun hc2=>?_)
 ·cbv;refine VB hE ?_;cbv;refine Sr hE aR hsub (.inl rfl) h1 hbn fun t m row j ht hm hrow=>?_;obtain⟨RL,hRL,hR0⟩:∃RL:Int,RL=(row.length:Nat)∧0≤RL:=⟨_,rfl,by omega⟩;cbv;refine Zw hE hl0 ?_;cbv;refine AH hE (D6 _ _ _) hRL 0 0 rfl rfl (Z2 _) (Z2 _) hR0 fun l' n' q1 q2=>?_;cbv
  have e1:0=l':=by omega
  have e2:0=n':=by omega
  subst e1 e2;exact hK ⟨t,0,0,[],row⟩ [] _ ⟨rfl,rfl⟩ ((C3.start G4 rfl).push ht rfl)
 cbv;exact hN rfl [] H0 (.start G4 rfl)
theorem c157 (N aZ r) (h:T4 N aZ=some r):C0 prog 157 [sr eLI aZ] (sr (V.int .i64) r):=by
 unfold T4 at h
 refine FK (T:=TT) cf0 Q6 func157 (by rfl) (by kernel_rfl) call157 ntmps157 (by rfl) (by rfl) ?_;intro E H0 K hE hK hF;have hO:C3 Eq H0 [] H0:=.start G4 rfl;cbv;refine G1 hE ?_;cbv;obtain⟨s2,hx,h⟩:=bind_some h;refine K0 cf0 hE Q6 (fun s1=>[(0,.v (sr eLI aZ)),fi 3 s1.1,(9,.v (sr eLI aZ)),fi 10 (Ar.len aZ),fi 11 s1.2]) (fun s1 H1=>C3 Eq H0 [] H1) (fun x e l H1=>e= .exit 0∧l=[(0,.v (sr eLI aZ)),fi 3 x]∧C3 Eq H0 [] H1) (by kernel_rfl) ?_ hx ?_ hO ?_
 ·intro s1 H o hO h;clear hx;cbv;refine B1 hE h (fun _ h=>?_) fun _ h=>?_
  ·cbv;refine C9 hE eBg1 h fun x3 h=>?_;cbv;refine G1 hE ?_;cbv;refine B1 hE h (fun _ h=>?_) fun _ h=>?_
   ·cbv;cases h
   cbv;cases h;exact⟨_,rfl,.e rfl (.e4 .z),rfl,hO⟩
  cbv;cases h;exact⟨_,_,rfl,⟨rfl,rfl,hO⟩,.e2 .z,rfl⟩
 ·exact .e rfl (.e4 .z)
 clear hx;rintro e l H ⟨rfl,rfl,hO⟩;cbv;refine OH hE (f:=(V.int .i64)) h (c179 N [] s2) (.cons (.refl _) (.cons (.refl _) .nil)) hO fun l4 q5 H hq5 hO h=>?_;cbv;refine G1 hE ?_;cbv;obtain⟨s8,hx,h⟩:=bind_some h;refine Bm cf0 hE Q6 (γ:=OG) (fun s6 g=>[(6,.v (.own g.id g.lo g.n)),(25,.v (sr eLI aZ)),fi 26 (Ar.len aZ),fi 27 s6.1]) (fun s6 g H1=>Hs g (Ar.len s6.2)∧C3 Eq H0 [ob g 1 (V.int .i64) s6.2] H1) (fun x e l H1=>∃u1:OG,Hs u1 (Ar.len x)∧e= .exit 2∧l=[(6,.v (.own u1.id u1.lo u1.n))]∧C3 Eq H0 [ob u1 1 (V.int .i64) x] H1) (by kernel_rfl) ?_ q5 hx ?_ ?_ ?_
 ·rintro s6 q7 H o ⟨hq7,hO⟩ h;clear hx;cbv;refine B1 hE h (fun _ h=>?_) fun _ h=>?_
  ·cbv;refine C9 hE eBg1 h fun x9 h=>?_;cbv;refine JD (f:=(V.int .i64)) hE (fun _=>rfl) (by decide) hO hq7 0 rfl (m:=x9) (HQ (f:=(V.int .i64)) hE (fun _=>rfl) (.refl _)) h fun l11 q10 H hq10 hO h=>?_;cbv;cases h;exact⟨_,q10,rfl,.e4 .z,rfl,hq10,hO⟩
  cbv;cases h;exact⟨_,_,rfl,⟨q7,hq7,rfl,rfl,hO⟩,.e rfl .z,rfl⟩
 ·exact .e4 .z
 ·exact⟨hq5,hO⟩
 clear hx;rintro e l H ⟨q12,hq12,rfl,rfl,hO⟩;cbv;cases h;exact hF q12 _ _ 0 _ _ hO rfl (Hy hE hq12) (.refl _)
def cf180 :Cf:=⟨[22],[],[],[],[],[]⟩
theorem c180 (N aH aR r) (h:BQ N aH aR=some r):YI prog 180 [.sl [] .nil,vi aR] 2 (lst eBe9 r):=by
 unfold BQ at h
 obtain⟨h1,h2,hr⟩:=SE (f:=eBe9) h;rw[hr];clear hr h;intro H0
 have hneg:∀b,cmp .lss aR 0=b→b=false:=fun b h=>by rw[cmp_eq]at h;subst h;simp[Ir];omega
 have hsub:ar .sub .i64 aR (ar .sub .i64 0 0)=aR:=by rw[ar_eq,ar_eq];simp only[arI];rw[show(0:Int) - 0=0 from rfl,wrap_small 0 (by omega) (by omega),KS];exact wrap_small _ (by omega) (by omega)
 have hgt:∀b,cmp .gtr (ar .sub .i64 aR (ar .sub .i64 0 0)) 0=b→(b=false→aR=0):=fun b h=>by rw[hsub,cmp_eq]at h;subst h;simp[Ir];omega
 have hbn:aR.toNat*16≤140737488355328:=by have:=OI (a:=aR.toNat) (b:=0) (by_:=16) (by omega) (by decide);simpa using this
 have hl0:(0:Int)=(([]:List V).length:Nat):=rfl;refine Gt (T:=TT) cf180 Q6 func180 (by rfl) (by kernel_rfl) call180 ntmps180 (by rfl) (by rfl) ?_;intro E K hE hK hN;cbv;refine Ss hE (fun hc=>absurd (hneg _ hc) (by decide)) (fun hc=>?_);cbv;refine Zw hE hl0 ?_;cbv;refine Ss hE (fun hc2=>?_) (fun hc2=>?_)
 ·cbv;refine VB hE ?_;cbv;refine Sr hE aR hsub (.inl rfl) h1 hbn fun t m row j ht hm hrow=>?_;obtain⟨RL,hRL,hR0⟩:∃RL:Int,RL=(row.length:Nat)∧0≤RL:=⟨_,rfl,by omega⟩;cbv;refine Zw hE hl0 ?_;cbv;refine AH hE (D6 _ _ _) hRL 0 0 rfl rfl (Z2 _) (Z2 _) hR0 fun l' n' q1 q2=>?_;cbv
  have e1:0=l':=by omega
  have e2:0=n':=by omega
  subst e1 e2;exact hK ⟨t,0,0,[],row⟩ [] _ ⟨rfl,rfl⟩ ((C3.start G4 rfl).push ht rfl)
 cbv;exact hN rfl [] H0 (.start G4 rfl)
theorem c158 (N aZ r) (h:X1 N aZ=some r):C0 prog 158 [sr eBg5 aZ] (sr eBe9 r):=by
 unfold X1 at h
 refine FK (T:=TT) cf0 Q6 func158 (by rfl) (by kernel_rfl) call158 ntmps158 (by rfl) (by rfl) ?_;intro E H0 K hE hK hF;have hO:C3 Eq H0 [] H0:=.start G4 rfl;cbv;refine G1 hE ?_;cbv;obtain⟨s2,hx,h⟩:=bind_some h;refine K0 cf0 hE Q6 (fun s1=>[(0,.v (sr eBg5 aZ)),fi 3 s1.1,(9,.v (sr eBg5 aZ)),fi 10 (Ar.len aZ),fi 11 s1.2]) (fun s1 H1=>C3 Eq H0 [] H1) (fun x e l H1=>e= .exit 0∧l=[(0,.v (sr eBg5 aZ)),fi 3 x]∧C3 Eq H0 [] H1) (by kernel_rfl) ?_ hx ?_ hO ?_
 ·intro s1 H o hO h;clear hx;cbv;refine B1 hE h (fun _ h=>?_) fun _ h=>?_
  ·cbv;refine C9 hE eBh0 h fun x3 h=>?_;cbv;refine G1 hE ?_;cbv;refine B1 hE h (fun _ h=>?_) fun _ h=>?_
   ·cbv;cases h
   cbv;cases h;exact⟨_,rfl,.e rfl (.e4 .z),rfl,hO⟩
  cbv;cases h;exact⟨_,_,rfl,⟨rfl,rfl,hO⟩,.e2 .z,rfl⟩
 ·exact .e rfl (.e4 .z)
 clear hx;rintro e l H ⟨rfl,rfl,hO⟩;cbv;refine OH hE (f:=eBe9) h (c180 N [] s2) (.cons (.refl _) (.cons (.refl _) .nil)) hO fun l4 q5 H hq5 hO h=>?_;cbv;refine G1 hE ?_;cbv;obtain⟨s8,hx,h⟩:=bind_some h;refine Bm cf0 hE Q6 (γ:=OG) (fun s6 g=>[(6,.v (.own g.id g.lo g.n)),(25,.v (sr eBg5 aZ)),fi 26 (Ar.len aZ),fi 27 s6.1]) (fun s6 g H1=>Hs g (Ar.len s6.2)∧C3 Eq H0 [ob g 2 eBe9 s6.2] H1) (fun x e l H1=>∃u1:OG,Hs u1 (Ar.len x)∧e= .exit 2∧l=[(6,.v (.own u1.id u1.lo u1.n))]∧C3 Eq H0 [ob u1 2 eBe9 x] H1) (by kernel_rfl) ?_ q5 hx ?_ ?_ ?_
 ·rintro s6 q7 H o ⟨hq7,hO⟩ h;clear hx;cbv;refine B1 hE h (fun _ h=>?_) fun _ h=>?_
  ·cbv;refine C9 hE eBh0 h fun x9 h=>?_;cbv;refine JD (f:=eBe9) hE Uc (by decide) hO hq7 0 rfl (m:=x9) (HQ (f:=eBe9) hE Uc (.refl _)) h fun l11 q10 H hq10 hO h=>?_;cbv;cases h;exact⟨_,q10,rfl,.e4 .z,rfl,hq10,hO⟩
  cbv;cases h;exact⟨_,_,rfl,⟨q7,hq7,rfl,rfl,hO⟩,.e rfl .z,rfl⟩
 ·exact .e4 .z
 ·exact⟨hq5,hO⟩
 clear hx;rintro e l H ⟨q12,hq12,rfl,rfl,hO⟩;cbv;cases h;exact hF q12 _ _ 0 _ _ hO rfl (Hy hE hq12) (.refl _)
def cf123 :Cf:=⟨[5,8],[],[(9,3),(25,5)],[],[],[]⟩
theorem c123 (N aA aM cD cP r) (h:U7 N aA aM cD cP=some r):C0 prog 123 [(D2 aA),(K3 aM),.bool cD,.bool cP] ((K3 r)):=by
 unfold U7 at h
 refine O7 cf123 func123 call123 ntmps123 ?_;intro E H0 K hE hK hO;cbv;refine D3 hE hO fun b1 H hO=>?_;cbv;refine D3 hE hO fun b2 H hO=>?_;cbv;obtain⟨s3,hx,h⟩:=bind_some h;refine Y4 cf123 hE Q6 (fun e l H1=>e= .normal∧l=[(2,.v (.bool cD)),(4,.v (.eref (E3 aA) 0)),(5,.v (.ref b1 0)),(8,.v (.ref b2 0))]∧C3 Eq H0 [cb b2 [vi 0,vi 0,vi 0,vi 0,vi 0,.sl [] .nil,vi 0,vi 0,vi 0,vi 0,vi 0,.str (⟨#[]⟩),.sl [] .nil,.sl [] .nil,.sl [] .nil,.sl [] .nil,.sl [] .nil],cb b1 (DM s3)] H1) (by kernel_rfl) ?_ ?_
 ·clear h;have h:=hx;clear hx;cbv;refine B1 hE h (fun _ h=>?_) fun _ h=>?_
  ·cbv;refine B2 hE hO 1 rfl ?_;cbv;refine A8 hE h (c157 N ([[aA.dG],aM.dM])) (.cons (.sl _ (.lstc (.eq (eBg1 ([aA.dG])) (.lit _ (I0 (rfl) (E0)))) (.lstc (.eq (eBg1 aM.dM) (.refl _)) (.lst0)))) (.refl _)) fun r4 h=>?_;cbv;refine A9 hE hO 1 rfl rfl fun H hO=>?_;cbv;cases h;exact⟨_,⟨rfl,rfl,hO⟩,.e4 .z,rfl⟩
  cbv;cases h;exact⟨_,⟨rfl,rfl,hO⟩,.e4 .z,rfl⟩
 clear hx;rintro e l H ⟨rfl,rfl,hO⟩;cbv;obtain⟨s5,hx,h⟩:=bind_some h;refine Y4 cf123 hE Q6 (fun e l H1=>e= .normal∧l=[(2,.v (.bool cD)),(4,.v (.eref (E3 aA) 0)),(5,.v (.ref b1 0)),(8,.v (.ref b2 0))]∧C3 Eq H0 [cb b2 [vi 0,vi 0,vi 0,vi 0,vi 0,.sl [] .nil,vi 0,vi 0,vi 0,vi 0,vi 0,.str (⟨#[]⟩),.sl [] .nil,.sl [] .nil,.sl [] .nil,.sl [] .nil,.sl [] .nil],cb b1 (DM s5)] H1) (by kernel_rfl) ?_ ?_
 ·clear h;have h:=hx;clear hx;cbv;refine B1 hE h (fun _ h=>?_) fun _ h=>?_
  ·cbv;refine B2 hE hO 1 rfl ?_;cbv;refine A8 hE h (c157 N ([[aA.dG],s3.dL])) (.cons (.sl _ (.lstc (.eq (eBg1 ([aA.dG])) (.lit _ (I0 (rfl) (E0)))) (.lstc (.eq (eBg1 s3.dL) (.refl _)) (.lst0)))) (.refl _)) fun r6 h=>?_;cbv;refine A9 hE hO 1 rfl rfl fun H hO=>?_;cbv;cases h;exact⟨_,⟨rfl,rfl,hO⟩,.e4 .z,rfl⟩
  cbv;refine B2 hE hO 1 rfl ?_;cbv;refine A8 hE h (c158 N ([[(⟨aA.dG,aA.Span⟩:As)],s3.dN])) (.cons (.sl _ (.lstc (.eq (eBh0 ([(⟨aA.dG,aA.Span⟩:As)])) (.lit _ (I0 ((eBg6 (⟨aA.dG,aA.Span⟩:As)).symm) (E0)))) (.lstc (.eq (eBh0 s3.dN) (.refl _)) (.lst0)))) (.refl _)) fun r7 h=>?_;cbv;refine A9 hE hO 1 rfl rfl fun H hO=>?_;cbv;cases h;exact⟨_,⟨rfl,rfl,hO⟩,.e4 .z,rfl⟩
 clear hx;rintro e l H ⟨rfl,rfl,hO⟩;cbv;refine B1 hE h (fun _ h=>?_) fun _ h=>?_
 ·cbv;refine B2 hE hO 1 rfl ?_;cbv;refine A8 hE h (c157 N ([s5.dJ,[aA.dG]])) (.cons (.sl _ (.lstc (.eq (eBg1 s5.dJ) (.refl _)) (.lstc (.eq (eBg1 ([aA.dG])) (.lit _ (I0 (rfl) (E0)))) (.lst0)))) (.refl _)) fun r8 h=>?_;cbv;refine A9 hE hO 1 rfl rfl fun H hO=>?_;cbv;refine B2 hE hO 1 rfl ?_;cbv;refine A9 hE hO 0 rfl rfl fun H hO=>?_;cbv;refine B2 hE hO 0 rfl ?_;cbv;cases h;exact hK hO (.refl _)
 cbv;refine B2 hE hO 1 rfl ?_;cbv;refine A9 hE hO 0 rfl rfl fun H hO=>?_;cbv;refine B2 hE hO 0 rfl ?_;cbv;cases h;exact hK hO (.refl _)
def cf124 :Cf:=⟨[3,6],[(1,5)],[],[],[],[(1,3,[10])]⟩
theorem c124 (N aA aK cK r)(h:BC N aA aK cK=some r):C0 prog 124 [(D2 aA),vi aK,(D2 cK)] ((D2 r)):=by
 unfold BC at h
 refine O7 cf124 func124 call124 ntmps124 ?_;intro E H0 K hE hK hO;cbv;refine D3 hE hO fun b1 H hO=>?_;cbv;refine D3 hE hO fun b2 H hO=>?_;cbv;refine Az5 hE hO 1 rfl fun H1 hT hW=>?_;cbv;refine Fv hE trivial ?_;cbv;refine AA3 hE hO 1 rfl hT fun H hO=>?_;cbv;refine A9 hE hO 1 rfl rfl fun H hO=>?_;cbv;refine B2 hE hO 1 rfl ?_;cbv;refine A9 hE hO 0 rfl rfl fun H hO=>?_;cbv;refine B2 hE hO 0 rfl ?_;cbv;cases h;exact hK hO (.agg (.cons (.refl _) (.cons (.lit _ (I0 ((eBe1 cK).symm) (E0))) (.refl _))))
def cf55 :Cf:=⟨[],[(9,5),(11,8)],[(8,6)],[],[],[]⟩
def K55 (N n:Nat):Prop:=∀(aA:A0) (r:(List (D7×A6))),M5 N n aA=some r→Bp prog 55 [(D2 aA)] (fun v=>FM prog v (r.map fun(x:(D7×A6))=>[(K3 x.1),(B8 x.2)]))
def K85 (N n:Nat):Prop:=∀(aA:A0) (r:(List (D7×A6))),AK N n aA=some r→Bp prog 85 [(D2 aA)] (fun v=>FM prog v (r.map fun(x:(D7×A6))=>[(K3 x.1),(B8 x.2)]))
def K86 (N n:Nat):Prop:=∀(bP:A0) (bV:A0) (r:(List (D7×A6))),U3 N n bP bV=some r→Bp prog 86 [(D2 bP),(D2 bV)] (fun v=>FM prog v (r.map fun(x:(D7×A6))=>[(K3 x.1),(B8 x.2)]))
def K87 (N n:Nat):Prop:=∀(aA:A0) (r:(List (D7×A6))),Ci N n aA=some r→Bp prog 87 [(D2 aA)] (fun v=>FM prog v (r.map fun(x:(D7×A6))=>[(K3 x.1),(B8 x.2)]))
def cf117 :Cf:=⟨[3,4,6,1000002],[(10,4)],[],[4],[],[]⟩
def AZ0 (N n:Nat):Prop:=∀(aF:A0) (r:(List (D7×A6))),Z0 N n aF=some r→Hh prog 117 (fun yv=>[yv,.eref (E3 aF) 0]) (List.map (fun(x:(D7×A6))=>[(K3 x.1),(B8 x.2)]) r) rbN
def cf120 :Cf:=⟨[1000003],[(5,11)],[],[],[],[]⟩
def AY9 (N n:Nat):Prop:=∀(aF:A0) (aJ:A0) (r:(List (D7×A6))),V1 N n aF aJ=some r→Hh prog 120 (fun yv=>[yv,.eref (E3 aF) 0,.eref (E3 aJ) 0]) (List.map (fun(x:(D7×A6))=>[(K3 x.1),(B8 x.2)]) r) rbN
def cf121 :Cf:=⟨[3,4,1000002],[],[(37,13),(50,17)],[2],[],[]⟩
def AY8 (N n:Nat):Prop:=∀(aF:A0) (r:(List (D7×A6))),Bj N n aF=some r→Hh prog 121 (fun yv=>[yv,.eref (E3 aF) 0]) (List.map (fun(x:(D7×A6))=>[(K3 x.1),(B8 x.2)]) r) rbN
theorem k55 (N n:Nat) (ih85:K85 N n) (ih86:K86 N n) (ih87:K87 N n):K55 N (n+1):=by
 intro aA r h
 unfold M5 at h
 refine P7 cf55 Q6 func55 (by rfl) (by kernel_rfl) call55 ntmps55 (by rfl) (by rfl) ?_;intro E H0 K hE hK;have hO:C3 Eq H0 [] H0:=.start G4 rfl;cbv;refine B1 hE h (fun _ h=>?_) fun _ h=>?_
 ·cbv;exact hK _ _ _ hO (S5 call84 (c84 N aA r h))
 cbv;obtain⟨s1,hx,h⟩:=bind_some h;refine Y4 cf55 hE Q6 (fun e l H1=>e= .normal∧l=[(1,.v (.eref (E3 aA) 0)),fi 4 aA.Op,(8,.v (.bool s1))]∧C3 Eq H0 [] H1) (by kernel_rfl) ?_ ?_
 ·clear h;have h:=hx;clear hx;cbv;refine B1 hE h (fun _ h=>?_) fun _ h=>?_
  ·cbv;cases h;exact⟨_,⟨rfl,rfl,hO⟩,.e rfl (.e2 .z),rfl⟩
  cbv;refine B1 hE h (fun _ h=>?_) fun _ h=>?_
  ·cbv;cases h;exact⟨_,⟨rfl,rfl,hO⟩,.e rfl (.e2 .z),rfl⟩
  cbv;cases h;exact⟨_,⟨rfl,rfl,hO⟩,.e rfl (.e2 .z),rfl⟩
 clear hx;rintro e l H ⟨rfl,rfl,hO⟩;cbv;refine B1 hE h (fun _ h=>?_) fun _ h=>?_
 ·cbv;refine De hE h (ih85 aA) (.refl _) fun r2 v3 hv3 h=>?_;cbv;cases h;exact hK _ _ _ hO hv3
 cbv;refine B1 hE h (fun _ h=>?_) fun _ h=>?_
 ·cbv;refine C9 hE eBe1 h fun x4 h=>?_;cbv;refine De hE h (ih86 x4 aA) (.refl _) fun r5 v6 hv6 h=>?_;cbv;cases h;exact hK _ _ _ hO hv6
 cbv;refine B1 hE h (fun _ h=>?_) fun _ h=>?_
 ·cbv;refine C9 hE eBe1 h fun x7 h=>?_;cbv;refine Az7 hE (f:=eBe0) AR h fun l8 h=>?_;cbv;refine De hE h (ih86 x7 (⟨4,l8,0,0,0,0,(⟨0,[],0,0,0,(⟨0,0,⟨#[]⟩⟩:A7)⟩:B0)⟩:A0)) (.cons (.refl _) (.cons (.agg (.cons (.refl _) (.cons (.ro _ _) (.cons (.refl _) (.cons (.refl _) (.cons (.refl _) (.cons (.refl _) (.cons (.refl _) (.cons (.lit _ (E0)) (.refl _)))))))))) (.refl _))) fun r9 v10 hv10 h=>?_;cbv;cases h;exact hK _ _ _ hO hv10
 cbv;refine De hE h (ih87 aA) (.refl _) fun r11 v12 hv12 h=>?_;cbv;cases h;exact hK _ _ _ hO hv12
theorem k85 (N n:Nat)(ih117:AZ0 N n):K85 N (n+1):=by
 intro aA r h
 unfold AK at h
 refine P7 cf0 Q6 func85 (by rfl) (by kernel_rfl) call85 ntmps85 (by rfl) (by rfl) ?_;intro E H0 K hE hK;have hO:C3 Eq H0 [] H0:=.start G4 rfl;cbv;exact hK _ _ _ hO (S5 call117 (ih117 aA r h))
theorem k86 (N n:Nat)(ih120:AY9 N n):K86 N (n+1):=by
 intro bP bV r h
 unfold U3 at h
 refine P7 cf0 Q6 func86 (by rfl) (by kernel_rfl) call86 ntmps86 (by rfl) (by rfl) ?_;intro E H0 K hE hK;have hO:C3 Eq H0 [] H0:=.start G4 rfl;cbv;exact hK _ _ _ hO (S5 call120 (ih120 bP bV r h))
theorem k87 (N n:Nat)(ih121:AY8 N n):K87 N (n+1):=by
 intro aA r h
 unfold Ci at h
 refine P7 cf0 Q6 func87 (by rfl) (by kernel_rfl) call87 ntmps87 (by rfl) (by rfl) ?_;intro E H0 K hE hK;have hO:C3 Eq H0 [] H0:=.start G4 rfl;cbv;exact hK _ _ _ hO (S5 call121 (ih121 aA r h))
theorem k117 (N n:Nat) (ih55:K55 N n):AZ0 N (n+1):=by
 intro aF r h
 unfold Z0 at h
 obtain⟨⟨w0,u0⟩,h1,hr⟩:=bind_some h;clear h;have hr:=M6 hr;subst hr;have h:=h1;clear h1;refine O4 cf117 Q6 func117 (by rfl) (by kernel_rfl) call117 ntmps117 (by rfl) (fun _=>rfl) ?_;intro yv I D hI hD hy tl F E H K hE hO hK hKD
 have hO:C3 (I (List.map (fun(x:(D7×A6))=>[(K3 x.1),(B8 x.2)]) (w0++[])++tl)) F [] H:=by rw[F2];exact hO
 cbv;refine Fv hE hy.1 ?_;cbv;refine G1 hE ?_;cbv;obtain⟨w3,w4,s7,hx,h1,he⟩:=N4 h;clear h;have h:=h1;clear h1
 rw[he,D4]at hO
 clear he;refine AA2 cf117 hE Q6 (γ:=Unit) (fun s2 g=>[(1,.v (.eref (E3 aF) 0)),(2,.v (.eref [yv] 0)),(8,.v (sr eBe0 aF.dD)),fi 9 (Ar.len aF.dD),fi 10 s2]) (fun s2 g ds1 w H1=>C3 (I (List.map (fun(x:(D7×A6))=>[(K3 x.1),(B8 x.2)]) w++tl)) F (Tb ds1) H1) (fun x e l ds1 w H1=>match(generalizing:=false) x with| .inl y=>e= .exit 0∧l=[]∧C3 (I (List.map (fun(x:(D7×A6))=>[(K3 x.1),(B8 x.2)]) w++tl)) F (Tb ds1) H1| .inr y=>e= .ret∧l=[]∧C3 (I (List.map (fun(x:(D7×A6))=>[(K3 x.1),(B8 x.2)]) w++tl)) F (Tb ds1) H1) (fun e l ds1 H1=>(e= .ret∧l=[]∧C3 D F (Tb ds1) H1)) (by kernel_rfl) ?_ (w':=w4++[]) () hx rfl ?_ ?_ ?_ ?_
 ·rintro s2 _ ds1 w5 w6 H o hO h;clear hx
  skip
  cbv;refine B1 hE h (fun _ h=>?_) fun _ h=>?_
  ·cbv;refine C9 hE eBe1 h fun x8 h=>?_;cbv;refine D3 hE hO fun b9 H hO=>?_;cbv;refine D3 hE hO fun b10 H hO=>?_;cbv;refine A9 hE hO 1 rfl rfl fun H hO=>?_;cbv;refine A9 hE hO 0 rfl rfl fun H hO=>?_;cbv;refine B2 hE hO 1 rfl ?_;cbv;refine B1 hE h (fun _ h=>?_) fun _ h=>?_
   ·cbv;obtain⟨hw,rfl⟩:=D0 h
    rw[←hw]at hO
    exact .inl ⟨_,_,_,rfl,⟨rfl,rfl,hO.tail.tail⟩,.z,rfl⟩
   cbv;refine B2 hE hO 0 rfl ?_;cbv;refine De hE h (ih55 x8) (.refl _) fun r11 v12 hv12 h=>?_;cbv;obtain⟨w16,w17,o20,hx,h1,he⟩:=N4 h;clear h;have h:=h1;clear h1
   rw[he,D4]at hO
   clear he;refine OE cf117 hE Q6 (ι:=Nat) (σ:=Unit) (R:=Unit) (enc:=fun(x:(D7×A6))=>[(K3 x.1),(B8 x.2)]) (fun _ w F1 H=>C3 (I (List.map (fun(x:(D7×A6))=>[(K3 x.1),(B8 x.2)]) w++tl)) F1 (cb b10 (E3 x8)::cb b9 [vi s2]::Tb ds1) H) (fun _ e w F1 H=>False) (fun e F1 H=>e= .ret∧C3 D F1 (cb b10 (E3 x8)::cb b9 [vi s2]::Tb ds1) H) (fun i _ y13=>[(1,.v (.eref (E3 aF) 0)),(2,.v (.eref [yv] 0)),(3,.v (.ref b9 0)),(5,.v (.eref (DM y13.1) 0)),(6,.v (.ref i 0))]) (fun i _ y13 w F1 H=>C3 (I (List.map (fun(x:(D7×A6))=>[(K3 x.1),(B8 x.2)]) w++tl)) F1 (cb i (M8 y13.2)::cb b10 (E3 x8)::cb b9 [vi s2]::Tb ds1) H) (fun _ _=>C3.stable (hI _) _) (fun _ _ _=>⟨fun h=>h.elim,fun _ _ h=>h.elim⟩) (fun _=>H6.con (C3.stable hD _)) (fun _ _ _ _=>C3.stable (hI _) _) hv12 hx (w':=w17++w6) hO (by decide) (fun _=>rfl) (by kernel_rfl) (by kernel_rfl) ?_ ?_ ?_ ?_ ?_
   ·rintro E i15 y13 _ w F14 H hE hO;clear hx h;cbv;refine D3 hE hO fun b21 H hO=>?_;cbv;refine A9 hE hO 0 rfl rfl fun H hO=>?_;cbv;exact⟨b21,hO,.e rfl (.e4 .z),rfl⟩
   ·rintro E i15 b21 y13 _ w18 w19 F14 H o hE hF h hO;clear hx;cbv;obtain⟨w23,w24,s22,hx,h1,he⟩:=N4 h;clear h;have h:=h1;clear h1
    rw[he,D4]at hO
    clear he;refine Y4 cf117 hE Q6 (fun e l H1=>(e= .normal∧l=[(2,.v (.eref [yv] 0)),(5,.v (.eref (DM y13.1) 0)),(6,.v (.ref b21 0))]∧C3 (I (List.map (fun(x:(D7×A6))=>[(K3 x.1),(B8 x.2)]) (w24++w19)++tl)) F14 (cb b21 (M8 s22)::cb b10 (E3 x8)::cb b9 [vi s2]::Tb ds1) H1)∨(False)) (by kernel_rfl) ?_ ?_
    ·clear h;have h:=hx;clear hx;cbv;refine B1 hE h (fun _ h=>?_) fun _ h=>?_
     ·cbv;refine B2 hE hO 0 rfl ?_;cbv;refine Ko hE (f:=eBe0) AR h fun l25 t26 h=>?_;cbv;refine A8 hE h (c118 N y13.2 l25) (.cons (.refl _) (.cons (.ro _ _) (.refl _))) fun r27 h=>?_;cbv;refine A9 hE hO 0 rfl rfl fun H hO=>?_;cbv;obtain⟨hw,rfl⟩:=D0 h
      rw[←hw]at hO
      exact⟨_,.inl ⟨rfl,rfl,hO⟩,.e rfl (.e2 .z),rfl⟩
     cbv;refine B1 hE h (fun _ h=>?_) fun _ h=>?_
     ·cbv;refine B2 hE hO 2 rfl ?_;cbv;refine B2 hE hO 0 rfl ?_;cbv;refine A8 hE h (c119 N aF.dD s2 y13.2) (.refl _) fun r28 h=>?_;cbv;refine A9 hE hO 0 rfl rfl fun H hO=>?_;cbv;obtain⟨hw,rfl⟩:=D0 h
      rw[←hw]at hO
      exact⟨_,.inl ⟨rfl,rfl,hO⟩,.e rfl (.e2 .z),rfl⟩
     cbv;obtain⟨hw,rfl⟩:=D0 h
     rw[←hw]at hO
     exact⟨_,.inl ⟨rfl,rfl,hO⟩,.e rfl (.e2 .z),rfl⟩
    clear hx;rintro e l H hX
    rcases hX with hX|hX
    ·obtain⟨rfl,rfl,hO⟩:=hX;cbv;refine B2 hE hO 0 rfl ?_;cbv;obtain⟨w29,h1,he⟩:=S8 h;clear h;have h:=h1;clear h1
     rw[he,D4]at hO
     clear he;have hO:C3 (I ([(K3 y13.1),(B8 s22)]::(List.map (fun(x:(D7×A6))=>[(K3 x.1),(B8 x.2)]) (w29++w19)++tl))) F14 (cb b21 (M8 s22)::cb b10 (E3 x8)::cb b9 [vi s2]::Tb ds1) _:=hO;refine CI hE hI hD hy hO (.refl _) (fun H hO=>?_) (fun H hO=>?_)
     ·cbv;refine Id hE (nt_eq _) ?_;cbv;obtain⟨hw,rfl⟩:=D0 h
      rw[←hw]at hO
      exact⟨_,rfl,hO.tail⟩
     clear h;cbv;refine Ic hE (nt_eq _) ?_;cbv
     first|exact .inr ⟨rfl,rfl,hO.tail⟩|exact .inr (hO.tail)
    exact hX.elim
   ·rintro d30 _ H rfl hd hO;have hO:C3 (I (List.map (fun(x:(D7×A6))=>[(K3 x.1),(B8 x.2)]) (w17++w6)++tl)) F (cb b10 (E3 x8)::cb b9 [vi s2]::Tb (d30::ds1)) H:=C3.dbs1 (A:=[_,_]) (ds:=ds1) (C3.dblk hd hO);clear hd hx;cbv;obtain⟨hw,rfl⟩:=D0 h
    rw[←hw]at hO
    exact⟨_,(),_,rfl,.e rfl (.e4 .z),rfl,hO.tail.tail⟩
   ·rintro _ _ _ _ _ _ h;exact h.elim
   rintro d30 e H hd ⟨rfl,hO⟩;have hO:C3 D F (cb b10 (E3 x8)::cb b9 [vi s2]::Tb (d30::ds1)) H:=C3.dbs1 (A:=[_,_]) (ds:=ds1) (C3.dblk hd hO);clear hd hx h;cbv;exact .inr ⟨_,_,⟨rfl,rfl,hO.tail.tail⟩,.z,rfl⟩
  cbv;obtain⟨hw,rfl⟩:=D0 h
  rw[←hw]at hO
  exact .inl ⟨_,_,_,rfl,⟨rfl,rfl,hO⟩,.z,rfl⟩
 ·exact .e rfl (.e4 .z)
 ·exact hO
 ·rintro e l ds1 H hX;clear hx
  rcases s7 with y31|y32
  ·obtain⟨rfl,rfl,hO⟩:=hX;cbv
   rcases ds1 with _|⟨d0,ds1⟩
   ·cbv;have hO:C3 _ _ [] H:=hO;obtain⟨hw,_⟩:=D0 h
    rw[←hw]at hO
    exact hK _ _ _ hO trivial
   cbv;refine ZI (A:=[]) (ds:=d0::ds1) hE hO fun H hO=>?_;cbv;obtain⟨hw,_⟩:=D0 h
   rw[←hw]at hO
   exact hK _ _ _ hO trivial
  obtain⟨rfl,rfl,hO⟩:=hX;cbv
  rcases ds1 with _|⟨d0,ds1⟩
  ·cbv;have hO:C3 _ _ [] H:=hO;obtain⟨hw,_⟩:=D0 h
   rw[←hw]at hO
   exact hK _ _ _ hO trivial
  cbv;refine ZI (A:=[]) (ds:=d0::ds1) hE hO fun H hO=>?_;cbv;obtain⟨hw,_⟩:=D0 h
  rw[←hw]at hO
  exact hK _ _ _ hO trivial
 rintro e l ds1 H hX;obtain⟨rfl,rfl,hO⟩:=hX;clear h;cbv
 rcases ds1 with _|⟨d0,ds1⟩
 ·cbv;have hO:C3 _ _ [] H:=hO;exact hKD _ _ _ hO trivial
 cbv;refine ZI (A:=[]) (ds:=d0::ds1) hE hO fun H hO=>?_;cbv;exact hKD _ _ _ hO trivial
theorem k120 (N n:Nat) (ih55:K55 N n):AY9 N (n+1):=by
 intro aF aJ r h
 unfold V1 at h
 obtain⟨⟨w0,u0⟩,h1,hr⟩:=bind_some h;clear h;have hr:=M6 hr;subst hr;have h:=h1;clear h1;refine O4 cf120 Q6 func120 (by rfl) (by kernel_rfl) call120 ntmps120 (by rfl) (fun _=>rfl) ?_;intro yv I D hI hD hy tl F E H K hE hO hK hKD
 have hO:C3 (I (List.map (fun(x:(D7×A6))=>[(K3 x.1),(B8 x.2)]) (w0++[])++tl)) F [] H:=by rw[F2];exact hO
 cbv;refine Fv hE hy.1 ?_;cbv;refine De hE h (ih55 aF) (.refl _) fun r1 v2 hv2 h=>?_;cbv;obtain⟨w6,w7,o10,hx,h1,he⟩:=N4 h;clear h;have h:=h1;clear h1
 rw[he,D4]at hO
 clear he;refine OE cf120 hE Q6 (ι:=Unit) (σ:=Unit) (R:=Unit) (enc:=fun(x:(D7×A6))=>[(K3 x.1),(B8 x.2)]) (fun _ w F1 H=>C3 (I (List.map (fun(x:(D7×A6))=>[(K3 x.1),(B8 x.2)]) w++tl)) F1 [] H) (fun _ e w F1 H=>False) (fun e F1 H=>e= .ret∧C3 D F1 [] H) (fun i _ y3=>[(2,.v (.eref (E3 aJ) 0)),(3,.v (.eref [yv] 0)),(4,.v (.eref (DM y3.1) 0)),(5,.v (.eref (M8 y3.2) 0))]) (fun i _ y3 w F1 H=>C3 (I (List.map (fun(x:(D7×A6))=>[(K3 x.1),(B8 x.2)]) w++tl)) F1 [] H) (fun _ _=>C3.stable (hI _) _) (fun _ _ _=>⟨fun h=>h.elim,fun _ _ h=>h.elim⟩) (fun _=>H6.con (C3.stable hD _)) (fun _ _ _ _=>C3.stable (hI _) _) hv2 hx (w':=w7++[]) hO (by decide) (fun _=>rfl) (by kernel_rfl) (by kernel_rfl) ?_ ?_ ?_ ?_ ?_
 ·rintro E i5 y3 _ w F4 H hE hO;clear hx h;cbv;exact⟨(),hO,.e4 .z,rfl⟩
 ·rintro E i5 _ y3 _ w8 w9 F4 H o hE hF h hO;clear hx;cbv;refine B1 hE h (fun _ h=>?_) fun _ h=>?_
  ·cbv;refine C9 hE eBe1 h fun x11 h=>?_;cbv;obtain⟨w12,h1,he⟩:=S8 h;clear h;have h:=h1;clear h1
   rw[he,D4]at hO
   clear he;have hO:C3 (I ([(K3 y3.1),.agg [.bool false,vi 8,sr eBe0 ([y3.2.p,x11]),vi 0,vi 0,vi 0,vi 0,vi 0,sr eBe5 ([]),vi 0,vi 0,vi 0,vi 0,vi 0,.str (⟨#[]⟩)]]::(List.map (fun(x:(D7×A6))=>[(K3 x.1),(B8 x.2)]) (w12++w9)++tl))) F4 [] _:=hO;refine CI hE hI hD hy hO (.cons (.refl _) (.cons (.agg (.cons (.refl _) (.cons (.refl _) (.cons (.lit _ (I0 ((eBe1 y3.2.p).symm) (I0 ((eBe1 x11).symm) (E0)))) (.cons (.refl _) (.cons (.refl _) (.cons (.refl _) (.cons (.refl _) (.cons (.refl _) (.cons (.lit _ (E0)) (.refl _))))))))))) (.refl _))) (fun H hO=>?_) (fun H hO=>?_)
   ·cbv;refine Id hE (nt_eq _) ?_;cbv;obtain⟨hw,rfl⟩:=D0 h
    rw[←hw]at hO
    exact⟨_,rfl,hO⟩
   clear h;cbv;refine Ic hE (nt_eq _) ?_;cbv
   first|exact .inr ⟨rfl,rfl,hO⟩|exact .inr (hO)
  cbv;obtain⟨w13,h1,he⟩:=S8 h;clear h;have h:=h1;clear h1
  rw[he,D4]at hO
  clear he;have hO:C3 (I ([(K3 y3.1),(B8 y3.2)]::(List.map (fun(x:(D7×A6))=>[(K3 x.1),(B8 x.2)]) (w13++w9)++tl))) F4 [] _:=hO;refine CI hE hI hD hy hO (.refl _) (fun H hO=>?_) (fun H hO=>?_)
  ·cbv;refine Id hE (nt_eq _) ?_;cbv;obtain⟨w14,h1,he⟩:=S8 h;clear h;have h:=h1;clear h1
   rw[he,D4]at hO
   clear he;have hO:C3 (I ([(K3 y3.1),.agg [.bool false,vi aJ.Op,sr eBe0 aJ.dD,vi aJ.Typ,vi aJ.Var,vi aJ.dG,vi aJ.Span,vi aJ.dE.Op,sr eBe5 aJ.dE.dD,vi aJ.dE.Var,vi aJ.dE.Field,vi aJ.dE.Kind,vi aJ.dE.Value.Kind,vi aJ.dE.Value.Num,.str aJ.dE.Value.Text]]::(List.map (fun(x:(D7×A6))=>[(K3 x.1),(B8 x.2)]) (w14++w9)++tl))) F4 [] _:=hO;refine CI hE hI hD hy hO (.refl _) (fun H hO=>?_) (fun H hO=>?_)
   ·cbv;refine Id hE (nt_eq _) ?_;cbv;obtain⟨hw,rfl⟩:=D0 h
    rw[←hw]at hO
    exact⟨_,rfl,hO⟩
   clear h;cbv;refine Ic hE (nt_eq _) ?_;cbv
   first|exact .inr ⟨rfl,rfl,hO⟩|exact .inr (hO)
  clear h;cbv;refine Ic hE (nt_eq _) ?_;cbv
  first|exact .inr ⟨rfl,rfl,hO⟩|exact .inr (hO)
 ·rintro d15 _ H rfl hd hO;have hO:C3 (I (List.map (fun(x:(D7×A6))=>[(K3 x.1),(B8 x.2)]) (w7++[])++tl)) F [.blk d15 DB] H:=C3.dblk hd hO;clear hd hx;cbv;refine Ia hE hO 0 rfl fun H hO=>?_;cbv;obtain⟨hw,_⟩:=D0 h
  rw[←hw]at hO
  exact hK _ _ _ hO trivial
 ·rintro _ _ _ _ _ _ h;exact h.elim
 rintro d15 e H hd ⟨rfl,hO⟩;have hO:C3 D F [.blk d15 DB] H:=C3.dblk hd hO;clear hd hx h;cbv;refine Ia hE hO 0 rfl fun H hO=>?_;cbv;exact hKD _ _ _ hO trivial
theorem k121 (N n:Nat) (ih55:K55 N n):AY8 N (n+1):=by
 intro aF r h
 unfold Bj at h
 obtain⟨⟨w0,u0⟩,h1,hr⟩:=bind_some h;clear h;have hr:=M6 hr;subst hr;have h:=h1;clear h1;refine O4 cf121 Q6 func121 (by rfl) (by kernel_rfl) call121 ntmps121 (by rfl) (fun _=>rfl) ?_;intro yv I D hI hD hy tl F E H K hE hO hK hKD
 have hO:C3 (I (List.map (fun(x:(D7×A6))=>[(K3 x.1),(B8 x.2)]) (w0++[])++tl)) F [] H:=by rw[F2];exact hO
 cbv;refine Fv hE hy.1 ?_;cbv;refine C9 hE eBe1 h fun x1 h=>?_;cbv;refine De hE h (ih55 x1) (.refl _) fun r2 v3 hv3 h=>?_;cbv;obtain⟨w7,w8,o11,hx,h1,he⟩:=N4 h;clear h;have h:=h1;clear h1
 rw[he,D4]at hO
 clear he;refine OE cf121 hE Q6 (ι:=Nat×Nat) (σ:=Unit) (R:=Unit) (enc:=fun(x:(D7×A6))=>[(K3 x.1),(B8 x.2)]) (fun _ w F1 H=>C3 (I (List.map (fun(x:(D7×A6))=>[(K3 x.1),(B8 x.2)]) w++tl)) F1 [] H) (fun _ e w F1 H=>False) (fun e F1 H=>e= .ret∧C3 D F1 [] H) (fun i _ y4=>[(1,.v (.eref (E3 aF) 0)),(2,.v (.eref [yv] 0)),(3,.v (.ref i.2 0)),(4,.v (.ref i.1 0))]) (fun i _ y4 w F1 H=>C3 (I (List.map (fun(x:(D7×A6))=>[(K3 x.1),(B8 x.2)]) w++tl)) F1 [.blk i.1 (.cells (M8 y4.2)),.blk i.2 (.cells (DM y4.1))] H) (fun _ _=>C3.stable (hI _) _) (fun _ _ _=>⟨fun h=>h.elim,fun _ _ h=>h.elim⟩) (fun _=>H6.con (C3.stable hD _)) (fun _ _ _ _=>C3.stable (hI _) _) hv3 hx (w':=w8++[]) hO (by decide) (fun _=>rfl) (by kernel_rfl) (by kernel_rfl) ?_ ?_ ?_ ?_ ?_
 ·rintro E i6 y4 _ w F5 H hE hO;clear hx h;cbv;refine D3 hE hO fun b12 H hO=>?_;cbv;refine A9 hE hO 0 rfl rfl fun H hO=>?_;cbv;refine D3 hE hO fun b13 H hO=>?_;cbv;refine A9 hE hO 0 rfl rfl fun H hO=>?_;cbv;exact⟨⟨b13,b12⟩,hO,.e4 .z,rfl⟩
 ·rintro E i6 ⟨b13,b12⟩ y4 _ w9 w10 F5 H o hE hF h hO;clear hx;cbv;obtain⟨w15,w16,s14,hx,h1,he⟩:=N4 h;clear h;have h:=h1;clear h1
  rw[he,D4]at hO
  clear he;refine Y4 cf121 hE Q6 (fun e l H1=>(e= .normal∧l=[(1,.v (.eref (E3 aF) 0)),(2,.v (.eref [yv] 0)),(3,.v (.ref b12 0)),(4,.v (.ref b13 0)),fi 5 s14.1]∧C3 (I (List.map (fun(x:(D7×A6))=>[(K3 x.1),(B8 x.2)]) (w16++w10)++tl)) F5 [cb b13 (M8 y4.2),cb b12 (DM s14.2)] H1)∨(False)) (by kernel_rfl) ?_ ?_
  ·clear h;have h:=hx;clear hx;cbv;refine B1 hE h (fun _ h=>?_) fun _ h=>?_
   ·cbv;refine B2 hE hO 0 rfl ?_;cbv;refine B1 hE h (fun _ h=>?_) fun _ h=>?_
    ·cbv;refine B2 hE hO 1 rfl ?_;cbv;refine A8 hE h (c122 N ([y4.1.dH,[aF.dE]])) (.cons (.sl _ (.lstc (.eq (eBg8 y4.1.dH) (.refl _)) (.lstc (.eq (eBg8 ([aF.dE])) (.lit _ (I0 ((eBf0 aF.dE).symm) (E0)))) (.lst0)))) (.refl _)) fun r17 h=>?_;cbv;refine A9 hE hO 1 rfl rfl fun H hO=>?_;cbv;obtain⟨hw,rfl⟩:=D0 h
     rw[←hw]at hO
     exact⟨_,.inl ⟨rfl,rfl,hO⟩,.e rfl (.e4 .z),rfl⟩
    cbv;obtain⟨hw,rfl⟩:=D0 h
    rw[←hw]at hO
    exact⟨_,.inl ⟨rfl,rfl,hO⟩,.e rfl (.e4 .z),rfl⟩
   cbv;obtain⟨w19,w20,s18,hx,h1,he⟩:=N4 h;clear h;have h:=h1;clear h1
   rw[he,D4]at hO
   clear he;refine Y4 cf121 hE Q6 (fun e l H1=>(e= .normal∧l=[(1,.v (.eref (E3 aF) 0)),(2,.v (.eref [yv] 0)),(3,.v (.ref b12 0)),(4,.v (.ref b13 0)),(37,.v (.bool s18))]∧C3 (I (List.map (fun(x:(D7×A6))=>[(K3 x.1),(B8 x.2)]) (w20++(w16++w10))++tl)) F5 [cb b13 (M8 y4.2),cb b12 (DM y4.1)] H1)∨(False)) (by kernel_rfl) ?_ ?_
   ·clear h;have h:=hx;clear hx;cbv;refine B1 hE h (fun _ h=>?_) fun _ h=>?_
    ·cbv;obtain⟨hw,rfl⟩:=D0 h
     rw[←hw]at hO
     exact⟨_,.inl ⟨rfl,rfl,hO⟩,.e rfl (.e4 .z),rfl⟩
    cbv;obtain⟨hw,rfl⟩:=D0 h
    rw[←hw]at hO
    exact⟨_,.inl ⟨rfl,rfl,hO⟩,.e rfl (.e4 .z),rfl⟩
   clear hx;rintro e l H hX
   rcases hX with hX|hX
   ·obtain⟨rfl,rfl,hO⟩:=hX;cbv;refine B1 hE h (fun _ h=>?_) fun _ h=>?_
    ·cbv;refine B2 hE hO 1 rfl ?_;cbv;refine B2 hE hO 0 rfl ?_;cbv;refine A8 hE h (c123 N aF y4.1 y4.2.done (cmp .eql aF.Op 5)) (.refl _) fun r21 h=>?_;cbv;refine A9 hE hO 1 rfl rfl fun H hO=>?_;cbv;obtain⟨hw,rfl⟩:=D0 h
     rw[←hw]at hO
     exact⟨_,.inl ⟨rfl,rfl,hO⟩,.e rfl (.e4 .z),rfl⟩
    cbv;refine B2 hE hO 1 rfl ?_;cbv;refine B2 hE hO 0 rfl ?_;cbv;refine A8 hE h (c123 N aF y4.1 y4.2.done (cmp .eql aF.Op 6)) (.refl _) fun r22 h=>?_;cbv;refine A9 hE hO 1 rfl rfl fun H hO=>?_;cbv;obtain⟨hw,rfl⟩:=D0 h
    rw[←hw]at hO
    exact⟨_,.inl ⟨rfl,rfl,hO⟩,.e rfl (.e4 .z),rfl⟩
   exact hX.elim
  clear hx;rintro e l H hX
  rcases hX with hX|hX
  ·obtain⟨rfl,rfl,hO⟩:=hX;cbv;refine B2 hE hO 0 rfl ?_;cbv;obtain⟨w24,w25,s23,hx,h1,he⟩:=N4 h;clear h;have h:=h1;clear h1
   rw[he,D4]at hO
   clear he;refine Y4 cf121 hE Q6 (fun e l H1=>(e= .normal∧l=[(2,.v (.eref [yv] 0)),(3,.v (.ref b12 0)),(4,.v (.ref b13 0))]∧C3 (I (List.map (fun(x:(D7×A6))=>[(K3 x.1),(B8 x.2)]) (w25++w10)++tl)) F5 [cb b13 (M8 s23),cb b12 (DM s14.2)] H1)∨(False)) (by kernel_rfl) ?_ ?_
   ·clear h;have h:=hx;clear hx;cbv;refine B1 hE h (fun _ h=>?_) fun _ h=>?_
    ·cbv;refine B2 hE hO 0 rfl ?_;cbv;refine A8 hE h (c124 N aF s14.1 y4.2.p) (.refl _) fun r26 h=>?_;cbv;refine A9 hE hO 0 rfl rfl fun H hO=>?_;cbv;obtain⟨hw,rfl⟩:=D0 h
     rw[←hw]at hO
     exact⟨_,.inl ⟨rfl,rfl,hO⟩,.e rfl (.e2 .z),rfl⟩
    cbv;obtain⟨hw,rfl⟩:=D0 h
    rw[←hw]at hO
    exact⟨_,.inl ⟨rfl,rfl,hO⟩,.e rfl (.e2 .z),rfl⟩
   clear hx;rintro e l H hX
   rcases hX with hX|hX
   ·obtain⟨rfl,rfl,hO⟩:=hX;cbv;refine B2 hE hO 1 rfl ?_;cbv;refine B2 hE hO 0 rfl ?_;cbv;obtain⟨w27,h1,he⟩:=S8 h;clear h;have h:=h1;clear h1
    rw[he,D4]at hO
    clear he;have hO:C3 (I ([(K3 s14.2),(B8 s23)]::(List.map (fun(x:(D7×A6))=>[(K3 x.1),(B8 x.2)]) (w27++w10)++tl))) F5 [cb b13 (M8 s23),cb b12 (DM s14.2)] _:=hO;refine CI hE hI hD hy hO (.refl _) (fun H hO=>?_) (fun H hO=>?_)
    ·cbv;refine Id hE (nt_eq _) ?_;cbv;obtain⟨hw,rfl⟩:=D0 h
     rw[←hw]at hO
     exact⟨_,rfl,hO.tail.tail⟩
    clear h;cbv;refine Ic hE (nt_eq _) ?_;cbv
    first|exact .inr ⟨rfl,rfl,hO.tail.tail⟩|exact .inr (hO.tail.tail)
   exact hX.elim
  exact hX.elim
 ·rintro d28 _ H rfl hd hO;have hO:C3 (I (List.map (fun(x:(D7×A6))=>[(K3 x.1),(B8 x.2)]) (w8++[])++tl)) F [.blk d28 DB] H:=C3.dblk hd hO;clear hd hx;cbv;refine Ia hE hO 0 rfl fun H hO=>?_;cbv;obtain⟨hw,_⟩:=D0 h
  rw[←hw]at hO
  exact hK _ _ _ hO trivial
 ·rintro _ _ _ _ _ _ h;exact h.elim
 rintro d28 e H hd ⟨rfl,hO⟩;have hO:C3 D F [.blk d28 DB] H:=C3.dblk hd hO;clear hd hx h;cbv;refine Ia hE hO 0 rfl fun H hO=>?_;cbv;exact hKD _ _ _ hO trivial
end Go.Ab
namespace Go.Ab
open Go.RowKit Go.Proofs Go.Proofs.Tryz L9
variable [Ar][L9]
set_option maxRecDepth 100000
theorem JE (N:Nat):∀n,K55 N n∧K85 N n∧K86 N n∧K87 N n∧AZ0 N n∧AY9 N n∧AY8 N n:=by
 intro n
 induction n with
 |zero=>exact⟨(by intro aA r h;unfold M5 at h;cases h),(by intro aA r h;unfold AK at h;cases h),(by intro bP bV r h;unfold U3 at h;cases h),(by intro aA r h;unfold Ci at h;cases h),(by intro aF r h;unfold Z0 at h;cases h),(by intro aF aJ r h;unfold V1 at h;cases h),(by intro aF r h;unfold Bj at h;cases h)⟩
 |succ n ih=>
  obtain⟨ih55,ih85,ih86,ih87,ih117,ih120,ih121⟩:=ih;exact⟨k55 N n ih85 ih86 ih87,k85 N n ih117,k86 N n ih120,k87 N n ih121,k117 N n ih55,k120 N n ih55,k121 N n ih55⟩
theorem c55 (N n aA r)(h:M5 N n aA=some r):Bp prog 55 [(D2 aA)] (fun v=>FM prog v (r.map fun(x:(D7×A6))=>[(K3 x.1),(B8 x.2)])):=(JE N n).1 aA r h
theorem c88 (N:Nat) (aH:List D7) (bC:V) (aW:D7→Option Bool) (bM:∀y1 q,aW y1=some q→Y5 prog bC [(K3 y1)] (.bool q)) (r:Int) (h:Q8 N aH aW=some r):C0 prog 88 [sr eBf2 aH,bC] (vi r):=by
 unfold Q8 at h
 refine O7 cf0 func88 call88 ntmps88 ?_;intro E H0 K hE hK hO;cbv;refine G1 hE ?_;cbv;obtain⟨s2,hx,h⟩:=bind_some h;refine K0 cf0 hE Q6 (fun s1=>[(0,.v (sr eBf2 aH)),(1,.v (bC)),fi 7 (Ar.len aH),fi 8 s1]) (fun s1 H1=>C3 Eq H0 [] H1) (fun x e l H1=>match(generalizing:=false) x with| .inl y=>e= .exit 0∧l=[]∧C3 Eq H0 [] H1| .inr y=>e= .ret∧l=[fi 4 y]∧C3 Eq H0 [] H1) (by kernel_rfl) ?_ hx ?_ hO ?_
 ·intro s1 H o hO h;clear hx;cbv;refine B1 hE h (fun _ h=>?_) fun _ h=>?_
  ·cbv;refine C9 hE eBf3 h fun x3 h=>?_;cbv;refine Bn hE (g:=fun r4=>.bool r4) h (fun r4 hx=>bM x3 r4 hx) (.refl _) fun r4 h=>?_;cbv;refine B1 hE h (fun _ h=>?_) fun _ h=>?_
   ·cbv;cases h;exact⟨_,_,rfl,⟨rfl,rfl,hO⟩,.e rfl .z,rfl⟩
   cbv;cases h;exact⟨_,rfl,.e4 .z,rfl,hO⟩
  cbv;cases h;exact⟨_,_,rfl,⟨rfl,rfl,hO⟩,.z,rfl⟩
 ·exact .e4 .z
 clear hx
 rcases s2 with y5|y6
 ·rintro e l H ⟨rfl,rfl,hO⟩;cbv;cases h;exact hK hO (.refl _)
 rintro e l H ⟨rfl,rfl,hO⟩;cbv;cases h;exact hK hO (.refl _)
theorem c56 (N:Nat)(aH:List D7)(bC:V)(aW:D7→Option Bool)(bM:∀y1 q,aW y1=some q→Y5 prog bC [(K3 y1)] (.bool q))(r:Bool)(h:I9 N aH aW=some r):C0 prog 56 [sr eBf2 aH,bC] (.bool r):=by
 unfold I9 at h
 refine O7 cf0 func56 call56 ntmps56 ?_;intro E H0 K hE hK hO;cbv;refine A8 hE h (c88 N aH bC aW bM) (.refl _) fun r1 h=>?_;cbv;cases h;exact hK hO (.refl _)
def cf33 :Cf:=⟨[],[(6,8)],[],[],[],[]⟩
theorem c33 (N aX bB r) (h:K2 N aX bB=some r):C0 prog 33 [sr (V.int .i64) aX,sr (V.int .i64) bB] (.bool r):=by
 unfold K2 at h
 refine O7 cf33 func33 call33 ntmps33 ?_;intro E H0 K hE hK hO;cbv;refine G1 hE ?_;cbv;refine G1 hE ?_;cbv;refine B1 hE h (fun _ h=>?_) fun _ h=>?_
 ·cbv;cases h;exact hK hO (.refl _)
 cbv;refine G1 hE ?_;cbv;obtain⟨s2,hx,h⟩:=bind_some h;refine K0 cf33 hE Q6 (fun s1=>[(0,.v (sr (V.int .i64) aX)),(1,.v (sr (V.int .i64) bB)),fi 12 (Ar.len aX),fi 13 s1]) (fun s1 H1=>C3 Eq H0 [] H1) (fun x e l H1=>match(generalizing:=false) x with| .inl y=>e= .exit 0∧l=[]∧C3 Eq H0 [] H1| .inr y=>e= .ret∧l=[(4,.b false)]∧C3 Eq H0 [] H1) (by kernel_rfl) ?_ hx ?_ hO ?_
 ·intro s1 H o hO h;clear hx;cbv;refine B1 hE h (fun _ h=>?_) fun _ h=>?_
  ·cbv;refine C9 hE (fun _=>rfl) h fun x3 h=>?_;cbv;refine C9 hE (fun _=>rfl) h fun x4 h=>?_;cbv;refine B1 hE h (fun _ h=>?_) fun _ h=>?_
   ·cbv;cases h;exact⟨_,_,rfl,⟨rfl,rfl,hO⟩,.b rfl (.z),rfl⟩
   cbv;cases h;exact⟨_,rfl,.e4 .z,rfl,hO⟩
  cbv;cases h;exact⟨_,_,rfl,⟨rfl,rfl,hO⟩,.z,rfl⟩
 ·exact .e4 .z
 clear hx
 rcases s2 with y5|y6
 ·rintro e l H ⟨rfl,rfl,hO⟩;cbv;cases h;exact hK hO (.refl _)
 rintro e l H ⟨rfl,rfl,hO⟩;cbv;cases h;exact hK hO (.refl _)
def cf34 :Cf:=⟨[],[(6,8)],[],[],[],[]⟩
theorem c34 (N aX bB r) (h:O5 N aX bB=some r):C0 prog 34 [sr eBe9 aX,sr eBe9 bB] (.bool r):=by
 unfold O5 at h
 refine O7 cf34 func34 call34 ntmps34 ?_;intro E H0 K hE hK hO;cbv;refine G1 hE ?_;cbv;refine G1 hE ?_;cbv;refine B1 hE h (fun _ h=>?_) fun _ h=>?_
 ·cbv;cases h;exact hK hO (.refl _)
 cbv;refine G1 hE ?_;cbv;obtain⟨s2,hx,h⟩:=bind_some h;refine K0 cf34 hE Q6 (fun s1=>[(0,.v (sr eBe9 aX)),(1,.v (sr eBe9 bB)),fi 12 (Ar.len aX),fi 13 s1]) (fun s1 H1=>C3 Eq H0 [] H1) (fun x e l H1=>match(generalizing:=false) x with| .inl y=>e= .exit 0∧l=[]∧C3 Eq H0 [] H1| .inr y=>e= .ret∧l=[(4,.b false)]∧C3 Eq H0 [] H1) (by kernel_rfl) ?_ hx ?_ hO ?_
 ·intro s1 H o hO h;clear hx;cbv;refine B1 hE h (fun _ h=>?_) fun _ h=>?_
  ·cbv;refine C9 hE eBg6 h fun x3 h=>?_;cbv;refine C9 hE eBg6 h fun x4 h=>?_;cbv;refine B1 hE h (fun _ h=>?_) fun _ h=>?_
   ·cbv;cases h;exact⟨_,_,rfl,⟨rfl,rfl,hO⟩,.b rfl (.z),rfl⟩
   cbv;cases h;exact⟨_,rfl,.e4 .z,rfl,hO⟩
  cbv;cases h;exact⟨_,_,rfl,⟨rfl,rfl,hO⟩,.z,rfl⟩
 ·exact .e4 .z
 clear hx
 rcases s2 with y5|y6
 ·rintro e l H ⟨rfl,rfl,hO⟩;cbv;cases h;exact hK hO (.refl _)
 rintro e l H ⟨rfl,rfl,hO⟩;cbv;cases h;exact hK hO (.refl _)
def cf89 :Cf:=⟨[8],[],[],[],[],[]⟩
theorem c89 (N:Nat) (aX:List B0) (bB:List B0) (cA:V) (bS:B0→B0→Option Bool) (cS:∀y1 y2 q,bS y1 y2=some q→Y5 prog cA [(V9 y1),(V9 y2)] (.bool q)) (r:Bool) (h:J8 N aX bB bS=some r):C0 prog 89 [sr eBe5 aX,sr eBe5 bB,cA] (.bool r):=by
 unfold J8 at h
 refine O7 cf89 func89 call89 ntmps89 ?_;intro E H0 K hE hK hO;cbv;refine G1 hE ?_;cbv;refine G1 hE ?_;cbv;refine B1 hE h (fun _ h=>?_) fun _ h=>?_
 ·cbv;cases h;exact hK hO (.refl _)
 cbv;refine G1 hE ?_;cbv;obtain⟨s2,hx,h⟩:=bind_some h;refine K0 cf89 hE Q6 (fun s1=>[(1,.v (sr eBe5 bB)),(2,.v (cA)),(15,.v (sr eBe5 aX)),fi 16 (Ar.len aX),fi 17 s1]) (fun s1 H1=>C3 Eq H0 [] H1) (fun x e l H1=>match(generalizing:=false) x with| .inl y=>e= .exit 0∧l=[]∧C3 Eq H0 [] H1| .inr y=>e= .ret∧l=[(6,.b false)]∧C3 Eq H0 [] H1) (by kernel_rfl) ?_ hx ?_ hO ?_
 ·intro s1 H o hO h;clear hx;cbv;refine B1 hE h (fun _ h=>?_) fun _ h=>?_
  ·cbv;refine C9 hE eBf0 h fun x3 h=>?_;cbv;refine D3 hE hO fun b4 H hO=>?_;cbv;refine A9 hE hO 0 rfl rfl fun H hO=>?_;cbv;refine C9 hE eBf0 h fun x5 h=>?_;cbv;refine B2 hE hO 0 rfl ?_;cbv;refine Bn hE (g:=fun r6=>.bool r6) h (fun r6 hx=>cS x3 x5 r6 hx) (.refl _) fun r6 h=>?_;cbv;refine B1 hE h (fun _ h=>?_) fun _ h=>?_
   ·cbv;cases h;exact⟨_,_,rfl,⟨rfl,rfl,hO.tail⟩,.b rfl (.z),rfl⟩
   cbv;cases h;exact⟨_,rfl,.e rfl (.e4 .z),rfl,hO.tail⟩
  cbv;cases h;exact⟨_,_,rfl,⟨rfl,rfl,hO⟩,.z,rfl⟩
 ·exact .e rfl (.e4 .z)
 clear hx
 rcases s2 with y7|y8
 ·rintro e l H ⟨rfl,rfl,hO⟩;cbv;cases h;exact hK hO (.refl _)
 rintro e l H ⟨rfl,rfl,hO⟩;cbv;cases h;exact hK hO (.refl _)
theorem c58 (N aB aD r) (h:AJ N aB aD=some r):C0 prog 58 [(K3 aB),(K3 aD)] (.bool r):=by
 unfold AJ at h
 refine O7 cf0 func58 call58 ntmps58 ?_;intro E H0 K hE hK hO;cbv;refine B1 hE h (fun _ h=>?_) fun _ h=>?_
 ·cbv;refine A8 hE h (c82 N N aB.dE aD.dE) (.refl _) fun r1 h=>?_;cbv;refine B1 hE h (fun _ h=>?_) fun _ h=>?_
  ·cbv;refine A8 hE h (c33 N aB.dM aD.dM) (.refl _) fun r2 h=>?_;cbv;refine B1 hE h (fun _ h=>?_) fun _ h=>?_
   ·cbv;refine A8 hE h (c33 N aB.dJ aD.dJ) (.refl _) fun r3 h=>?_;cbv;refine B1 hE h (fun _ h=>?_) fun _ h=>?_
    ·cbv;refine A8 hE (g:=fun r4=>.bool r4) h (fun r4 hx=>c89 N aB.dH aD.dH (.func (.func 82) [] []) (fun y1 y2=>Ch N N y1 y2) (fun y1 y2 r hx=>C0.value (F:=[]) (C:=[]) (c82 N N y1 y2 r hx)) r4 hx) (.refl _) fun r4 h=>?_;cbv;refine B1 hE h (fun _ h=>?_) fun _ h=>?_
     ·cbv;refine A8 hE h (c34 N aB.dN aD.dN) (.refl _) fun r5 h=>?_;cbv;refine B1 hE h (fun _ h=>?_) fun _ h=>?_
      ·cbv;refine A8 hE h (c33 N aB.dL aD.dL) (.refl _) fun r6 h=>?_;cbv;cases h;exact hK hO (.refl _)
      cbv;cases h;exact hK hO (.refl _)
     cbv;cases h;exact hK hO (.refl _)
    cbv;cases h;exact hK hO (.refl _)
   cbv;cases h;exact hK hO (.refl _)
  cbv;cases h;exact hK hO (.refl _)
 cbv;cases h;exact hK hO (.refl _)
theorem c57 (N bE aF r)(h:M7 N bE aF=some r):C0 prog 57 [(K3 bE),.eref (DM aF) 0] (.bool r):=by
 unfold M7 at h
 refine O7 cf0 func57 call57 ntmps57 ?_;intro E H0 K hE hK hO;cbv;refine B1 hE h (fun _ h=>?_) fun _ h=>?_
 ·cbv;refine A8 hE h (c58 N aF bE) (.refl _) fun r1 h=>?_;cbv;cases h;exact hK hO (.refl _)
 cbv;cases h;exact hK hO (.refl _)
def cf37 :Cf:=⟨[2,3,4,5,6,7],[(13,5),(18,3)],[(16,9)],[1000013],[(40,7)],[(18,2,[2])]⟩
theorem c37 (N aA r) (h:Ae N aA=some r):C0 prog 37 [(D2 aA)] (.tup [sr eBf2 r.1,sr eBe0 r.2.1,vi r.2.2]):=by
 unfold Ae at h
 refine O7 cf37 func37 call37 ntmps37 ?_;intro E H0 K hE hK hO;cbv;refine D3 hE hO fun b1 H hO=>?_;cbv;refine D3 hE hO fun b2 H hO=>?_;cbv;refine D3 hE hO fun b3 H hO=>?_;cbv;refine D3 hE hO fun b4 H hO=>?_;cbv;refine D3 hE hO fun b5 H hO=>?_;cbv;refine De hE h (c55 N N aA) (.refl _) fun r6 v7 hv7 h=>?_;cbv;replace hO:=hO.tl0 (t:=.nil) rfl;replace hO:=hO.tl0 (t:=.nil) rfl;obtain⟨o14,hx,h⟩:=bind_some h;replace hO:=hO.cast (L':=[.tl .nil,.tl .nil,cb b5 [.sl (lst eBe0 ([])) .nil],cb b4 [.sl (lst eBf2 ([])) .nil],cb b3 [vi 0],cb b2 [.sl [] .nil],cb b1 [.sl [] .nil]]) (by simp only[ob,cb,sr,←E0]<;>rfl);refine OF cf37 hE Q6 (ι:=Nat) (enc:=fun(x:(D7×A6))=>[(K3 x.1),(B8 x.2)]) (fun(s9:(List A0)×(List D7)) F H=>∃g:G3×G3,(Au g.1∧Au g.2)∧C3 Eq F [.tl g.1,.tl g.2,cb b5 [.sl (lst eBe0 s9.1) g.2],cb b4 [.sl (lst eBf2 s9.2) g.1],cb b3 [vi 0],cb b2 [.sl [] .nil],cb b1 [.sl [] .nil]] H) (fun(r:((List A0)×(List D7)×Int)) e F H=>∃g:G3×G3,(e= .ret∧Au g.1∧Au g.2)∧C3 Eq F [.tl g.1,.tl g.2,cb b5 [.sl (lst eBe0 r.1) g.2],cb b4 [.sl (lst eBf2 r.2.1) g.1],cb b3 [vi r.2.2],cb b2 [.sl [] .nil],cb b1 [.sl [] .nil]] H) (fun i s9 y8=>[(2,.v (.ref b1 0)),(3,.v (.ref b2 0)),(4,.v (.ref b3 0)),(5,.v (.ref b4 0)),(6,.v (.ref b5 0)),(7,.v (.ref i 0)),(8,.v (.eref (M8 y8.2) 0))]) (fun i s9 y8 F H=>∃g:G3×G3,(Au g.1∧Au g.2)∧C3 Eq F [cb i (DM y8.1),.tl g.1,.tl g.2,cb b5 [.sl (lst eBe0 s9.1) g.2],cb b4 [.sl (lst eBf2 s9.2) g.1],cb b3 [vi 0],cb b2 [.sl [] .nil],cb b1 [.sl [] .nil]] H) (fun _=>H6.ex fun _=>C3.stable G4 _) (fun _ _=>H6.ex fun _=>C3.stable G4 _) (fun _ _ _=>H6.ex fun _=>C3.stable G4 _) hv7 hx (⟨⟨.nil,.nil⟩,⟨trivial,trivial⟩,hO⟩) (by decide) (fun _=>rfl) (by kernel_rfl) (by kernel_rfl) ?_ ?_ ?_ ?_
 ·rintro E i11 y8 s9 F10 H hE ⟨⟨t12,t13⟩,⟨ht12,ht13⟩,hO⟩;clear hx h;cbv;refine D3 hE hO fun b15 H hO=>?_;cbv;refine A9 hE hO 0 rfl rfl fun H hO=>?_;cbv;exact⟨b15,⟨⟨t12,t13⟩,⟨ht12,ht13⟩,hO⟩,.e rfl (.e2 (.e4 .z)),rfl⟩
 ·rintro E i11 b15 y8 s9 F10 H o hE hF h ⟨⟨t12,t13⟩,⟨ht12,ht13⟩,hO⟩;clear hx;cbv;refine A9 hE hO 0 rfl rfl fun H hO=>?_;cbv;obtain⟨s16,hx,h⟩:=bind_some h;refine Y4 cf37 hE Q6 (fun e l H1=>match(generalizing:=false) s16 with| .inl y=>∃u1:G3,Au u1∧e= .normal∧l=[(2,.v (.ref b1 0)),(3,.v (.ref b2 0)),(4,.v (.ref b3 0)),(5,.v (.ref b4 0)),(7,.v (.ref b15 0))]∧C3 Eq F10 [cb b15 (DM y.1),.tl t12,.tl u1,cb b5 [.sl (lst eBe0 y.2) u1],cb b4 [.sl (lst eBf2 s9.2) t12],cb b3 [vi 0],cb b2 [.sl [] .nil],cb b1 [.sl [] .nil]] H1| .inr y=>e= .ret∧l=[(2,.v (.ref b1 0)),(3,.v (.ref b2 0)),(4,.v (.ref b3 0))]∧C3 Eq F10 [cb b15 (DM y.1),.tl t12,.tl t13,cb b5 [.sl (lst eBe0 s9.1) t13],cb b4 [.sl (lst eBf2 s9.2) t12],cb b3 [vi y.2],cb b2 [.sl [] .nil],cb b1 [.sl [] .nil]] H1) (by kernel_rfl) ?_ ?_
  ·clear h;have h:=hx;clear hx;cbv;refine B1 hE h (fun _ h=>?_) fun _ h=>?_
   ·cbv;refine B2 hE hO 3 rfl ?_;cbv;refine A8 hE h (c45 N s9.1 y8.2.p) (.cons (.ro _ _) (.refl _)) fun r17 h=>?_;cbv;refine A9 hE hO 0 rfl rfl fun H hO=>?_;cbv;refine B2 hE hO 0 rfl ?_;cbv;refine B1 hE h (fun _ h=>?_) fun _ h=>?_
    ·cbv;refine A8 hE h (c36 N y8.2.p) (.refl _) fun r18 h=>?_;cbv;refine B1 hE h (fun _ h=>?_) fun _ h=>?_
     ·cbv;refine A9 hE hO 7 rfl rfl fun H hO=>?_;cbv;refine A9 hE hO 6 rfl rfl fun H hO=>?_;cbv;refine A9 hE hO 5 rfl rfl fun H hO=>?_;cbv;cases h;exact⟨_,⟨rfl,rfl,hO⟩,.e rfl (.e2 .z),rfl⟩
     cbv;refine B2 hE hO 3 rfl ?_;cbv;refine G1 hE ?_;cbv;refine A9 hE hO 0 rfl rfl fun H hO=>?_;cbv;refine B2 hE hO 3 rfl ?_;cbv;refine G1 hE ?_;cbv;refine Fv hE (by first|exact Ah1 _|exact AB8 _|trivial|rfl) ?_;cbv;refine BS (f:=eBe0) hE AR (by decide) hO 2 rfl ht13 (l:=s9.1) (m:=[y8.2.p]) (.refl _) (.lstc (.eq (eBe1 y8.2.p) (.refl _)) (.lst0)) h fun l20 t19 H hO ht19 h=>?_;cbv;refine Az6 hE hO 3 rfl rfl fun H hO=>?_;cbv;cases h;exact⟨_,⟨t19,ht19,rfl,rfl,hO⟩,.e rfl (.e4 .z),rfl⟩
    cbv;cases h;exact⟨_,⟨t13,ht13,rfl,rfl,hO⟩,.e rfl (.e4 .z),rfl⟩
   cbv;cases h;exact⟨_,⟨t13,ht13,rfl,rfl,hO⟩,.e rfl (.e4 .z),rfl⟩
  clear hx
  rcases s16 with y21|y26
  ·rintro e l H ⟨t22,ht22,rfl,rfl,hO⟩;cbv;refine B2 hE hO 4 rfl ?_;cbv;refine Bb2 hE hO 0 rfl fun H hO=>?_;cbv;refine A8 hE (g:=fun r23=>.bool r23) h (fun r23 hx=>c56 N s9.2 (.func (.func 57) [] [.eref (DM y21.1) 0]) (fun y1=>M7 N y1 y21.1) (fun y1 r hx=>C0.value (F:=[]) (C:=[.eref (DM y21.1) 0]) (c57 N y1 y21.1 r hx)) r23 hx) (.cons (.ro _ _) (.refl _)) fun r23 h=>?_;cbv;refine B1 hE h (fun _ h=>?_) fun _ h=>?_
   ·cbv;cases h;exact⟨_,rfl,⟨⟨t12,t22⟩,⟨ht12,ht22⟩,hO⟩⟩
   cbv;refine B2 hE hO 3 rfl ?_;cbv;refine BS (f:=eBf2) hE Av9 (by decide) hO 0 rfl ht12 (l:=s9.2) (m:=[y21.1]) (.refl _) (.lstc (.eq (eBf3 y21.1) (.refl _)) (.lst0)) h fun l25 t24 H hO ht24 h=>?_;cbv;refine A9 hE hO 3 rfl rfl fun H hO=>?_;cbv;refine B2 hE hO 3 rfl ?_;cbv;refine G1 hE ?_;cbv;refine B1 hE h (fun _ h=>?_) fun _ h=>?_
   ·cbv;refine A9 hE hO 6 rfl rfl fun H hO=>?_;cbv;refine A9 hE hO 5 rfl rfl fun H hO=>?_;cbv;refine A9 hE hO 4 rfl rfl fun H hO=>?_;cbv;cases h;exact⟨_,rfl,rfl,⟨⟨t24,t22⟩,⟨rfl,⟨ht24,ht22⟩⟩,hO⟩⟩
   cbv;cases h;exact⟨_,rfl,⟨⟨t24,t22⟩,⟨ht24,ht22⟩,hO⟩⟩
  rintro e l H ⟨rfl,rfl,hO⟩;cbv;cases h;exact⟨_,rfl,rfl,⟨⟨t12,t13⟩,⟨rfl,⟨ht12,ht13⟩⟩,hO.tail⟩⟩
 ·rintro d27 s31 H rfl hd ⟨⟨t32,t33⟩,⟨ht32,ht33⟩,hO⟩;have hO:C3 Eq H0 [.tl t32,.tl t33,cb b5 [.sl (lst eBe0 s31.1) t33],cb b4 [.sl (lst eBf2 s31.2) t32],cb b3 [vi 0],cb b2 [.sl [] .nil],cb b1 [.sl [] .nil],.blk d27 DB] H:=C3.dblk hd hO;clear hd;clear hx;cbv;refine Az5 hE hO 6 rfl fun H1 hT hW=>?_;cbv;refine B2 hE hW 3 rfl ?_;cbv;refine B2 hE hW 2 rfl ?_;cbv;refine Fv hE trivial ?_;cbv;refine AA3 hE hO 6 rfl hT fun H hO=>?_;cbv;refine A9 hE hO 5 rfl rfl fun H hO=>?_;cbv;refine A9 hE hO 4 rfl rfl fun H hO=>?_;cbv;refine Ia hE hO 7 rfl fun H hO=>?_;cbv;refine B2 hE hO 6 rfl ?_;cbv;refine B2 hE hO 5 rfl ?_;cbv;refine B2 hE hO 4 rfl ?_;cbv;cases h;exact hK hO (.tup (.cons (.ro _ _) (.cons (.ro _ _) (.refl _))))
 rintro d27 y34 e H rfl hd hX;clear hx
 rcases hX with⟨⟨t35,t36⟩,⟨rfl,ht35,ht36⟩,hO⟩
 have hO:C3 Eq H0 [.tl t35,.tl t36,cb b5 [.sl (lst eBe0 y34.1) t36],cb b4 [.sl (lst eBf2 y34.2.1) t35],cb b3 [vi y34.2.2],cb b2 [.sl [] .nil],cb b1 [.sl [] .nil],.blk d27 DB] H:=C3.dblk hd hO;clear hd;cbv;refine Ia hE hO 7 rfl fun H hO=>?_;cbv;refine B2 hE hO 6 rfl ?_;cbv;refine B2 hE hO 5 rfl ?_;cbv;refine B2 hE hO 4 rfl ?_;cbv;cases h;exact hK hO (.tup (.cons (.lit _ (E0)) (.cons (.lit _ (E0)) (.refl _))))
theorem c10 (N aA r)(h:R5 N aA=some r):C0 prog 10 [(D2 aA)] (.tup [sr eBf2 r.1,sr eBe0 r.2.1,vi r.2.2]):=by
 unfold R5 at h
 refine O7 cf0 func10 call10 ntmps10 ?_;intro E H0 K hE hK hO;cbv;refine A8 hE h (c36 N aA) (.refl _) fun r1 h=>?_;cbv;refine B1 hE h (fun _ h=>?_) fun _ h=>?_
 ·cbv;cases h;exact hK hO (.tup (.cons (.lit _ (E0)) (.cons (.lit _ (E0)) (.refl _))))
 cbv;refine A8 hE h (c37 N aA) (.refl _) fun r2 h=>?_;cbv;cases h;exact hK hO (.refl _)
def cf27 :Cf:=⟨[4],[],[],[],[],[]⟩
theorem c27 (N aK bN r)(h:EI N aK bN=some r):C0 prog 27 [vi aK,sr eBe0 bN] ((D2 r)):=by
 unfold EI at h
 refine O7 cf27 func27 call27 ntmps27 ?_;intro E H0 K hE hK hO;cbv;refine D3 hE hO fun b1 H hO=>?_;cbv;refine A9 hE hO 0 rfl rfl fun H hO=>?_;cbv;refine B2 hE hO 0 rfl ?_;cbv;cases h;exact hK hO (.agg (.cons (.refl _) (.cons (.refl _) (.cons (.refl _) (.cons (.refl _) (.cons (.refl _) (.cons (.refl _) (.cons (.refl _) (.cons (.lit _ (E0)) (.refl _))))))))))
def cf39 :Cf:=⟨[2],[],[],[],[],[]⟩
theorem c39 (N aD r)(h:X6 N aD=some r):C0 prog 39 [.bool aD] ((E7 r)):=by
 unfold X6 at h
 refine O7 cf39 func39 call39 ntmps39 ?_;intro E H0 K hE hK hO;cbv;refine D3 hE hO fun b1 H hO=>?_;cbv;refine B1 hE h (fun _ h=>?_) fun _ h=>?_
 ·cbv;refine A9 hE hO 0 rfl rfl fun H hO=>?_;cbv;refine B2 hE hO 0 rfl ?_;cbv;cases h;exact hK hO (.refl _)
 cbv;refine A9 hE hO 0 rfl rfl fun H hO=>?_;cbv;refine B2 hE hO 0 rfl ?_;cbv;cases h;exact hK hO (.refl _)
def cf30 :Cf:=⟨[0],[],[],[],[],[]⟩
theorem c30 (N r)(h:Ji N=some r):C0 prog 30 [] ((V9 r)):=by
 unfold Ji at h
 refine O7 cf30 func30 call30 ntmps30 ?_;intro E H0 K hE hK hO;cbv;refine D3 hE hO fun b1 H hO=>?_;cbv;refine A8 hE h (c39 N true) (.refl _) fun r2 h=>?_;cbv;refine A9 hE hO 0 rfl rfl fun H hO=>?_;cbv;refine B2 hE hO 0 rfl ?_;cbv;cases h;exact hK hO (.agg (.cons (.refl _) (.cons (.lit _ (E0)) (.refl _))))
def cf28 :Cf:=⟨[2],[],[],[],[],[]⟩
theorem c28 (N aI r)(h:AV N aI=some r):C0 prog 28 [vi aI] ((D2 r)):=by
 unfold AV at h
 refine O7 cf28 func28 call28 ntmps28 ?_;intro E H0 K hE hK hO;cbv;refine D3 hE hO fun b1 H hO=>?_;cbv;refine A8 hE h (c30 N) (.refl _) fun r2 h=>?_;cbv;refine A9 hE hO 0 rfl rfl fun H hO=>?_;cbv;refine B2 hE hO 0 rfl ?_;cbv;cases h;exact hK hO (.agg (.cons (.refl _) (.cons (.lit _ (E0)) (.refl _))))
theorem c29 (N aA r) (h:BF N aA=some r):C0 prog 29 [(D2 aA)] (.tup [sr eBe0 r.1,vi r.2]):=by
 unfold BF at h
 refine O7 cf0 func29 call29 ntmps29 ?_;intro E H0 K hE hK hO;cbv;refine A8 hE h (c5 N aA) (.refl _) fun r1 h=>?_;cbv;refine B1 hE h (fun _ h=>?_) fun _ h=>?_
 ·cbv;cases h;exact hK hO (.tup (.cons (.lit _ (E0)) (.refl _)))
 cbv;replace hO:=hO.tl0 (t:=.full) rfl;obtain⟨s4,hx,h⟩:=bind_some h;refine Bm cf0 hE Q6 (γ:=G3) (fun s2 g=>[(5,.v (.sl (lst eBe0 s2.1) g)),fi 6 s2.2]) (fun s2 g H1=>Au g∧C3 Eq H0 [.tl g] H1) (fun x e l H1=>match(generalizing:=false) x with| .inl y=>∃u1:G3,Au u1∧e= .exit 0∧l=[(5,.v (.sl (lst eBe0 y) u1))]∧C3 Eq H0 [.tl u1] H1| .inr y=>∃u1:G3,Au u1∧e= .ret∧l=[(2,.v (.sl [] .nil)),fi 3 y]∧C3 Eq H0 [.tl u1] H1) (by kernel_rfl) ?_ .full hx ?_ ?_ ?_
 ·rintro s2 t3 H o ⟨ht3,hO⟩ h;clear hx;cbv;refine G1 hE ?_;cbv;refine B1 hE h (fun _ h=>?_) fun _ h=>?_
  ·cbv;refine C9 hE eBe1 h fun x5 h=>?_;cbv;refine A8 hE h (c37 N x5) (.refl _) fun r6 h=>?_;cbv;refine B1 hE h (fun _ h=>?_) fun _ h=>?_
   ·cbv;cases h;exact⟨_,_,rfl,⟨t3,ht3,rfl,rfl,hO⟩,.e2 .z,rfl⟩
   cbv;refine G1 hE ?_;cbv;obtain⟨s9,hx,h⟩:=bind_some h;refine Bm cf0 hE Q6 (γ:=G3) (fun s7 g=>[(5,.v (.sl (lst eBe0 s7.1) g)),fi 6 s2.2,(37,.v (sr eBe0 r6.2.1)),fi 38 (Ar.len r6.2.1),fi 39 s7.2]) (fun s7 g H1=>Au g∧C3 Eq H0 [.tl g] H1) (fun x e l H1=>∃u1:G3,Au u1∧e= .exit 2∧l=[(5,.v (.sl (lst eBe0 x) u1)),fi 6 s2.2]∧C3 Eq H0 [.tl u1] H1) (by kernel_rfl) ?_ t3 hx ?_ ?_ ?_
   ·rintro s7 t8 H o ⟨ht8,hO⟩ h;clear hx;cbv;refine B1 hE h (fun _ h=>?_) fun _ h=>?_
    ·cbv;refine C9 hE eBe1 h fun x10 h=>?_;cbv;refine A8 hE h (c45 N s7.1 x10) (.cons (.ro _ _) (.refl _)) fun r11 h=>?_;cbv;refine B1 hE h (fun _ h=>?_) fun _ h=>?_
     ·cbv;refine BS (f:=eBe0) hE AR (by decide) hO 0 rfl ht8 (l:=s7.1) (m:=[x10]) (.refl _) (.lstc (.eq (eBe1 x10) (.refl _)) (.lst0)) h fun l13 t12 H hO ht12 h=>?_;cbv;cases h;exact⟨_,t12,rfl,.e rfl (.e4 .z),rfl,ht12,hO⟩
     cbv;cases h;exact⟨_,t8,rfl,.e rfl (.e4 .z),rfl,ht8,hO⟩
    cbv;cases h;exact⟨_,_,rfl,⟨t8,ht8,rfl,rfl,hO⟩,.e2 .z,rfl⟩
   ·exact .e rfl (.e4 .z)
   ·exact⟨ht3,hO⟩
   clear hx;rintro e l H ⟨t14,ht14,rfl,rfl,hO⟩;cbv;refine G1 hE ?_;cbv;refine B1 hE h (fun _ h=>?_) fun _ h=>?_
   ·cbv;cases h;exact⟨_,_,rfl,⟨t14,ht14,rfl,rfl,hO⟩,.e2 .z,rfl⟩
   cbv;cases h;exact⟨_,t14,rfl,.e2 .z,rfl,ht14,hO⟩
  cbv;cases h;exact⟨_,_,rfl,⟨t3,ht3,rfl,rfl,hO⟩,.e rfl .z,rfl⟩
 ·exact .v (.slt _ (.lstc (.eq (eBe1 aA) (.refl _)) (.lst0))) (.e rfl .z)
 ·exact⟨trivial,hO⟩
 clear hx
 rcases s4 with y15|y17
 ·rintro e l H ⟨t16,ht16,rfl,rfl,hO⟩;cbv;cases h;exact hK hO (.tup (.cons (.ro _ _) (.refl _)))
 rintro e l H ⟨t18,ht18,rfl,rfl,hO⟩;cbv;cases h;exact hK hO (.tup (.cons (.lit _ (E0)) (.refl _)))
def cf46 :Cf:=⟨[],[],[(8,5),(51,17)],[],[],[]⟩
theorem c46 (N:Nat):∀n aA r,X9 N n aA=some r→C0 prog 46 [(D2 aA)] (sr eBf7 r):=by
 intro n
 induction n with
 |zero=>intro aA r h;cases h
 |succ n ih=>
 intro aA r h
 unfold X9 at h
 refine O7 cf46 func46 call46 ntmps46 ?_;intro E H0 K hE hK hO;cbv;obtain⟨s1,hx,h⟩:=bind_some h;refine Y4 cf46 hE Q6 (fun e l H1=>e= .normal∧l=[(1,.v (.eref (E3 aA) 0)),(3,.v (.sl [] .nil)),fi 7 aA.Op,(8,.v (.bool s1))]∧C3 Eq H0 [] H1) (by kernel_rfl) ?_ ?_
 ·clear h;have h:=hx;clear hx;cbv;refine B1 hE h (fun _ h=>?_) fun _ h=>?_
  ·cbv;cases h;exact⟨_,⟨rfl,rfl,hO⟩,.e4 .z,rfl⟩
  cbv;cases h;exact⟨_,⟨rfl,rfl,hO⟩,.e4 .z,rfl⟩
 clear hx;rintro e l H ⟨rfl,rfl,hO⟩;cbv;refine B1 hE h (fun _ h=>?_) fun _ h=>?_
 ·cbv;refine C9 hE eBe1 h fun x2 h=>?_;cbv;refine A8 hE h (ih x2) (.refl _) fun r3 h=>?_;cbv;cases h;exact hK hO (.refl _)
 cbv;refine B1 hE h (fun _ h=>?_) fun _ h=>?_
 ·cbv;refine G1 hE ?_;cbv;replace hO:=hO.tl0 (t:=.nil) rfl;obtain⟨s6,hx,h⟩:=bind_some h;refine Bm cf46 hE Q6 (γ:=G3) (fun s4 g=>[(3,.v (.sl (lst eBf7 s4.1) g)),(19,.v (sr eBe0 aA.dD)),fi 20 (Ar.len aA.dD),fi 21 s4.2]) (fun s4 g H1=>Au g∧C3 Eq H0 [.tl g] H1) (fun x e l H1=>∃u1:G3,Au u1∧e= .exit 1∧l=[(3,.v (.sl (lst eBf7 x) u1))]∧C3 Eq H0 [.tl u1] H1) (by kernel_rfl) ?_ .nil hx ?_ ?_ ?_
  ·rintro s4 t5 H o ⟨ht5,hO⟩ h;clear hx;cbv;refine B1 hE h (fun _ h=>?_) fun _ h=>?_
   ·cbv;refine C9 hE eBe1 h fun x7 h=>?_;cbv;refine A8 hE h (ih x7) (.refl _) fun r8 h=>?_;cbv;refine BS (f:=eBf7) hE PA (by decide) hO 0 rfl ht5 (l:=s4.1) (m:=r8) (.refl _) (.refl _) h fun l10 t9 H hO ht9 h=>?_;cbv;cases h;exact⟨_,t9,rfl,.e4 .z,rfl,ht9,hO⟩
   cbv;cases h;exact⟨_,_,rfl,⟨t5,ht5,rfl,rfl,hO⟩,.e rfl .z,rfl⟩
  ·exact .v (.slt _ (.lst0)) (.e rfl (.e2 .z))
  ·exact⟨trivial,hO⟩
  clear hx;rintro e l H ⟨t11,ht11,rfl,rfl,hO⟩;cbv;cases h;exact hK hO (.ro _ _)
 cbv;refine B1 hE h (fun _ h=>?_) fun _ h=>?_
 ·cbv;refine BS (f:=eBf7) hE PA (by decide) (hO.tl0 (t:=.nil) rfl) 0 rfl trivial (l:=[]) (m:=[(⟨aA.dG,aA.Typ,aA.Var,aA.dE⟩:Iv)]) (.lst0) (.lstc (.eq (eBh1 (⟨aA.dG,aA.Typ,aA.Var,aA.dE⟩:Iv)) (.refl _)) (.lst0)) h fun l13 t12 H hO ht12 h=>?_;cbv;refine C9 hE eBe1 h fun x14 h=>?_;cbv;refine A8 hE h (ih x14) (.refl _) fun r15 h=>?_;cbv;refine BS (f:=eBf7) hE PA (by decide) hO 0 rfl ht12 (l:=l13) (m:=r15) (.refl _) (.refl _) h fun l17 t16 H hO ht16 h=>?_;cbv;cases h;exact hK hO (.ro _ _)
 cbv;obtain⟨s18,hx,h⟩:=bind_some h;refine Y4 cf46 hE Q6 (fun e l H1=>e= .normal∧l=[(1,.v (.eref (E3 aA) 0)),(3,.v (.sl [] .nil)),(51,.v (.bool s18))]∧C3 Eq H0 [] H1) (by kernel_rfl) ?_ ?_
 ·clear h;have h:=hx;clear hx;cbv;refine B1 hE h (fun _ h=>?_) fun _ h=>?_
  ·cbv;cases h;exact⟨_,⟨rfl,rfl,hO⟩,.e rfl (.e2 .z),rfl⟩
  cbv;cases h;exact⟨_,⟨rfl,rfl,hO⟩,.e rfl (.e2 .z),rfl⟩
 clear hx;rintro e l H ⟨rfl,rfl,hO⟩;cbv;refine B1 hE h (fun _ h=>?_) fun _ h=>?_
 ·cbv;refine C9 hE eBe1 h fun x19 h=>?_;cbv;refine A8 hE h (ih x19) (.refl _) fun r20 h=>?_;cbv;cases h;exact hK hO (.refl _)
 cbv;cases h;exact hK hO (.lit _ (E0))
theorem c31 (N aA r)(h:FJ N aA=some r):C0 prog 31 [(D2 aA)] (.tup [sr eBf7 r.1,vi r.2]):=by
 unfold FJ at h
 refine O7 cf0 func31 call31 ntmps31 ?_;intro E H0 K hE hK hO;cbv;refine A8 hE h (c36 N aA) (.refl _) fun r1 h=>?_;cbv;refine B1 hE h (fun _ h=>?_) fun _ h=>?_
 ·cbv;cases h;exact hK hO (.tup (.cons (.lit _ (E0)) (.refl _)))
 cbv;refine A8 hE h (c46 N N aA) (.refl _) fun r2 h=>?_;cbv;cases h;exact hK hO (.refl _)
def cf67 :Cf:=⟨[],[(6,10)],[],[],[],[]⟩
theorem c67 (N:Nat):∀n aB aD r,X5 N n aB aD=some r→C0 prog 67 [(V9 aB),(V9 aD)] (.bool r):=by
 intro n
 induction n with
 |zero=>intro aB aD r h;cases h
 |succ n ih=>
 intro aB aD r h
 unfold X5 at h
 refine O7 cf67 func67 call67 ntmps67 ?_;intro E H0 K hE hK hO;cbv;refine G1 hE ?_;cbv;refine G1 hE ?_;cbv;refine B1 hE h (fun _ h=>?_) fun _ h=>?_
 ·cbv;cases h;exact hK hO (.refl _)
 cbv;obtain⟨s2,hx,h⟩:=bind_some h;refine K0 cf67 hE Q6 (fun s1=>[(2,.v (.eref (CO aB) 0)),(3,.v (.eref (CO aD) 0)),fi 5 s1]) (fun s1 H1=>C3 Eq H0 [] H1) (fun x e l H1=>match(generalizing:=false) x with| .inl y=>e= .exit 0∧l=[]∧C3 Eq H0 [] H1| .inr y=>e= .ret∧l=[(4,.b false)]∧C3 Eq H0 [] H1) (by kernel_rfl) ?_ hx ?_ hO ?_
 ·intro s1 H o hO h;clear hx;cbv;refine G1 hE ?_;cbv;refine B1 hE h (fun _ h=>?_) fun _ h=>?_
  ·cbv;refine C9 hE eBf0 h fun x3 h=>?_;cbv;refine C9 hE eBf0 h fun x4 h=>?_;cbv;refine A8 hE h (ih x3 x4) (.refl _) fun r5 h=>?_;cbv;refine B1 hE h (fun _ h=>?_) fun _ h=>?_
   ·cbv;cases h;exact⟨_,_,rfl,⟨rfl,rfl,hO⟩,.b rfl (.z),rfl⟩
   cbv;cases h;exact⟨_,rfl,.e rfl (.e2 .z),rfl,hO⟩
  cbv;cases h;exact⟨_,_,rfl,⟨rfl,rfl,hO⟩,.z,rfl⟩
 ·exact .e rfl (.e2 .z)
 clear hx
 rcases s2 with y6|y7
 ·rintro e l H ⟨rfl,rfl,hO⟩;cbv;cases h;exact hK hO (.refl _)
 rintro e l H ⟨rfl,rfl,hO⟩;cbv;cases h;exact hK hO (.refl _)
def cf47 :Cf:=⟨[],[(6,10)],[],[],[],[]⟩
theorem c47 (N:Nat):∀n aB aD r,Kk N n aB aD=some r→C0 prog 47 [(D2 aB),(D2 aD)] (.bool r):=by
 intro n
 induction n with
 |zero=>intro aB aD r h;cases h
 |succ n ih=>
 intro aB aD r h
 unfold Kk at h
 refine O7 cf47 func47 call47 ntmps47 ?_;intro E H0 K hE hK hO;cbv;refine B1 hE h (fun _ h=>?_) fun _ h=>?_
 ·cbv;cases h;exact hK hO (.refl _)
 cbv;refine A8 hE h (c67 N N aB.dE aD.dE) (.refl _) fun r1 h=>?_;cbv;refine G1 hE ?_;cbv;refine G1 hE ?_;cbv;refine B1 hE h (fun _ h=>?_) fun _ h=>?_
 ·cbv;cases h;exact hK hO (.refl _)
 cbv;obtain⟨s3,hx,h⟩:=bind_some h;refine K0 cf47 hE Q6 (fun s2=>[(2,.v (.eref (E3 aB) 0)),(3,.v (.eref (E3 aD) 0)),fi 5 s2]) (fun s2 H1=>C3 Eq H0 [] H1) (fun x e l H1=>match(generalizing:=false) x with| .inl y=>e= .exit 0∧l=[]∧C3 Eq H0 [] H1| .inr y=>e= .ret∧l=[(4,.b false)]∧C3 Eq H0 [] H1) (by kernel_rfl) ?_ hx ?_ hO ?_
 ·intro s2 H o hO h;clear hx;cbv;refine G1 hE ?_;cbv;refine B1 hE h (fun _ h=>?_) fun _ h=>?_
  ·cbv;refine C9 hE eBe1 h fun x4 h=>?_;cbv;refine C9 hE eBe1 h fun x5 h=>?_;cbv;refine A8 hE h (ih x4 x5) (.refl _) fun r6 h=>?_;cbv;refine B1 hE h (fun _ h=>?_) fun _ h=>?_
   ·cbv;cases h;exact⟨_,_,rfl,⟨rfl,rfl,hO⟩,.b rfl (.z),rfl⟩
   cbv;cases h;exact⟨_,rfl,.e rfl (.e2 .z),rfl,hO⟩
  cbv;cases h;exact⟨_,_,rfl,⟨rfl,rfl,hO⟩,.z,rfl⟩
 ·exact .e rfl (.e2 .z)
 clear hx
 rcases s3 with y7|y8
 ·rintro e l H ⟨rfl,rfl,hO⟩;cbv;cases h;exact hK hO (.refl _)
 rintro e l H ⟨rfl,rfl,hO⟩;cbv;cases h;exact hK hO (.refl _)
def cf32 :Cf:=⟨[],[(6,8)],[],[],[],[]⟩
theorem c32 (N aB aD r) (h:GC N aB aD=some r):C0 prog 32 [sr eBe0 aB,sr eBe0 aD] (.bool r):=by
 unfold GC at h
 refine O7 cf32 func32 call32 ntmps32 ?_;intro E H0 K hE hK hO;cbv;refine G1 hE ?_;cbv;refine G1 hE ?_;cbv;refine B1 hE h (fun _ h=>?_) fun _ h=>?_
 ·cbv;cases h;exact hK hO (.refl _)
 cbv;obtain⟨s2,hx,h⟩:=bind_some h;refine K0 cf32 hE Q6 (fun s1=>[(0,.v (sr eBe0 aB)),(1,.v (sr eBe0 aD)),fi 5 s1]) (fun s1 H1=>C3 Eq H0 [] H1) (fun x e l H1=>match(generalizing:=false) x with| .inl y=>e= .exit 0∧l=[]∧C3 Eq H0 [] H1| .inr y=>e= .ret∧l=[(4,.b false)]∧C3 Eq H0 [] H1) (by kernel_rfl) ?_ hx ?_ hO ?_
 ·intro s1 H o hO h;clear hx;cbv;refine G1 hE ?_;cbv;refine B1 hE h (fun _ h=>?_) fun _ h=>?_
  ·cbv;refine C9 hE eBe1 h fun x3 h=>?_;cbv;refine C9 hE eBe1 h fun x4 h=>?_;cbv;refine A8 hE h (c47 N N x3 x4) (.refl _) fun r5 h=>?_;cbv;refine B1 hE h (fun _ h=>?_) fun _ h=>?_
   ·cbv;cases h;exact⟨_,_,rfl,⟨rfl,rfl,hO⟩,.b rfl (.z),rfl⟩
   cbv;cases h;exact⟨_,rfl,.e rfl (.e2 .z),rfl,hO⟩
  cbv;cases h;exact⟨_,_,rfl,⟨rfl,rfl,hO⟩,.z,rfl⟩
 ·exact .e rfl (.e2 .z)
 clear hx
 rcases s2 with y6|y7
 ·rintro e l H ⟨rfl,rfl,hO⟩;cbv;cases h;exact hK hO (.refl _)
 rintro e l H ⟨rfl,rfl,hO⟩;cbv;cases h;exact hK hO (.refl _)
theorem c8 (N r) (h:AW N=some r):C0 prog 8 [] (.bool r):=by
 unfold AW at h
 refine O7 cf0 func8 call8 ntmps8 ?_;intro E H0 K hE hK hO;cbv;refine A8 hE h (c28 N 0) (.refl _) fun r1 h=>?_;cbv;refine A8 hE h (c28 N 1) (.refl _) fun r2 h=>?_;cbv;refine A8 hE h (c27 N 1 ([r1,r2])) (.cons (.refl _) (.cons (.lit _ (I0 ((eBe1 r1).symm) (I0 ((eBe1 r2).symm) (E0)))) (.refl _))) fun r3 h=>?_;cbv;refine A8 hE h (c10 N r3) (.refl _) fun r4 h=>?_;cbv;refine A8 hE h (c28 N 0) (.refl _) fun r5 h=>?_;cbv;refine A8 hE h (c27 N 4 ([r5])) (.cons (.refl _) (.cons (.lit _ (I0 ((eBe1 r5).symm) (E0))) (.refl _))) fun r6 h=>?_;cbv;refine A8 hE h (c10 N r6) (.refl _) fun r7 h=>?_;cbv;refine A8 hE h (c28 N 0) (.refl _) fun r8 h=>?_;cbv;refine A8 hE h (c28 N 1) (.refl _) fun r9 h=>?_;cbv;refine A8 hE h (c27 N 1 ([r8,r9])) (.cons (.refl _) (.cons (.lit _ (I0 ((eBe1 r8).symm) (I0 ((eBe1 r9).symm) (E0)))) (.refl _))) fun r10 h=>?_;cbv;refine A8 hE h (c29 N (⟨6,[r10],0,0,0,5,(⟨0,[],0,0,0,(⟨0,0,⟨#[]⟩⟩:A7)⟩:B0)⟩:A0)) (.cons (.agg (.cons (.refl _) (.cons (.lit _ (I0 ((eBe1 r10).symm) (E0))) (.cons (.refl _) (.cons (.refl _) (.cons (.refl _) (.cons (.refl _) (.cons (.refl _) (.cons (.lit _ (E0)) (.refl _)))))))))) (.refl _)) fun r11 h=>?_;cbv;refine A8 hE h (c10 N (⟨6,[r10],0,0,0,5,(⟨0,[],0,0,0,(⟨0,0,⟨#[]⟩⟩:A7)⟩:B0)⟩:A0)) (.cons (.agg (.cons (.refl _) (.cons (.lit _ (I0 ((eBe1 r10).symm) (E0))) (.cons (.refl _) (.cons (.refl _) (.cons (.refl _) (.cons (.refl _) (.cons (.refl _) (.cons (.lit _ (E0)) (.refl _)))))))))) (.refl _)) fun r12 h=>?_;cbv;refine A8 hE h (c30 N) (.refl _) fun r13 h=>?_;cbv;refine A8 hE h (c28 N 1) (.refl _) fun r14 h=>?_;cbv;refine A8 hE h (c27 N 4 ([r14])) (.cons (.refl _) (.cons (.lit _ (I0 ((eBe1 r14).symm) (E0))) (.refl _))) fun r15 h=>?_;cbv;refine A8 hE h (c29 N (⟨5,[r15],2,0,0,0,r13⟩:A0)) (.cons (.agg (.cons (.refl _) (.cons (.lit _ (I0 ((eBe1 r15).symm) (E0))) (.refl _)))) (.refl _)) fun r16 h=>?_;cbv;refine A8 hE h (c10 N (⟨5,[r15],2,0,0,0,r13⟩:A0)) (.cons (.agg (.cons (.refl _) (.cons (.lit _ (I0 ((eBe1 r15).symm) (E0))) (.refl _)))) (.refl _)) fun r17 h=>?_;cbv;refine G1 hE ?_;cbv;refine G1 hE ?_;cbv;refine G1 hE ?_;cbv;refine G1 hE ?_;cbv;refine G1 hE ?_;cbv;refine G1 hE ?_;cbv;refine B1 hE h (fun _ h=>?_) fun _ h=>?_
 ·cbv;cases h;exact hK hO (.refl _)
 cbv;refine C9 hE eBe1 h fun x18 h=>?_;cbv;refine A8 hE h (c31 N x18) (.refl _) fun r19 h=>?_;cbv;refine G1 hE ?_;cbv;refine B1 hE h (fun _ h=>?_) fun _ h=>?_
 ·cbv;cases h;exact hK hO (.refl _)
 cbv;refine C9 hE eBh1 h fun x20 h=>?_;cbv;refine B1 hE h (fun _ h=>?_) fun _ h=>?_
 ·cbv;cases h;exact hK hO (.refl _)
 cbv;refine C9 hE eBe1 h fun x21 h=>?_;cbv;refine B1 hE h (fun _ h=>?_) fun _ h=>?_
 ·cbv;cases h;exact hK hO (.refl _)
 cbv;refine C9 hE eBe1 h fun x22 h=>?_;cbv;refine B1 hE h (fun _ h=>?_) fun _ h=>?_
 ·cbv;cases h;exact hK hO (.refl _)
 cbv;refine A8 hE h (c28 N 1) (.refl _) fun r23 h=>?_;cbv;refine A8 hE h (c32 N r4.2.1 ([r23])) (.cons (.refl _) (.cons (.lit _ (I0 ((eBe1 r23).symm) (E0))) (.refl _))) fun r24 h=>?_;cbv;refine B1 hE h (fun _ h=>?_) fun _ h=>?_
 ·cbv;cases h;exact hK hO (.refl _)
 cbv;refine A8 hE h (c28 N 0) (.refl _) fun r25 h=>?_;cbv;refine A8 hE h (c27 N 4 ([r25])) (.cons (.refl _) (.cons (.lit _ (I0 ((eBe1 r25).symm) (E0))) (.refl _))) fun r26 h=>?_;cbv;refine A8 hE h (c32 N r7.2.1 ([r26])) (.cons (.refl _) (.cons (.lit _ (I0 ((eBe1 r26).symm) (E0))) (.refl _))) fun r27 h=>?_;cbv;refine B1 hE h (fun _ h=>?_) fun _ h=>?_
 ·cbv;cases h;exact hK hO (.refl _)
 cbv;refine C9 hE eBf3 h fun x28 h=>?_;cbv;refine B1 hE h (fun _ h=>?_) fun _ h=>?_
 ·cbv;cases h;exact hK hO (.refl _)
 cbv;refine C9 hE eBf3 h fun x29 h=>?_;cbv;refine B1 hE h (fun _ h=>?_) fun _ h=>?_
 ·cbv;cases h;exact hK hO (.refl _)
 cbv;refine C9 hE eBf3 h fun x30 h=>?_;cbv;refine B1 hE h (fun _ h=>?_) fun _ h=>?_
 ·cbv;cases h;exact hK hO (.refl _)
 cbv;refine C9 hE eBf3 h fun x31 h=>?_;cbv;refine A8 hE h (c33 N x31.dM ([0])) (.cons (.refl _) (.cons (.lit _ (I0 (rfl) (E0))) (.refl _))) fun r32 h=>?_;cbv;refine B1 hE h (fun _ h=>?_) fun _ h=>?_
 ·cbv;refine C9 hE eBf3 h fun x33 h=>?_;cbv;refine A8 hE h (c34 N x33.dN ([(⟨0,5⟩:As)])) (.cons (.refl _) (.cons (.lit _ (I0 ((eBg6 (⟨0,5⟩:As)).symm) (E0))) (.refl _))) fun r34 h=>?_;cbv;refine B1 hE h (fun _ h=>?_) fun _ h=>?_
  ·cbv;refine C9 hE eBf3 h fun x35 h=>?_;cbv;refine G1 hE ?_;cbv;refine B1 hE h (fun _ h=>?_) fun _ h=>?_
   ·cbv;refine C9 hE eBf3 h fun x36 h=>?_;cbv;refine A8 hE h (c33 N x36.dJ ([0])) (.cons (.refl _) (.cons (.lit _ (I0 (rfl) (E0))) (.refl _))) fun r37 h=>?_;cbv;refine B1 hE h (fun _ h=>?_) fun _ h=>?_
    ·cbv;refine C9 hE eBf3 h fun x38 h=>?_;cbv;refine G1 hE ?_;cbv;refine B1 hE h (fun _ h=>?_) fun _ h=>?_
     ·cbv;refine C9 hE eBf3 h fun x39 h=>?_;cbv;refine A8 hE h (c33 N x39.dL ([0])) (.cons (.refl _) (.cons (.lit _ (I0 (rfl) (E0))) (.refl _))) fun r40 h=>?_;cbv;cases h;exact hK hO (.refl _)
     cbv;cases h;exact hK hO (.refl _)
    cbv;cases h;exact hK hO (.refl _)
   cbv;cases h;exact hK hO (.refl _)
  cbv;cases h;exact hK hO (.refl _)
 cbv;cases h;exact hK hO (.refl _)
theorem c68 (N aC r)(h:GB N aC=some r):C0 prog 68 [(Af aC)] (.bool r):=by
 unfold GB at h
 refine O7 cf0 func68 call68 ntmps68 ?_;intro E H0 K hE hK hO;cbv;cases h;exact hK hO (.refl _)
def cf50 :Cf:=⟨[2],[],[],[],[],[]⟩
theorem c50 (N aC r)(h:Gq N aC=some r):C0 prog 50 [(Af aC)] ((KF r)):=by
 unfold Gq at h
 refine O7 cf50 func50 call50 ntmps50 ?_;intro E H0 K hE hK hO;cbv;refine D3 hE hO fun b1 H hO=>?_;cbv;refine A9 hE hO 0 rfl rfl fun H hO=>?_;cbv;refine B2 hE hO 0 rfl ?_;cbv;cases h;exact hK hO (.refl _)
theorem c77 (N bW r) (h:EM N bW=some r):C0 prog 77 [sr (V.int .i64) bW] (vi r):=by
 unfold EM at h
 refine O7 cf0 func77 call77 ntmps77 ?_;intro E H0 K hE hK hO;cbv;refine G1 hE ?_;cbv;obtain⟨s2,hx,h⟩:=bind_some h;refine K0 cf0 hE Q6 (fun s1=>[fi 3 0,(6,.v (sr (V.int .i64) bW)),fi 7 (Ar.len bW),fi 8 s1]) (fun s1 H1=>C3 Eq H0 [] H1) (fun x e l H1=>match(generalizing:=false) x with| .inl y=>e= .exit 0∧l=[fi 3 0]∧C3 Eq H0 [] H1| .inr y=>e= .ret∧l=[fi 2 y]∧C3 Eq H0 [] H1) (by kernel_rfl) ?_ hx ?_ hO ?_
 ·intro s1 H o hO h;clear hx;cbv;refine B1 hE h (fun _ h=>?_) fun _ h=>?_
  ·cbv;refine C9 hE (fun _=>rfl) h fun x3 h=>?_;cbv;refine B1 hE h (fun _ h=>?_) fun _ h=>?_
   ·cbv;cases h;exact⟨_,_,rfl,⟨rfl,rfl,hO⟩,.e rfl .z,rfl⟩
   cbv;cases h;exact⟨_,rfl,.e4 .z,rfl,hO⟩
  cbv;cases h;exact⟨_,_,rfl,⟨rfl,rfl,hO⟩,.e rfl .z,rfl⟩
 ·exact .e4 .z
 clear hx
 rcases s2 with y4|y5
 ·rintro e l H ⟨rfl,rfl,hO⟩;cbv;cases h;exact hK hO (.refl _)
 rintro e l H ⟨rfl,rfl,hO⟩;cbv;cases h;exact hK hO (.refl _)
theorem c113 (N aM r)(h:Eu N aM=some r):C0 prog 113 [vi aM] (.bool r):=by
 unfold Eu at h
 refine O7 cf0 func113 call113 ntmps113 ?_;intro E H0 K hE hK hO;cbv;cases h;exact hK hO (.refl _)
theorem c79 (N aM bE r) (h:P2 N aM bE=some r):C0 prog 79 [vi aM,vi bE] (vi r):=by
 unfold P2 at h
 refine O7 cf0 func79 call79 ntmps79 ?_;intro E H0 K hE hK hO;cbv;refine A8 hE h (c113 N aM) (.refl _) fun r1 h=>?_;cbv;refine A8 hE h (c113 N bE) (.refl _) fun r2 h=>?_;cbv;refine B1 hE h (fun _ h=>?_) fun _ h=>?_
 ·cbv;refine B1 hE h (fun _ h=>?_) fun _ h=>?_
  ·cbv;cases h;exact hK hO (.refl _)
  cbv;cases h;exact hK hO (.refl _)
 cbv;refine B1 hE h (fun _ h=>?_) fun _ h=>?_
 ·cbv;cases h;exact hK hO (.refl _)
 cbv;refine B1 hE h (fun _ h=>?_) fun _ h=>?_
 ·cbv;cases h;exact hK hO (.refl _)
 cbv;refine B1 hE h (fun _ h=>?_) fun _ h=>?_
 ·cbv;cases h;exact hK hO (.refl _)
 cbv;cases h;exact hK hO (.refl _)
def cf69 :Cf:=⟨[],[(1,3),(3,14)],[],[],[],[]⟩
theorem c69 (N aB aD r)(h:Et N aB aD=some r):C0 prog 69 [(Af aB),(Af aD)] (vi r):=by
 unfold Et at h
 refine O7 cf69 func69 call69 ntmps69 ?_;intro E H0 K hE hK hO;cbv;refine R3 hE (g:=fun r1=>(KF r1)) h (c50 N aB) (.refl _) fun r1 h=>?_;cbv;refine A8 hE h (c50 N aD) (.refl _) fun r2 h=>?_;cbv;refine B1 hE h (fun _ h=>?_) fun _ h=>?_
 ·cbv;cases h;exact hK hO (.refl _)
 cbv;refine R3 hE (g:=fun r3=>vi r3) h (c79 N aB.Time aD.Time) (.refl _) fun r3 h=>?_;cbv;refine R3 hE (g:=fun r4=>vi r4) h (c79 N aB.Source aD.Source) (.refl _) fun r4 h=>?_;cbv;refine A8 hE h (c79 N aB.Seq aD.Seq) (.refl _) fun r5 h=>?_;cbv;refine A8 hE h (c77 N ([r3,r4,r5])) (.cons (.lit _ (I0 (rfl) (I0 (rfl) (I0 (rfl) (E0))))) (.refl _)) fun r6 h=>?_;cbv;cases h;exact hK hO (.refl _)
def cf70 :Cf:=⟨[2],[],[],[],[],[]⟩
theorem c70 (N aC r)(h:Gc N aC=some r):C0 prog 70 [(Af aC)] ((Ou r)):=by
 unfold Gc at h
 refine O7 cf70 func70 call70 ntmps70 ?_;intro E H0 K hE hK hO;cbv;refine D3 hE hO fun b1 H hO=>?_;cbv;refine A9 hE hO 0 rfl rfl fun H hO=>?_;cbv;refine B2 hE hO 0 rfl ?_;cbv;cases h;exact hK hO (.refl _)
def cf48 :Cf:=⟨[5],[(9,9)],[],[],[],[]⟩
theorem c48 (N aG r) (h:Fq N aG=some r):C0 prog 48 [sr eBe2 aG] (vi r):=by
 unfold Fq at h
 refine O7 cf48 func48 call48 ntmps48 ?_;intro E H0 K hE hK hO;cbv;refine G1 hE ?_;cbv;refine B1 hE h (fun _ h=>?_) fun _ h=>?_
 ·cbv;cases h;exact hK hO (.refl _)
 cbv;refine AR6 hE XT eBg2 V.bool hO fun m1 o2 H ho2 hO=>?_;cbv;refine G1 hE ?_;cbv;obtain⟨s5,hx,h⟩:=bind_some h;refine Bm cf48 hE Q6 (γ:=Obj) (fun s3 g=>[(0,.v (sr eBe2 aG)),(3,.v (.map m1)),(10,.v (sr eBe2 aG)),fi 11 (Ar.len aG),fi 12 s3.1]) (fun s3 g H1=>Mok XT eBg2 V.bool g s3.2∧C3 Eq H0 [.blk m1 (.obj g)] H1) (fun x e l H1=>match(generalizing:=false) x with| .inl y=>∃u1:Obj,Mok XT eBg2 V.bool u1 y∧e= .exit 0∧l=[]∧C3 Eq H0 [.blk m1 (.obj u1)] H1| .inr y=>∃u1:Obj,Mok XT eBg2 V.bool u1 y.2∧e= .ret∧l=[fi 2 y.1]∧C3 Eq H0 [.blk m1 (.obj u1)] H1) (by kernel_rfl) ?_ o2 hx ?_ ?_ ?_
 ·rintro s3 q4 H o ⟨hq4,hO⟩ h;clear hx;cbv;refine B1 hE h (fun _ h=>?_) fun _ h=>?_
  ·cbv;refine C9 hE eBe6 h fun x6 h=>?_;cbv;refine D3 hE hO fun b7 H hO=>?_;cbv;refine A9 hE hO 0 rfl rfl fun H hO=>?_;cbv;refine B2 hE hO 0 rfl ?_;cbv;refine A8 hE h (c68 N x6) (.refl _) fun r8 h=>?_;cbv;refine B1 hE h (fun _ h=>?_) fun _ h=>?_
   ·cbv;cases h;exact⟨_,_,rfl,⟨q4,hq4,rfl,rfl,hO.tail⟩,.e rfl .z,rfl⟩
   cbv;refine B1 hE h (fun _ h=>?_) fun _ h=>?_
   ·cbv;refine C9 hE eBe6 h fun x9 h=>?_;cbv;refine B2 hE hO 0 rfl ?_;cbv;refine A8 hE h (c69 N x9 x6) (.refl _) fun r10 h=>?_;cbv;refine B1 hE h (fun _ h=>?_) fun _ h=>?_
    ·cbv;cases h;exact⟨_,_,rfl,⟨q4,hq4,rfl,rfl,hO.tail⟩,.e rfl .z,rfl⟩
    cbv;refine B2 hE hO 0 rfl ?_;cbv;refine A8 hE h (c70 N x6) (.refl _) fun r11 h=>?_;cbv;refine AA1 (eBg7 r11) ?_;refine ZH hE (kt:=138) (et:=4) (by kernel_rfl) (by kernel_rfl) Ag1 (false:Bool) (by kernel_rfl) rfl hO hq4 1 rfl h fun r12 h=>?_;cbv;refine B1 hE h (fun _ h=>?_) fun _ h=>?_
    ·cbv;cases h;exact⟨_,_,rfl,⟨q4,hq4,rfl,rfl,hO.tail⟩,.e rfl .z,rfl⟩
    cbv;refine B2 hE hO 0 rfl ?_;cbv;refine A8 hE h (c70 N x6) (.refl _) fun r13 h=>?_;cbv;refine Af7 (eBg7 r13) ?_;refine ZG hE (kt:=138) (et:=4) (by kernel_rfl) (by kernel_rfl) Ag1 PL hO hq4 1 rfl h fun l15 o14 H ho14 h hO=>?_;cbv;cases h;exact⟨_,o14,rfl,.e rfl (.e4 .z),rfl,ho14,hO.tail⟩
   cbv;refine B2 hE hO 0 rfl ?_;cbv;refine A8 hE h (c70 N x6) (.refl _) fun r16 h=>?_;cbv;refine AA1 (eBg7 r16) ?_;refine ZH hE (kt:=138) (et:=4) (by kernel_rfl) (by kernel_rfl) Ag1 (false:Bool) (by kernel_rfl) rfl hO hq4 1 rfl h fun r17 h=>?_;cbv;refine B1 hE h (fun _ h=>?_) fun _ h=>?_
   ·cbv;cases h;exact⟨_,_,rfl,⟨q4,hq4,rfl,rfl,hO.tail⟩,.e rfl .z,rfl⟩
   cbv;refine B2 hE hO 0 rfl ?_;cbv;refine A8 hE h (c70 N x6) (.refl _) fun r18 h=>?_;cbv;refine Af7 (eBg7 r18) ?_;refine ZG hE (kt:=138) (et:=4) (by kernel_rfl) (by kernel_rfl) Ag1 PL hO hq4 1 rfl h fun l20 o19 H ho19 h hO=>?_;cbv;cases h;exact⟨_,o19,rfl,.e rfl (.e4 .z),rfl,ho19,hO.tail⟩
  cbv;cases h;exact⟨_,_,rfl,⟨q4,hq4,rfl,rfl,hO⟩,.z,rfl⟩
 ·exact .e rfl (.e4 .z)
 ·exact⟨ho2,hO⟩
 clear hx
 rcases s5 with y21|y23
 ·rintro e l H ⟨q22,hq22,rfl,rfl,hO⟩;cbv;cases h;exact hK hO (.refl _)
 rintro e l H ⟨q24,hq24,rfl,rfl,hO⟩;cbv;cases h;exact hK hO (.refl _)
def cf71 :Cf:=⟨[0],[],[],[],[],[]⟩
theorem c71 (N r)(h:Db N=some r):C0 prog 71 [] (.agg [.func (.func 96) [] [],.func (.func 97) [] [],.func (.func 98) [] [],.func (.func 99) [] [],.func (.func 100) [] [],.func (.func 101) [] [],.func (.func 101) [] [],.func (.func 101) [] []]):=by
 unfold Db at h
 refine O7 cf71 func71 call71 ntmps71 ?_;intro E H0 K hE hK hO;cbv;refine D3 hE hO fun b1 H hO=>?_;cbv;refine A9 hE hO 0 rfl rfl fun H hO=>?_;cbv;refine B2 hE hO 0 rfl ?_;cbv;cases h;exact hK hO (.refl _)
end Go.Ab
