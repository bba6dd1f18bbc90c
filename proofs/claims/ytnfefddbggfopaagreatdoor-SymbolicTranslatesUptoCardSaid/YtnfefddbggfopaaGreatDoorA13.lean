/- . -/
import Derived.Test.YtnfefddbggfopaaGreatDoorA12
set_option linter.all false
open Go.Ab.Ar (ar ar_eq cmp cmp_eq lst nt_eq)
namespace Go.Ab
open Go.RowKit Go.Proofs Go.Proofs.Tryz L7
variable [Ar][L7]
set_option maxRecDepth 100000
def Be2 (vals:Array Value)(w:World):(callFunc 248 vals).run prog w=((Extern.SlicesOverlaps.overlaps #[23,23] #[4] vals).run prog w).andThen fun v w'=>.ok (.value v) w':=
 run_callFunc_extern func248 (by kernel_rfl) (by kernel_rfl) (by kernel_rfl) (e:=Extern.SlicesOverlaps.overlaps #[23,23] #[4]) (by kernel_rfl) vals w
def cf231:=cfB [] [(11,8),(15,8)]
set_option maxHeartbeats 1000000 in
def c231 (N aC aP aN r) (h:X1 N aC aP aN=some r):Qp prog 231 [vi aP,.sl (lst eBg8 aN) .ro] 14 (lst eBg8 aC) (lst eBg8 r):=by
 obtain⟨x,h1,h2⟩:=A7 h;cases O8 h2;obtain⟨h0,h1,h2,hr⟩:=AN0 (f:=eBg8) h1;rw[hr];clear hr h;have hvall:=Js N3 aN
 generalize lst eBg8 aC=xs at *
 generalize lst eBg8 aN=vs at *
 rintro H ⟨id,lo,n,pre,rest⟩ ⟨e1,e2⟩ hk
 simp only at e1 e2 hk
 refine TA (T:=TT) cf231 J6 func231 (by rfl) (by kernel_rfl) call231 ntmps231 (by rfl) (by rfl) ?_;intro E K hE hK
 simp only at hK ⊢
 generalize hrow:pre++xs++rest=row at hk
 obtain⟨RL,hRL⟩:∃RL:Int,RL=(row.length:Nat):=⟨_,rfl⟩;obtain⟨M,hM⟩:∃M:Int,M=(vs.length:Nat):=⟨_,rfl⟩
 have hlen:lo+n≤RL:=by rw[hRL,←hrow,e1,e2];simp;omega
 have hn0:0≤lo∧0≤n∧aP≤n∧0≤M∧n+M≤1073741824:=by omega
 have hwrap:∀a b:Int,0≤a→0≤b→a+b≤1073741824→ar .add .i64 a b=a+b:=fun a b ha hb hab=>by rw[ar_eq];exact wrap_small _ (by omega) (by omega)
 have hwrap2:∀a b:Int,0≤b→b≤a→a≤1073741824→ar .sub .i64 a b=a-b:=fun a b ha hb hab=>by rw[ar_eq];exact wrap_small _ (by omega) (by omega)
 have hadd:ar .add .i64 n M=n+M:=hwrap _ _ (by omega) (by omega) (by omega);have haddi:ar .add .i64 aP M=aP+M:=hwrap _ _ (by omega) (by omega) (by omega)
 have hd2:ar .sub .i64 (ar .add .i64 n M) aP=n+M-aP:=by rw[hadd];exact hwrap2 _ aP h0 (by omega) (by omega)
 have hgt:∀c b,cmp .gtr (ar .add .i64 n M) c=b→(b=true→c<n+M)∧(b=false→n+M≤c):=fun c b h=>by
  rw[cmp_eq,hadd]at h;subst h;simp[Ij]
 have hbn:(n.toNat+vs.length)*152≤140737488355328:=MZ (by omega) (by decide);have hbn2:∀a b:Int,0≤a→0≤b→a+b≤1073741824→(a.toNat+b.toNat)*152≤140737488355328:=fun a b _ _ _=>MZ (by omega) (by decide)
 have hsubl:∀l2 n2:Int,0≤l2→0≤n2→l2+n2≤RL→n2=((N8 row l2 n2).length:Nat):=fun l2 n2 a b c=>by rw[BQ a b (by rw[←hRL];exact c)];omega
 have hov:∀(r1 r2 ys:List V) (L l YL n:Int),L=(r1.length:Nat)→YL=(ys.length:Nat)→0≤l→l+YL≤L→r2=AP r1 l.toNat (ys.take n.toNat)→L=(r2.length:Nat):=fun r1 r2 ys L l YL n a b c d e=>by
  rw[e,El (by simp;omega)];exact a
 have hov2:∀(r1:List V) (l l2 n2 n:Int),0≤l→0≤n→l+n≤RL→0≤l2→0≤n2→r1=AP row l.toNat ((N8 row l2 n2).take n.toNat)→RL=(r1.length:Nat):=fun r1 l l2 n2 n a b c _ _ e=>by
  rw[e,El (by simp;omega)];exact hRL
 have hnl:∀(r2:List V) (z:V) (j:Nat) (l n d:Int),0≤l→0≤n→l+n≤RL→0≤d→r2=N8 row l n++List.replicate d.toNat z++List.replicate j z→∃L:Int,L=(r2.length:Nat)∧n+d≤L:=fun r2 z j l n d a b c e f=>⟨_,rfl,by rw[f];simp only[Ac,Qt,BQ a b (by rw[←hRL];exact c)];omega⟩
 have hne:∀t (b:Option Ds),H t=none→upd H t b id=some (.arr 14 row):=fun t b ht=>by rw[D2 _ _ (fun e=>by subst e;rw[hk]at ht;cases ht)];exact hk
 have hx0:vs=[]→xs.take aP.toNat++vs++xs.drop aP.toNat=xs:=fun e=>by rw[e,L4,Ad]
 have hx1:aP=n→xs.take aP.toNat++vs++xs.drop aP.toNat=xs++vs:=fun e=>by rw[e,e2,Fk,S2 (D5 _),Qv (D5 _),L4]
 have hv0:M=0→vs=[]:=fun e=>List.length_eq_zero_iff.1 (by omega)
 have hcmp:∀op a b c,cmp op a b=c→Ij op a b=c:=fun op a b c h=>by rw[←cmp_eq];exact h
 cbv;refine Y7 hE hk hRL aP n rfl rfl h0 (by omega) hlen fun _ _ _ _=>?_;cbv;refine VS hE hM ?_;cbv;refine PV hE (fun hc=>?_) (fun hc=>?_)
 ·cbv
  have hm0:M=0:=by simpa[Ij]using hcmp _ _ _ _ hc
  rw[hx0 (hv0 hm0)]at hK
  refine hK id lo n row pre rest H hrow.symm e1 e2 (.inl rfl) ?_;rw[Al];exact AV9 hk
 cbv
 have hm0:¬M=0:=by simpa[Ij]using hcmp _ _ _ _ hc
 refine VQ hE ?_;cbv;refine PV hE (fun hc2=>?_) (fun hc2=>?_)
 ·cbv
  have hin2:aP=n:=by simpa[Ij]using hcmp _ _ _ _ hc2
  rw[hx1 hin2]at hK
  refine Az9 hE hk hRL (y:=.sl vs .ro) (ys':=vs) ⟨.refl _,hvall⟩ hM (fun hfit m row1 q5 hr1=>?_) (fun hno=>⟨hbn,fun t m row1 j ht q5 hr1=>?_⟩)
  ·cbv;have h3:=AO5 hrow.symm e1 e2 hM q5 hr1;exact hK id lo m row1 pre _ _ h3.1 e1 h3.2 (.inl rfl) (by rw[Al];exact .refl _)
  cbv;have h3:=AE0 hrow.symm e1 e2 hM q5 hr1;exact hK t 0 m row1 [] _ _ h3.1 rfl h3.2 (.inr ht) Ak0
 cbv;refine AW5 hE hk hRL fun c hcap=>?_;cbv;refine PV hE (fun hc3=>?_) (fun hc3=>?_)
 ·have hgr:c<n+M:=(hgt c _ hc3).1 rfl;cbv;refine Y7 hE hk hRL 0 aP rfl rfl (S0 _) h0 (by omega) fun l1 n1 q1 q2=>?_
  have q1':lo=l1:=by omega
  have q2':aP=n1:=by omega
  subst q1' q2';cbv;refine AK8 hE (n+M-aP) hd2 hk hRL (by omega) (hbn2 _ _ (by omega) (by omega) (by omega)) (fun hfit=>absurd hfit (by omega)) (fun hno t m row2 j ht qm hr2=>?_);obtain⟨L2,hL2,hL2'⟩:=hnl row2 _ j _ _ _ (by omega) (by omega) (by omega) (by omega) hr2;cbv;refine Y7 hE (E4 _ _ _) hL2 aP m rfl rfl h0 (by omega) (by omega) fun l1' n1' q1 q2=>?_;cbv;refine OJ hE (E4 _ _ _) (y:=.sl vs .ro) (ys':=vs) ⟨.refl _,hvall⟩ hM fun cm row3 _ hr3=>?_;have hL3:=hov row2 row3 vs L2 l1' M n1' hL2 hM (by omega) (by omega) hr3;rw[Al];cbv;refine Y7 hE (E4 _ _ _) hL3 _ m haddi rfl (by omega) (by omega) (by omega) fun l2' n2' q3 q4=>?_;cbv;refine Y7 hE (hne _ _ ht) hRL aP n rfl rfl h0 (by omega) hlen fun l3' n3' q5 q6=>?_;cbv;refine OJ hE (E4 _ _ _) (VC hE (hne _ _ ht)) (hsubl l3' n3' (by omega) (by omega) (by omega)) fun cm2 row4 _ hr4=>?_;rw[Al];cbv;have h3:=AO4 (d:=n+M-aP) (m:=m) hrow.symm e1 e2 hM h0 h1 rfl qm hr2 (by omega) q2 hr3 (by omega) (by omega) q5 q6 hr4;exact hK t 0 m row4 [] _ _ h3.1 rfl h3.2 (.inr ht) Ak0
 have hle':n+M≤c:=(hgt c _ hc3).2 rfl;cbv;refine Y7 hE hk hRL 0 (n+M) rfl hadd (S0 _) (by omega) (by omega) fun l0 n0 ql qm=>?_;cbv;refine Y7 hE hk hRL _ n0 haddi rfl (by omega) (by omega) (by omega) fun l1 n1 q1 q2=>?_;cbv;refine AK9 hE (TD (P:=prog) (f:=248) (tS:=23) (tR:=4) (e:=30) (sz:=14) (xs:=vs) (t:=.ro) Be2 (by kernel_rfl) (by kernel_rfl) hk hvall) ?_;cbv;refine PV hE (fun hc4=>?_) (fun hc4=>?_)
 rotate_left
 ·exact absurd (show Ar.nt false=false from hc4) (by rw[nt_eq];decide)
 cbv;refine Y7 hE hk hRL _ n0 haddi rfl (by omega) (by omega) (by omega) fun l1 n1 q1 q2=>?_;cbv;refine Y7 hE hk hRL aP n0 rfl rfl h0 (by omega) (by omega) fun l2 n2 q3 q4=>?_;cbv;refine OJ hE hk (VC hE hk) (hsubl l2 n2 (by omega) (by omega) (by omega)) fun cm row1 _ hr1=>?_;have hL1:=hov2 row1 l1 l2 n2 n1 (by omega) (by omega) (by omega) (by omega) (by omega) hr1;cbv;refine Y7 hE (E4 _ _ _) hL1 aP n0 rfl rfl h0 (by omega) (by omega) fun l3 n3 q5 q6=>?_;cbv;refine OJ hE (E4 _ _ _) (y:=.sl vs .ro) (ys':=vs) ⟨.refl _,hvall⟩ hM fun cm2 row2 _ hr2=>?_;rw[Al];cbv;have h3:=AX7 (m:=n0) hrow.symm e1 e2 hM h0 h1 hRL (by omega) (by omega) (by omega) q1 q2 q3 q4 hr1 q5 q6 hr2;exact hK id l0 n0 row2 pre _ _ h3.1 (by omega) h3.2 (.inl rfl) (by rw[Al];exact .refl _)
def cf232:=cfA [4]
def c232 (N aI bK r)(h:AS N aI bK=some r):C3 prog 232 [vi aI,sr eBg8 bK] ((C9 r)):=by
 refine N2 cf232 func232 call232 ntmps232 ?_;intro E H0 K hE hK hO
 repeat' (cbv;first|apply B7 hE h<;>intro _ h|apply G9 hE|refine D8 hE eBh0 h fun _ h=>?_|apply D0 hE hO 0 rfl|refine B9 hE hO 0 rfl rfl fun H hO=>?_|refine E5 hE hO fun _ H hO=>?_|(cases h;exact hK hO .z)|(cases h;exact hK hO (.agg (.r (.r (.r (.r (.r (.r (.r (.cons (.lit _ (B5)) .z)))))))))))
def cf214:Cf:=⟨[4],[],[(10,4)],[],[(20,5),(20,16)],[]⟩
def c214 (N bG cD r) (h:Be N bG cD=some r):C3 prog 214 [(C2 bG),sr eBg8 cD] ((C2 r)):=by
 refine N2 cf214 func214 call214 ntmps214 ?_;intro E H0 K hE hK hO;cbv;refine E5 hE hO fun b1 H hO=>?_;cbv;refine Hh hE (f:=eBg8) h (c230 N cD) .z hO fun l2 q3 H hq3 hO h=>?_;cbv;obtain⟨s4,hx,h⟩:=A7 h;refine L5 cf214 hE J6 (fun e l H1=>∃u1:OG,Bz u1 (Ar.len s4)∧e= .normal∧l=[(4,.v (.ref b1 0)),(5,.v (.own u1.id u1.lo u1.n))]∧B6 Eq H0 [ob u1 14 eBg8 s4,cb b1 [.bool false,vi 0,.sl [] .nil,vi 0,vi 0,vi 0,vi 0,vi 0,.sl [] .nil,vi 0,vi 0,vi 0,vi 0,vi 0,.str (⟨#[]⟩)]] H1) (by kernel_rfl) ?_ ?_
 ·clear h;have h:=hx;cbv;apply B7 hE h<;>intro _ h
  ·cbv;refine OQ hE (f:=eBg8) hO hq3 0 rfl h (c231 N l2 0 ([bG.p])) (.r (.cons (.lit _ (F2 ((eBh0 bG.p).symm) (B5))) .z)) fun l5 q6 H hq6 hO h=>?_;cbv;cases h;exact⟨_,⟨q6,hq6,rfl,rfl,hO⟩,.e2 .z,rfl⟩
  cbv;cases h;exact⟨_,⟨q3,hq3,rfl,rfl,hO⟩,.e2 .z,rfl⟩
 clear hx;rintro e l H ⟨q7,hq7,rfl,rfl,hO⟩
 repeat' (cbv;first|apply B7 hE h<;>intro _ h|refine A9 hE h (c232 _ _ _) .z fun _ h=>?_|apply D0 hE hO 1 rfl|apply D0 hE hO 0 rfl|refine B9 hE hO 1 rfl rfl fun H hO=>?_|refine B9 hE hO 0 rfl rfl fun H hO=>?_|(cases h;exact hK hO (.agg (.r (.r (.cons (.lit _ (B5)) (.r (.r (.r (.r (.r (.cons (.lit _ (B5)) .z)))))))))))|(cases h;exact hK hO .z)|apply KB hE hq7|refine NR hE hO hq7 0 rfl fun H hO=>?_|apply HN hE (by trivial))
def cf233:=cfB [] [(5,6)]
def c233 (N aC aP bT r) (h:X2 N aC aP bT=some r):Qp prog 233 [vi aP,vi bT] 14 (lst eBg8 aC) (lst eBg8 r):=by
 obtain⟨x,h1,h2⟩:=A7 h;cases O8 h2;obtain⟨h0,h1,h2,hr⟩:=AN1 (f:=eBg8) h1;rw[hr];clear hr h
 generalize lst eBg8 aC=xs at *
 rintro H ⟨id,lo,n,pre,rest⟩ ⟨e1,e2⟩ hk
 simp only at e1 e2 hk
 refine TA (T:=TT) cf233 J6 func233 (by rfl) (by kernel_rfl) call233 ntmps233 (by rfl) (by rfl) ?_;intro E K hE hK
 simp only at hK ⊢
 generalize hrow:pre++xs++rest=row at hk
 obtain⟨RL,hRL⟩:∃RL:Int,RL=(row.length:Nat):=⟨_,rfl⟩
 have hlen:lo+n≤RL:=by rw[hRL,←hrow,e1,e2];simp;omega
 have hn0:0≤lo∧0≤n∧bT≤n:=by omega
 have hdl:∀l2 n2:Int,0≤l2→0≤n2→l2+n2≤RL→n2=((N8 row l2 n2).length:Nat):=fun l2 n2 a b c=>by rw[BQ a b (by rw[←hRL];exact c)];omega
 cbv;refine VQ hE ?_;cbv;refine Ap0 hE hk hRL aP bT rfl rfl h0 h1 (by omega) hlen rfl ?_;cbv;refine PV hE (fun hc=>?_) (fun hc=>?_)
 ·cbv
  have hij:aP=bT:=by rw[cmp_eq]at hc;simpa[Ij]using hc
  refine hK id lo n row pre rest H ?_ e1 ?_ (.inl rfl) ?_
  ·rw[←hrow,hij,Ad]
  ·rw[hij,Ad];exact e2
  rw[Al];intro y b hy
  by_cases ey:y=id
  ·subst ey;rw[E4]at hy;cases hy;exact hk
  rwa[D2 _ _ ey]at hy
 cbv;refine VQ hE ?_;cbv;refine Y7 hE hk hRL 0 aP rfl rfl (S0 _) h0 (by omega) fun l1 n1 q1 q2=>?_;cbv;refine Y7 hE hk hRL bT n rfl rfl (by omega) (by omega) hlen fun l2 n2 q3 q4=>?_;cbv;have hsl:=hdl l2 n2 (by omega) (by omega) (by omega);refine Az9 hE hk hRL (VC hE hk) hsl (fun hfit m row1 q5 hr1=>?_) (fun hno=>absurd hno (by omega));cbv;refine VQ hE ?_;cbv
 have hR1:RL=(row1.length:Nat):=by rw[hr1,El (AJ5 hRL hsl (by omega) (by omega) hfit)];exact hRL
 refine Y7 hE (E4 _ _ _) hR1 m n rfl rfl (by omega) (by omega) (by omega) fun l3 n3 q6 q7=>?_;cbv;refine Az8 hE (E4 _ _ _) fun row2 hr2=>?_;cbv;have hd:=AP7 hrow.symm e1 e2 h0 h1 h2 (by omega) (by omega) q3 q4 hr1 (q5.trans (P9 (n1+ ·) hsl)) q6 q7 hr2;rw[Al];exact hK id l1 m row2 pre _ _ hd.1 (by omega) hd.2 (.inl rfl) (by rw[Al];exact .refl _)
def cf215:Cf:=⟨[6],[],[],[],[(22,7)],[]⟩
def c215 (N bK bP bG r)(h:CA N bK bP bG=some r):C3 prog 215 [sr eBg8 bK,vi bP,(C2 bG)] ((C2 r)):=by
 refine N2 cf215 func215 call215 ntmps215 ?_;intro E H0 K hE hK hO
 repeat' (cbv;first|apply B7 hE h<;>intro _ h|refine Hh hE (f:=eBg8) h (c230 N bK) .z hO fun l2 _ H hq3 hO h=>?_|refine OQ hE (f:=eBg8) hO hq3 0 rfl h (c233 N l2 bP (ar .add .i64 bP 1)) .z fun _ _ H hq5 hO h=>?_|refine A9 hE h (c232 _ _ _) .z fun _ h=>?_|apply D0 hE hO 0 rfl|refine B9 hE hO 0 rfl rfl fun H hO=>?_|refine E5 hE hO fun _ H hO=>?_|(cases h;exact hK hO .z)|refine NR hE hO hq5 0 rfl fun H hO=>?_|refine BF hE hO hq3 0 rfl h fun h=>?_|(refine BE hE (f:=eBg8) (esz:=14) (tz:=14) (off:=0) (u:=(fun x7:A0=>bG.p)) (fun _=>⟨_,.eq (eBh0 _) .z,(by rw[eBh0];rfl),N3 _,rfl⟩) (by decide) hO hq3 0 rfl h fun _ H hq3 h hO=>?_)|refine NR hE hO hq3 0 rfl fun H hO=>?_)
def cf234:=cfA [22]
def c234 (N aC aK r) (h:EB N aC aK=some r):PB prog 234 [.sl [] .nil,vi aK] 8 (lst eBh2 r):=by
 obtain⟨h1,h2,hr⟩:=OW (f:=eBh2) h;rw[hr];clear hr h;intro H0
 have hneg:∀b,cmp .lss aK 0=b→b=false:=fun b h=>by rw[cmp_eq]at h;subst h;simp[Ij];omega
 have hsub:ar .sub .i64 aK (ar .sub .i64 0 0)=aK:=by rw[ar_eq,ar_eq];simp only[arI];rw[show(0:Int)-0=0 from rfl,wrap_small 0 (by omega) (by omega),Ik];exact wrap_small _ (by omega) (by omega)
 have hgt:∀b,cmp .gtr (ar .sub .i64 aK (ar .sub .i64 0 0)) 0=b→(b=false→aK=0):=fun b h=>by rw[hsub,cmp_eq]at h;subst h;simp[Ij];omega
 have hbn:aK.toNat*88≤140737488355328:=by have:=MZ (a:=aK.toNat) (b:=0) (by_:=88) (by omega) (by decide);simpa using this
 have hl0:(0:Int)=(([]:List V).length:Nat):=rfl;refine Dr (T:=TT) cf234 J6 func234 (by rfl) (by kernel_rfl) call234 ntmps234 (by rfl) (by rfl) ?_;intro E K hE hK hN;cbv;refine PV hE (fun hc=>absurd (hneg _ hc) (by decide)) (fun hc=>?_);cbv;refine VS hE hl0 ?_;cbv;refine PV hE (fun hc2=>?_) (fun hc2=>?_)
 ·cbv;refine Ru hE ?_;cbv;refine OK hE aK hsub (.inl rfl) h1 hbn fun t m row j ht hm hrow=>?_;obtain⟨RL,hRL,hR0⟩:∃RL:Int,RL=(row.length:Nat)∧0≤RL:=⟨_,rfl,by omega⟩;cbv;refine VS hE hl0 ?_;cbv;refine Y7 hE (E4 _ _ _) hRL 0 0 rfl rfl (S0 _) (S0 _) hR0 fun l' n' q1 q2=>?_;cbv
  have e1:0=l':=by omega
  have e2:0=n':=by omega
  subst e1 e2;exact hK ⟨t,0,0,[],row⟩ [] _ ⟨rfl,rfl⟩ ((B6.start E0 rfl).push ht rfl)
 cbv;exact hN rfl [] H0 (.start E0 rfl)
def c218 (N aO r) (h:X6 N aO=some r):C3 prog 218 [sr eBj2 aO] (sr eBh2 r):=by
 refine AL (T:=TT) A8 J6 func218 (by rfl) (by kernel_rfl) call218 ntmps218 (by rfl) (by rfl) ?_;intro E H0 K hE hK hF;have hO:B6 Eq H0 [] H0:=.start E0 rfl;cbv;apply G9 hE;cbv;obtain⟨s2,hx,h⟩:=A7 h;refine H5 A8 hE J6 (fun s1=>[(0,.v (sr eBj2 aO)),fi 3 s1.1,(9,.v (sr eBj2 aO)),fi 10 (Ar.len aO),fi 11 s1.2]) (fun s1 H1=>B6 Eq H0 [] H1) (fun x e l H1=>e= .exit 0∧l=[(0,.v (sr eBj2 aO)),fi 3 x]∧B6 Eq H0 [] H1) (by kernel_rfl) ?_ hx ?_ hO ?_
 ·intro s1 H o hO h
  repeat' (cbv;first|apply B7 hE h<;>intro _ h|apply G9 hE|refine D8 hE eBj8 h fun _ h=>?_|(cases h;done)|(cases h;exact⟨_,rfl,.e rfl (.e4 .z),rfl,hO⟩)|(cases h;exact⟨_,_,rfl,⟨rfl,rfl,hO⟩,.e2 .z,rfl⟩))
 ·exact .e rfl (.e4 .z)
 clear hx;rintro e l H ⟨rfl,rfl,hO⟩;cbv;refine Hh hE (f:=eBh2) h (c234 N [] s2) (.r (.r .nil)) hO fun l4 q5 H hq5 hO h=>?_;cbv;apply G9 hE;cbv;obtain⟨s8,hx,h⟩:=A7 h;refine J9 A8 hE J6 (γ:=OG) (fun s6 g=>[(6,.v (.own g.id g.lo g.n)),(25,.v (sr eBj2 aO)),fi 26 (Ar.len aO),fi 27 s6.1]) (fun s6 g H1=>Bz g (Ar.len s6.2)∧B6 Eq H0 [ob g 8 eBh2 s6.2] H1) (fun x e l H1=>∃u1:OG,Bz u1 (Ar.len x)∧e= .exit 2∧l=[(6,.v (.own u1.id u1.lo u1.n))]∧B6 Eq H0 [ob u1 8 eBh2 x] H1) (by kernel_rfl) ?_ q5 hx ?_ ?_ ?_
 ·rintro s6 q7 H o ⟨hq7,hO⟩ h;cbv;apply B7 hE h<;>intro _ h
  ·cbv;refine D8 hE eBj8 h fun x9 h=>?_;cbv;refine DX (f:=eBh2) hE OB (by decide) hO hq7 0 rfl (m:=x9) (Ct (f:=eBh2) hE OB .z) h fun l11 q10 H hq10 hO h=>?_;cbv;cases h;exact⟨_,q10,rfl,.e4 .z,rfl,hq10,hO⟩
  cbv;cases h;exact⟨_,_,rfl,⟨q7,hq7,rfl,rfl,hO⟩,.e rfl .z,rfl⟩
 ·exact .e4 .z
 ·exact⟨hq5,hO⟩
 clear hx;rintro e l H ⟨q12,hq12,rfl,rfl,hO⟩;cbv;cases h;exact hF q12 _ _ 0 _ _ hO rfl (AN hE hq12) .z
def cf250:=cfA [22]
def c250 (N aC aK r) (h:Gw N aC aK=some r):PB prog 250 [.sl [] .nil,vi aK] 1 (lst (V.int .i64) r):=by
 obtain⟨h1,h2,hr⟩:=OW (f:=(V.int .i64)) h;rw[hr];clear hr h;intro H0
 have hneg:∀b,cmp .lss aK 0=b→b=false:=fun b h=>by rw[cmp_eq]at h;subst h;simp[Ij];omega
 have hsub:ar .sub .i64 aK (ar .sub .i64 0 0)=aK:=by rw[ar_eq,ar_eq];simp only[arI];rw[show(0:Int)-0=0 from rfl,wrap_small 0 (by omega) (by omega),Ik];exact wrap_small _ (by omega) (by omega)
 have hgt:∀b,cmp .gtr (ar .sub .i64 aK (ar .sub .i64 0 0)) 0=b→(b=false→aK=0):=fun b h=>by rw[hsub,cmp_eq]at h;subst h;simp[Ij];omega
 have hbn:aK.toNat*8≤140737488355328:=by have:=MZ (a:=aK.toNat) (b:=0) (by_:=8) (by omega) (by decide);simpa using this
 have hl0:(0:Int)=(([]:List V).length:Nat):=rfl;refine Dr (T:=TT) cf250 J6 func250 (by rfl) (by kernel_rfl) call250 ntmps250 (by rfl) (by rfl) ?_;intro E K hE hK hN;cbv;refine PV hE (fun hc=>absurd (hneg _ hc) (by decide)) (fun hc=>?_);cbv;refine VS hE hl0 ?_;cbv;refine PV hE (fun hc2=>?_) (fun hc2=>?_)
 ·cbv;refine Ru hE ?_;cbv;refine OK hE aK hsub (.inl rfl) h1 hbn fun t m row j ht hm hrow=>?_;obtain⟨RL,hRL,hR0⟩:∃RL:Int,RL=(row.length:Nat)∧0≤RL:=⟨_,rfl,by omega⟩;cbv;refine VS hE hl0 ?_;cbv;refine Y7 hE (E4 _ _ _) hRL 0 0 rfl rfl (S0 _) (S0 _) hR0 fun l' n' q1 q2=>?_;cbv
  have e1:0=l':=by omega
  have e2:0=n':=by omega
  subst e1 e2;exact hK ⟨t,0,0,[],row⟩ [] _ ⟨rfl,rfl⟩ ((B6.start E0 rfl).push ht rfl)
 cbv;exact hN rfl [] H0 (.start E0 rfl)
def c235 (N aO r) (h:V5 N aO=some r):C3 prog 235 [sr eLI aO] (sr (V.int .i64) r):=by
 refine AL (T:=TT) A8 J6 func235 (by rfl) (by kernel_rfl) call235 ntmps235 (by rfl) (by rfl) ?_;intro E H0 K hE hK hF;have hO:B6 Eq H0 [] H0:=.start E0 rfl;cbv;apply G9 hE;cbv;obtain⟨s2,hx,h⟩:=A7 h;refine H5 A8 hE J6 (fun s1=>[(0,.v (sr eLI aO)),fi 3 s1.1,(9,.v (sr eLI aO)),fi 10 (Ar.len aO),fi 11 s1.2]) (fun s1 H1=>B6 Eq H0 [] H1) (fun x e l H1=>e= .exit 0∧l=[(0,.v (sr eLI aO)),fi 3 x]∧B6 Eq H0 [] H1) (by kernel_rfl) ?_ hx ?_ hO ?_
 ·intro s1 H o hO h
  repeat' (cbv;first|apply B7 hE h<;>intro _ h|apply G9 hE|refine D8 hE eBj1 h fun _ h=>?_|(cases h;done)|(cases h;exact⟨_,rfl,.e rfl (.e4 .z),rfl,hO⟩)|(cases h;exact⟨_,_,rfl,⟨rfl,rfl,hO⟩,.e2 .z,rfl⟩))
 ·exact .e rfl (.e4 .z)
 clear hx;rintro e l H ⟨rfl,rfl,hO⟩;cbv;refine Hh hE (f:=(V.int .i64)) h (c250 N [] s2) (.r (.r .nil)) hO fun l4 q5 H hq5 hO h=>?_;cbv;apply G9 hE;cbv;obtain⟨s8,hx,h⟩:=A7 h;refine J9 A8 hE J6 (γ:=OG) (fun s6 g=>[(6,.v (.own g.id g.lo g.n)),(25,.v (sr eLI aO)),fi 26 (Ar.len aO),fi 27 s6.1]) (fun s6 g H1=>Bz g (Ar.len s6.2)∧B6 Eq H0 [ob g 1 (V.int .i64) s6.2] H1) (fun x e l H1=>∃u1:OG,Bz u1 (Ar.len x)∧e= .exit 2∧l=[(6,.v (.own u1.id u1.lo u1.n))]∧B6 Eq H0 [ob u1 1 (V.int .i64) x] H1) (by kernel_rfl) ?_ q5 hx ?_ ?_ ?_
 ·rintro s6 q7 H o ⟨hq7,hO⟩ h;cbv;apply B7 hE h<;>intro _ h
  ·cbv;refine D8 hE eBj1 h fun x9 h=>?_;cbv;refine DX (f:=(V.int .i64)) hE (fun _=>rfl) (by decide) hO hq7 0 rfl (m:=x9) (Ct (f:=(V.int .i64)) hE (fun _=>rfl) .z) h fun l11 q10 H hq10 hO h=>?_;cbv;cases h;exact⟨_,q10,rfl,.e4 .z,rfl,hq10,hO⟩
  cbv;cases h;exact⟨_,_,rfl,⟨q7,hq7,rfl,rfl,hO⟩,.e rfl .z,rfl⟩
 ·exact .e4 .z
 ·exact⟨hq5,hO⟩
 clear hx;rintro e l H ⟨q12,hq12,rfl,rfl,hO⟩;cbv;cases h;exact hF q12 _ _ 0 _ _ hO rfl (AN hE hq12) .z
def cf251:=cfA [22]
def c251 (N aC aK r) (h:Dt N aC aK=some r):PB prog 251 [.sl [] .nil,vi aK] 2 (lst eBi1 r):=by
 obtain⟨h1,h2,hr⟩:=OW (f:=eBi1) h;rw[hr];clear hr h;intro H0
 have hneg:∀b,cmp .lss aK 0=b→b=false:=fun b h=>by rw[cmp_eq]at h;subst h;simp[Ij];omega
 have hsub:ar .sub .i64 aK (ar .sub .i64 0 0)=aK:=by rw[ar_eq,ar_eq];simp only[arI];rw[show(0:Int)-0=0 from rfl,wrap_small 0 (by omega) (by omega),Ik];exact wrap_small _ (by omega) (by omega)
 have hgt:∀b,cmp .gtr (ar .sub .i64 aK (ar .sub .i64 0 0)) 0=b→(b=false→aK=0):=fun b h=>by rw[hsub,cmp_eq]at h;subst h;simp[Ij];omega
 have hbn:aK.toNat*16≤140737488355328:=by have:=MZ (a:=aK.toNat) (b:=0) (by_:=16) (by omega) (by decide);simpa using this
 have hl0:(0:Int)=(([]:List V).length:Nat):=rfl;refine Dr (T:=TT) cf251 J6 func251 (by rfl) (by kernel_rfl) call251 ntmps251 (by rfl) (by rfl) ?_;intro E K hE hK hN;cbv;refine PV hE (fun hc=>absurd (hneg _ hc) (by decide)) (fun hc=>?_);cbv;refine VS hE hl0 ?_;cbv;refine PV hE (fun hc2=>?_) (fun hc2=>?_)
 ·cbv;refine Ru hE ?_;cbv;refine OK hE aK hsub (.inl rfl) h1 hbn fun t m row j ht hm hrow=>?_;obtain⟨RL,hRL,hR0⟩:∃RL:Int,RL=(row.length:Nat)∧0≤RL:=⟨_,rfl,by omega⟩;cbv;refine VS hE hl0 ?_;cbv;refine Y7 hE (E4 _ _ _) hRL 0 0 rfl rfl (S0 _) (S0 _) hR0 fun l' n' q1 q2=>?_;cbv
  have e1:0=l':=by omega
  have e2:0=n':=by omega
  subst e1 e2;exact hK ⟨t,0,0,[],row⟩ [] _ ⟨rfl,rfl⟩ ((B6.start E0 rfl).push ht rfl)
 cbv;exact hN rfl [] H0 (.start E0 rfl)
def c236 (N aO r) (h:AD N aO=some r):C3 prog 236 [sr eBj4 aO] (sr eBi1 r):=by
 refine AL (T:=TT) A8 J6 func236 (by rfl) (by kernel_rfl) call236 ntmps236 (by rfl) (by rfl) ?_;intro E H0 K hE hK hF;have hO:B6 Eq H0 [] H0:=.start E0 rfl;cbv;apply G9 hE;cbv;obtain⟨s2,hx,h⟩:=A7 h;refine H5 A8 hE J6 (fun s1=>[(0,.v (sr eBj4 aO)),fi 3 s1.1,(9,.v (sr eBj4 aO)),fi 10 (Ar.len aO),fi 11 s1.2]) (fun s1 H1=>B6 Eq H0 [] H1) (fun x e l H1=>e= .exit 0∧l=[(0,.v (sr eBj4 aO)),fi 3 x]∧B6 Eq H0 [] H1) (by kernel_rfl) ?_ hx ?_ hO ?_
 ·intro s1 H o hO h
  repeat' (cbv;first|apply B7 hE h<;>intro _ h|apply G9 hE|refine D8 hE eBk0 h fun _ h=>?_|(cases h;done)|(cases h;exact⟨_,rfl,.e rfl (.e4 .z),rfl,hO⟩)|(cases h;exact⟨_,_,rfl,⟨rfl,rfl,hO⟩,.e2 .z,rfl⟩))
 ·exact .e rfl (.e4 .z)
 clear hx;rintro e l H ⟨rfl,rfl,hO⟩;cbv;refine Hh hE (f:=eBi1) h (c251 N [] s2) (.r (.r .nil)) hO fun l4 q5 H hq5 hO h=>?_;cbv;apply G9 hE;cbv;obtain⟨s8,hx,h⟩:=A7 h;refine J9 A8 hE J6 (γ:=OG) (fun s6 g=>[(6,.v (.own g.id g.lo g.n)),(25,.v (sr eBj4 aO)),fi 26 (Ar.len aO),fi 27 s6.1]) (fun s6 g H1=>Bz g (Ar.len s6.2)∧B6 Eq H0 [ob g 2 eBi1 s6.2] H1) (fun x e l H1=>∃u1:OG,Bz u1 (Ar.len x)∧e= .exit 2∧l=[(6,.v (.own u1.id u1.lo u1.n))]∧B6 Eq H0 [ob u1 2 eBi1 x] H1) (by kernel_rfl) ?_ q5 hx ?_ ?_ ?_
 ·rintro s6 q7 H o ⟨hq7,hO⟩ h;cbv;apply B7 hE h<;>intro _ h
  ·cbv;refine D8 hE eBk0 h fun x9 h=>?_;cbv;refine DX (f:=eBi1) hE PI (by decide) hO hq7 0 rfl (m:=x9) (Ct (f:=eBi1) hE PI .z) h fun l11 q10 H hq10 hO h=>?_;cbv;cases h;exact⟨_,q10,rfl,.e4 .z,rfl,hq10,hO⟩
  cbv;cases h;exact⟨_,_,rfl,⟨q7,hq7,rfl,rfl,hO⟩,.e rfl .z,rfl⟩
 ·exact .e4 .z
 ·exact⟨hq5,hO⟩
 clear hx;rintro e l H ⟨q12,hq12,rfl,rfl,hO⟩;cbv;cases h;exact hF q12 _ _ 0 _ _ hO rfl (AN hE hq12) .z
def cf219:=cfC [5,8] [] [(9,3),(25,5)]
def c219 (N aA aG bY cI r) (h:V6 N aA aG bY cI=some r):C3 prog 219 [(C9 aA),(K1 aG),.bool bY,.bool cI] ((K1 r)):=by
 refine N2 cf219 func219 call219 ntmps219 ?_;intro E H0 K hE hK hO;cbv;refine E5 hE hO fun b1 H hO=>?_;cbv;refine E5 hE hO fun b2 H hO=>?_;cbv;obtain⟨s3,hx,h⟩:=A7 h;refine L5 cf219 hE J6 (fun e l H1=>e= .normal∧l=[(2,.v (.bool bY)),(4,.v (.eref (E1 aA) 0)),(5,.v (.ref b1 0)),(8,.v (.ref b2 0))]∧B6 Eq H0 [cb b2 [vi 0,vi 0,vi 0,vi 0,vi 0,.sl [] .nil,vi 0,vi 0,vi 0,vi 0,vi 0,.str (⟨#[]⟩),.sl [] .nil,.sl [] .nil,.sl [] .nil,.sl [] .nil,.sl [] .nil],cb b1 (U3 s3)] H1) (by kernel_rfl) ?_ ?_
 ·clear h;have h:=hx
  repeat' (cbv;first|apply B7 hE h<;>intro _ h|refine A9 hE h (c235 _ _) (.cons (.sl _ (.lstc (.eq (eBj1 ([aA.cY])) (.lit _ (F2 (rfl) (B5)))) (.lstc (.eq (eBj1 aG.dG) .z) (.lst0)))) .z) fun _ h=>?_|apply D0 hE hO 1 rfl|refine B9 hE hO 1 rfl rfl fun H hO=>?_|(cases h;exact⟨_,⟨rfl,rfl,hO⟩,.e4 .z,rfl⟩))
 clear hx;rintro e l H ⟨rfl,rfl,hO⟩;cbv;obtain⟨s5,hx,h⟩:=A7 h;refine L5 cf219 hE J6 (fun e l H1=>e= .normal∧l=[(2,.v (.bool bY)),(4,.v (.eref (E1 aA) 0)),(5,.v (.ref b1 0)),(8,.v (.ref b2 0))]∧B6 Eq H0 [cb b2 [vi 0,vi 0,vi 0,vi 0,vi 0,.sl [] .nil,vi 0,vi 0,vi 0,vi 0,vi 0,.str (⟨#[]⟩),.sl [] .nil,.sl [] .nil,.sl [] .nil,.sl [] .nil,.sl [] .nil],cb b1 (U3 s5)] H1) (by kernel_rfl) ?_ ?_
 ·clear h;have h:=hx
  repeat' (cbv;first|apply B7 hE h<;>intro _ h|refine A9 hE h (c235 _ _) (.cons (.sl _ (.lstc (.eq (eBj1 ([aA.cY])) (.lit _ (F2 (rfl) (B5)))) (.lstc (.eq (eBj1 s3.dH) .z) (.lst0)))) .z) fun _ h=>?_|refine A9 hE h (c236 _ _) (.cons (.sl _ (.lstc (.eq (eBk0 ([(⟨aA.cY,aA.Span⟩:V9)])) (.lit _ (F2 ((eBj6 (⟨aA.cY,aA.Span⟩:V9)).symm) (B5)))) (.lstc (.eq (eBk0 s3.dF) .z) (.lst0)))) .z) fun _ h=>?_|apply D0 hE hO 1 rfl|refine B9 hE hO 1 rfl rfl fun H hO=>?_|(cases h;exact⟨_,⟨rfl,rfl,hO⟩,.e4 .z,rfl⟩))
 clear hx;rintro e l H ⟨rfl,rfl,hO⟩
 repeat' (cbv;first|apply B7 hE h<;>intro _ h|refine A9 hE h (c235 _ _) (.cons (.sl _ (.lstc (.eq (eBj1 s5.dI) .z) (.lstc (.eq (eBj1 ([aA.cY])) (.lit _ (F2 (rfl) (B5)))) (.lst0)))) .z) fun _ h=>?_|apply D0 hE hO 1 rfl|apply D0 hE hO 0 rfl|refine B9 hE hO 1 rfl rfl fun H hO=>?_|refine B9 hE hO 0 rfl rfl fun H hO=>?_|(cases h;exact hK hO .z))
def cf220:Cf:=⟨[3,6],[(1,5)],[],[],[],[(1,3,[10])]⟩
def c220 (N aA aI bL r)(h:Cz N aA aI bL=some r):C3 prog 220 [(C9 aA),vi aI,(C9 bL)] ((C9 r)):=by
 refine N2 cf220 func220 call220 ntmps220 ?_;intro E H0 K hE hK hO;cbv;refine E5 hE hO fun b1 H hO=>?_;cbv;refine E5 hE hO fun b2 H hO=>?_;cbv;refine SJ hE hO 1 rfl fun H1 hT hW=>?_;cbv;apply HN hE trivial;cbv;refine SN hE hO 1 rfl hT fun H hO=>?_;cbv;refine B9 hE hO 1 rfl rfl fun H hO=>?_;cbv;apply D0 hE hO 1 rfl;cbv;refine B9 hE hO 0 rfl rfl fun H hO=>?_;cbv;apply D0 hE hO 0 rfl;cbv;cases h;exact hK hO (.agg (.r (.cons (.lit _ (F2 ((eBh0 bL).symm) (B5))) .z)))
def cf150:=cfC [] [(9,5),(11,8)] [(8,6)]
def AH7 (N n:Nat):Prop:=∀(aA:A0) (r:(List (C4×A6))),L3 N n aA=some r→Fg prog 150 [(C9 aA)] (fun v=>Jm prog v (r.map fun(x:(C4×A6))=>[(K1 x.1),(C2 x.2)]))
def Ba8 (N n:Nat):Prop:=∀(aA:A0) (r:(List (C4×A6))),Ah N n aA=some r→Fg prog 184 [(C9 aA)] (fun v=>Jm prog v (r.map fun(x:(C4×A6))=>[(K1 x.1),(C2 x.2)]))
def Ba7 (N n:Nat):Prop:=∀(bU:A0) (bV:A0) (r:(List (C4×A6))),S7 N n bU bV=some r→Fg prog 185 [(C9 bU),(C9 bV)] (fun v=>Jm prog v (r.map fun(x:(C4×A6))=>[(K1 x.1),(C2 x.2)]))
def Ba6 (N n:Nat):Prop:=∀(aA:A0) (r:(List (C4×A6))),BN N n aA=some r→Fg prog 186 [(C9 aA)] (fun v=>Jm prog v (r.map fun(x:(C4×A6))=>[(K1 x.1),(C2 x.2)]))
def cf213:Cf:=⟨[3,4,6,1000002],[(10,4)],[],[4],[],[]⟩
def Ba5 (N n:Nat):Prop:=∀(aH:A0) (r:(List (C4×A6))),W3 N n aH=some r→JY prog 213 (fun yv=>[yv,.eref (E1 aH) 0]) (List.map (fun(x:(C4×A6))=>[(K1 x.1),(C2 x.2)]) r) rbN
def cf216:=cfB [1000003] [(5,11)]
def Ba4 (N n:Nat):Prop:=∀(aH:A0) (aU:A0) (r:(List (C4×A6))),T3 N n aH aU=some r→JY prog 216 (fun yv=>[yv,.eref (E1 aH) 0,.eref (E1 aU) 0]) (List.map (fun(x:(C4×A6))=>[(K1 x.1),(C2 x.2)]) r) rbN
def cf217:Cf:=⟨[3,4,1000002],[],[(37,13),(50,17)],[2],[],[]⟩
def Ba3 (N n:Nat):Prop:=∀(aH:A0) (r:(List (C4×A6))),AK N n aH=some r→JY prog 217 (fun yv=>[yv,.eref (E1 aH) 0]) (List.map (fun(x:(C4×A6))=>[(K1 x.1),(C2 x.2)]) r) rbN
def k150 (N n:Nat) (ih184:Ba8 N n) (ih185:Ba7 N n) (ih186:Ba6 N n):AH7 N (n+1):=by
 intro aA r h
 unfold L3 at h
 refine Y0 cf150 J6 func150 (by rfl) (by kernel_rfl) call150 ntmps150 (by rfl) (by rfl) ?_;intro E H0 K hE hK;have hO:B6 Eq H0 [] H0:=.start E0 rfl;cbv;apply B7 hE h<;>intro _ h
 ·cbv;exact hK _ _ _ hO (X8 call183 (c183 N aA r h))
 cbv;obtain⟨s1,hx,h⟩:=A7 h;refine L5 cf150 hE J6 (fun e l H1=>e= .normal∧l=[(1,.v (.eref (E1 aA) 0)),fi 4 aA.Op,(8,.v (.bool s1))]∧B6 Eq H0 [] H1) (by kernel_rfl) ?_ ?_
 ·clear h;have h:=hx
  repeat' (cbv;first|apply B7 hE h<;>intro _ h|(cases h;exact⟨_,⟨rfl,rfl,hO⟩,.e rfl (.e2 .z),rfl⟩))
 clear hx;rintro e l H ⟨rfl,rfl,hO⟩
 repeat' (cbv;first|apply B7 hE h<;>intro _ h|refine Ap hE h (ih184 _) .z fun _ _ hv3 h=>?_|refine Ap hE h (ih185 _ _) .z fun _ _ hv6 h=>?_|refine Ap hE h (ih185 _ _) (.r (.cons (.agg (.r (.cons (.ro _ _) (.r (.r (.r (.r (.r (.cons (.lit _ (B5)) .z))))))))) .z)) fun _ _ hv10 h=>?_|refine Ap hE h (ih186 _) .z fun _ _ hv12 h=>?_|refine D8 hE eBh0 h fun _ h=>?_|(cases h;exact hK _ _ _ hO hv3)|(cases h;exact hK _ _ _ hO hv6)|(cases h;exact hK _ _ _ hO hv10)|(cases h;exact hK _ _ _ hO hv12)|refine AB5 hE (f:=eBg8) N3 h fun _ h=>?_)
def k184 (N n:Nat)(ih213:Ba5 N n):Ba8 N (n+1):=by
 intro aA r h
 unfold Ah at h
 refine Y0 A8 J6 func184 (by rfl) (by kernel_rfl) call184 ntmps184 (by rfl) (by rfl) ?_;intro E H0 K hE hK;have hO:B6 Eq H0 [] H0:=.start E0 rfl;cbv;exact hK _ _ _ hO (X8 call213 (ih213 aA r h))
def k185 (N n:Nat)(ih216:Ba4 N n):Ba7 N (n+1):=by
 intro bU bV r h
 unfold S7 at h
 refine Y0 A8 J6 func185 (by rfl) (by kernel_rfl) call185 ntmps185 (by rfl) (by rfl) ?_;intro E H0 K hE hK;have hO:B6 Eq H0 [] H0:=.start E0 rfl;cbv;exact hK _ _ _ hO (X8 call216 (ih216 bU bV r h))
def k186 (N n:Nat)(ih217:Ba3 N n):Ba6 N (n+1):=by
 intro aA r h
 unfold BN at h
 refine Y0 A8 J6 func186 (by rfl) (by kernel_rfl) call186 ntmps186 (by rfl) (by rfl) ?_;intro E H0 K hE hK;have hO:B6 Eq H0 [] H0:=.start E0 rfl;cbv;exact hK _ _ _ hO (X8 call217 (ih217 aA r h))
def k213 (N n:Nat) (ih150:AH7 N n):Ba5 N (n+1):=by
 intro aH r h
 unfold W3 at h
 obtain⟨⟨w0,u0⟩,h1,hr⟩:=A7 h;clear h;have hr:=O8 hr;subst hr;have h:=h1;clear h1;refine V1 cf213 J6 func213 (by rfl) (by kernel_rfl) call213 ntmps213 (by rfl) (fun _=>rfl) ?_;intro yv I D hI hD hy tl F E H K hE hO hK hKD
 have hO:B6 (I (List.map (fun(x:(C4×A6))=>[(K1 x.1),(C2 x.2)]) (w0++[])++tl)) F [] H:=by rw[L4];exact hO
 cbv;apply HN hE hy.1;cbv;apply G9 hE;cbv;obtain⟨w3,w4,s7,hx,h,he⟩:=U1 h
 rw[he,G1]at hO
 clear he;refine AB7 cf213 hE J6 (γ:=Unit) (fun s2 g=>[(1,.v (.eref (E1 aH) 0)),(2,.v (.eref [yv] 0)),(8,.v (sr eBg8 aH.cT)),fi 9 (Ar.len aH.cT),fi 10 s2]) (fun s2 g ds1 w H1=>B6 (I (List.map (fun(x:(C4×A6))=>[(K1 x.1),(C2 x.2)]) w++tl)) F (Ht ds1) H1) (fun x e l ds1 w H1=>match(generalizing:=false) x with| .inl y=>e= .exit 0∧l=[]∧B6 (I (List.map (fun(x:(C4×A6))=>[(K1 x.1),(C2 x.2)]) w++tl)) F (Ht ds1) H1| .inr y=>e= .ret∧l=[]∧B6 (I (List.map (fun(x:(C4×A6))=>[(K1 x.1),(C2 x.2)]) w++tl)) F (Ht ds1) H1) (fun e l ds1 H1=>(e= .ret∧l=[]∧B6 D F (Ht ds1) H1)) (by kernel_rfl) ?_ (w':=w4++[]) () hx rfl ?_ ?_ ?_ ?_
 ·rintro s2 _ ds1 w5 w6 H o hO h
  skip
  cbv;apply B7 hE h<;>intro _ h
  ·cbv;refine D8 hE eBh0 h fun x8 h=>?_;cbv;refine E5 hE hO fun b9 H hO=>?_
   repeat' (cbv;first|apply B7 hE h<;>intro _ h|refine Ap hE h (ih150 _) .z fun _ _ hv12 h=>?_|apply D0 hE hO 1 rfl|apply D0 hE hO 0 rfl|refine B9 hE hO 1 rfl rfl fun H hO=>?_|refine B9 hE hO 0 rfl rfl fun H hO=>?_|refine E5 hE hO fun b10 H hO=>?_)
   ·cbv;obtain⟨hw,rfl⟩:=F9 h
    rw[←hw]at hO
    exact .inl ⟨_,_,_,rfl,⟨rfl,rfl,hO.tail.tail⟩,.z,rfl⟩
   cbv;obtain⟨w16,w17,o20,hx,h,he⟩:=U1 h
   rw[he,G1]at hO
   clear he;refine SK cf213 hE J6 (ι:=Nat) (σ:=Unit) (R:=Unit) (enc:=fun(x:(C4×A6))=>[(K1 x.1),(C2 x.2)]) (fun _ w F1 H=>B6 (I (List.map (fun(x:(C4×A6))=>[(K1 x.1),(C2 x.2)]) w++tl)) F1 (cb b10 (E1 x8)::cb b9 [vi s2]::Ht ds1) H) (fun _ e w F1 H=>False) (fun e F1 H=>e= .ret∧B6 D F1 (cb b10 (E1 x8)::cb b9 [vi s2]::Ht ds1) H) (fun i _ y13=>[(1,.v (.eref (E1 aH) 0)),(2,.v (.eref [yv] 0)),(3,.v (.ref b9 0)),(5,.v (.eref (U3 y13.1) 0)),(6,.v (.ref i 0))]) (fun i _ y13 w F1 H=>B6 (I (List.map (fun(x:(C4×A6))=>[(K1 x.1),(C2 x.2)]) w++tl)) F1 (cb i (M5 y13.2)::cb b10 (E1 x8)::cb b9 [vi s2]::Ht ds1) H) (fun _ _=>B6.stable (hI _) _) (fun _ _ _=>⟨fun h=>h.elim,fun _ _ h=>h.elim⟩) (fun _=>G5.con (B6.stable hD _)) (fun _ _ _ _=>B6.stable (hI _) _) hv12 hx (w':=w17++w6) hO (by decide) (fun _=>rfl) (by kernel_rfl) (by kernel_rfl) ?_ ?_ ?_ ?_ ?_
   ·rintro E i15 y13 _ w F14 H hE hO;clear hx h;cbv;refine E5 hE hO fun b21 H hO=>?_;cbv;refine B9 hE hO 0 rfl rfl fun H hO=>?_;cbv;exact⟨b21,hO,.e rfl (.e4 .z),rfl⟩
   ·rintro E i15 b21 y13 _ w18 w19 F14 H o hE hF h hO;cbv;obtain⟨w23,w24,s22,hx,h,he⟩:=U1 h
    rw[he,G1]at hO
    clear he;refine L5 cf213 hE J6 (fun e l H1=>(e= .normal∧l=[(2,.v (.eref [yv] 0)),(5,.v (.eref (U3 y13.1) 0)),(6,.v (.ref b21 0))]∧B6 (I (List.map (fun(x:(C4×A6))=>[(K1 x.1),(C2 x.2)]) (w24++w19)++tl)) F14 (cb b21 (M5 s22)::cb b10 (E1 x8)::cb b9 [vi s2]::Ht ds1) H1)∨(False)) (by kernel_rfl) ?_ ?_
    ·clear h;have h:=hx
     repeat' (cbv;first|apply B7 hE h<;>intro _ h|refine A9 hE h (c214 _ _ _) (.r (.cons (.ro _ _) .z)) fun _ h=>?_|refine A9 hE h (c215 _ _ _ _) .z fun _ h=>?_|apply D0 hE hO 0 rfl|apply D0 hE hO 2 rfl|refine B9 hE hO 0 rfl rfl fun H hO=>?_|refine MW hE (f:=eBg8) N3 h fun _ _ h=>?_)
     ·cbv;obtain⟨hw,rfl⟩:=F9 h
      rw[←hw]at hO
      exact⟨_,.inl ⟨rfl,rfl,hO⟩,.e rfl (.e2 .z),rfl⟩
     ·cbv;obtain⟨hw,rfl⟩:=F9 h
      rw[←hw]at hO
      exact⟨_,.inl ⟨rfl,rfl,hO⟩,.e rfl (.e2 .z),rfl⟩
     cbv;obtain⟨hw,rfl⟩:=F9 h
     rw[←hw]at hO
     exact⟨_,.inl ⟨rfl,rfl,hO⟩,.e rfl (.e2 .z),rfl⟩
    clear hx;rintro e l H hX
    rcases hX with hX|hX
    ·obtain⟨rfl,rfl,hO⟩:=hX;cbv;apply D0 hE hO 0 rfl;cbv;obtain⟨w29,h,he⟩:=Z4 h
     rw[he,G1]at hO
     clear he;have hO:B6 (I ([(K1 y13.1),(C2 s22)]::(List.map (fun(x:(C4×A6))=>[(K1 x.1),(C2 x.2)]) (w29++w19)++tl))) F14 (cb b21 (M5 s22)::cb b10 (E1 x8)::cb b9 [vi s2]::Ht ds1) _:=hO;refine DF hE hI hD hy hO .z (fun H hO=>?_) (fun H hO=>?_)
     ·cbv;apply Ms hE (nt_eq _);cbv;obtain⟨hw,rfl⟩:=F9 h
      rw[←hw]at hO
      exact⟨_,rfl,hO.tail⟩
     clear h;cbv;apply Mr hE (nt_eq _);cbv
     first|exact .inr ⟨rfl,rfl,hO.tail⟩|exact .inr (hO.tail)
    exact hX.elim
   ·rintro d30 _ H rfl hd hO;have hO:B6 (I (List.map (fun(x:(C4×A6))=>[(K1 x.1),(C2 x.2)]) (w17++w6)++tl)) F (cb b10 (E1 x8)::cb b9 [vi s2]::Ht (d30::ds1)) H:=B6.dbs1 (A:=[_,_]) (ds:=ds1) (B6.dblk hd hO);clear hd hx;cbv;obtain⟨hw,rfl⟩:=F9 h
    rw[←hw]at hO
    exact⟨_,(),_,rfl,.e rfl (.e4 .z),rfl,hO.tail.tail⟩
   ·rintro _ _ _ _ _ _ h;exact h.elim
   rintro d30 e H hd ⟨rfl,hO⟩;have hO:B6 D F (cb b10 (E1 x8)::cb b9 [vi s2]::Ht (d30::ds1)) H:=B6.dbs1 (A:=[_,_]) (ds:=ds1) (B6.dblk hd hO);clear hd hx h;cbv;exact .inr ⟨_,_,⟨rfl,rfl,hO.tail.tail⟩,.z,rfl⟩
  cbv;obtain⟨hw,rfl⟩:=F9 h
  rw[←hw]at hO
  exact .inl ⟨_,_,_,rfl,⟨rfl,rfl,hO⟩,.z,rfl⟩
 ·exact .e rfl (.e4 .z)
 ·exact hO
 ·rintro e l ds1 H hX
  rcases s7 with y31|y32
  ·obtain⟨rfl,rfl,hO⟩:=hX;cbv
   rcases ds1 with _|⟨d0,ds1⟩
   ·cbv;have hO:B6 _ _ [] H:=hO;obtain⟨hw,_⟩:=F9 h
    rw[←hw]at hO
    exact hK _ _ _ hO trivial
   cbv;refine Qa (A:=[]) (ds:=d0::ds1) hE hO fun H hO=>?_;cbv;obtain⟨hw,_⟩:=F9 h
   rw[←hw]at hO
   exact hK _ _ _ hO trivial
  obtain⟨rfl,rfl,hO⟩:=hX;cbv
  rcases ds1 with _|⟨d0,ds1⟩
  ·cbv;have hO:B6 _ _ [] H:=hO;obtain⟨hw,_⟩:=F9 h
   rw[←hw]at hO
   exact hK _ _ _ hO trivial
  cbv;refine Qa (A:=[]) (ds:=d0::ds1) hE hO fun H hO=>?_;cbv;obtain⟨hw,_⟩:=F9 h
  rw[←hw]at hO
  exact hK _ _ _ hO trivial
 rintro e l ds1 H hX;obtain⟨rfl,rfl,hO⟩:=hX;clear h;cbv
 rcases ds1 with _|⟨d0,ds1⟩
 ·cbv;have hO:B6 _ _ [] H:=hO;exact hKD _ _ _ hO trivial
 cbv;refine Qa (A:=[]) (ds:=d0::ds1) hE hO fun H hO=>?_;cbv;exact hKD _ _ _ hO trivial
def k216 (N n:Nat) (ih150:AH7 N n):Ba4 N (n+1):=by
 intro aH aU r h
 unfold T3 at h
 obtain⟨⟨w0,u0⟩,h1,hr⟩:=A7 h;clear h;have hr:=O8 hr;subst hr;have h:=h1;clear h1;refine V1 cf216 J6 func216 (by rfl) (by kernel_rfl) call216 ntmps216 (by rfl) (fun _=>rfl) ?_;intro yv I D hI hD hy tl F E H K hE hO hK hKD
 have hO:B6 (I (List.map (fun(x:(C4×A6))=>[(K1 x.1),(C2 x.2)]) (w0++[])++tl)) F [] H:=by rw[L4];exact hO
 cbv;apply HN hE hy.1;cbv;refine Ap hE h (ih150 aH) .z fun r1 v2 hv2 h=>?_;cbv;obtain⟨w6,w7,o10,hx,h,he⟩:=U1 h
 rw[he,G1]at hO
 clear he;refine SK cf216 hE J6 (ι:=Unit) (σ:=Unit) (R:=Unit) (enc:=fun(x:(C4×A6))=>[(K1 x.1),(C2 x.2)]) (fun _ w F1 H=>B6 (I (List.map (fun(x:(C4×A6))=>[(K1 x.1),(C2 x.2)]) w++tl)) F1 [] H) (fun _ e w F1 H=>False) (fun e F1 H=>e= .ret∧B6 D F1 [] H) (fun i _ y3=>[(2,.v (.eref (E1 aU) 0)),(3,.v (.eref [yv] 0)),(4,.v (.eref (U3 y3.1) 0)),(5,.v (.eref (M5 y3.2) 0))]) (fun i _ y3 w F1 H=>B6 (I (List.map (fun(x:(C4×A6))=>[(K1 x.1),(C2 x.2)]) w++tl)) F1 [] H) (fun _ _=>B6.stable (hI _) _) (fun _ _ _=>⟨fun h=>h.elim,fun _ _ h=>h.elim⟩) (fun _=>G5.con (B6.stable hD _)) (fun _ _ _ _=>B6.stable (hI _) _) hv2 hx (w':=w7++[]) hO (by decide) (fun _=>rfl) (by kernel_rfl) (by kernel_rfl) ?_ ?_ ?_ ?_ ?_
 ·rintro E i5 y3 _ w F4 H hE hO;clear hx h;cbv;exact⟨(),hO,.e4 .z,rfl⟩
 ·rintro E i5 _ y3 _ w8 w9 F4 H o hE hF h hO;cbv;apply B7 hE h<;>intro _ h
  ·cbv;refine D8 hE eBh0 h fun x11 h=>?_;cbv;obtain⟨w12,h,he⟩:=Z4 h
   rw[he,G1]at hO
   clear he;have hO:B6 (I ([(K1 y3.1),.agg [.bool false,vi 8,sr eBg8 ([y3.2.p,x11]),vi 0,vi 0,vi 0,vi 0,vi 0,sr eBh2 ([]),vi 0,vi 0,vi 0,vi 0,vi 0,.str (⟨#[]⟩)]]::(List.map (fun(x:(C4×A6))=>[(K1 x.1),(C2 x.2)]) (w12++w9)++tl))) F4 [] _:=hO;refine DF hE hI hD hy hO (.r (.cons (.agg (.r (.r (.cons (.lit _ (F2 ((eBh0 y3.2.p).symm) (F2 ((eBh0 x11).symm) (B5)))) (.r (.r (.r (.r (.r (.cons (.lit _ (B5)) .z)))))))))) .z)) (fun H hO=>?_) (fun H hO=>?_)
   ·cbv;apply Ms hE (nt_eq _);cbv;obtain⟨hw,rfl⟩:=F9 h
    rw[←hw]at hO
    exact⟨_,rfl,hO⟩
   clear h;cbv;apply Mr hE (nt_eq _);cbv
   first|exact .inr ⟨rfl,rfl,hO⟩|exact .inr (hO)
  cbv;obtain⟨w13,h,he⟩:=Z4 h
  rw[he,G1]at hO
  clear he;have hO:B6 (I ([(K1 y3.1),(C2 y3.2)]::(List.map (fun(x:(C4×A6))=>[(K1 x.1),(C2 x.2)]) (w13++w9)++tl))) F4 [] _:=hO;refine DF hE hI hD hy hO .z (fun H hO=>?_) (fun H hO=>?_)
  ·cbv;apply Ms hE (nt_eq _);cbv;obtain⟨w14,h,he⟩:=Z4 h
   rw[he,G1]at hO
   clear he;have hO:B6 (I ([(K1 y3.1),.agg [.bool false,vi aU.Op,sr eBg8 aU.cT,vi aU.Typ,vi aU.Var,vi aU.cY,vi aU.Span,vi aU.cU.Op,sr eBh2 aU.cU.cT,vi aU.cU.Var,vi aU.cU.Field,vi aU.cU.Kind,vi aU.cU.Value.Kind,vi aU.cU.Value.Num,.str aU.cU.Value.Text]]::(List.map (fun(x:(C4×A6))=>[(K1 x.1),(C2 x.2)]) (w14++w9)++tl))) F4 [] _:=hO;refine DF hE hI hD hy hO .z (fun H hO=>?_) (fun H hO=>?_)
   ·cbv;apply Ms hE (nt_eq _);cbv;obtain⟨hw,rfl⟩:=F9 h
    rw[←hw]at hO
    exact⟨_,rfl,hO⟩
   clear h;cbv;apply Mr hE (nt_eq _);cbv
   first|exact .inr ⟨rfl,rfl,hO⟩|exact .inr (hO)
  clear h;cbv;apply Mr hE (nt_eq _);cbv
  first|exact .inr ⟨rfl,rfl,hO⟩|exact .inr (hO)
 ·rintro d15 _ H rfl hd hO;have hO:B6 (I (List.map (fun(x:(C4×A6))=>[(K1 x.1),(C2 x.2)]) (w7++[])++tl)) F [.blk d15 DB] H:=B6.dblk hd hO;clear hd hx;cbv;refine Er hE hO 0 rfl fun H hO=>?_;cbv;obtain⟨hw,_⟩:=F9 h
  rw[←hw]at hO
  exact hK _ _ _ hO trivial
 ·rintro _ _ _ _ _ _ h;exact h.elim
 rintro d15 e H hd ⟨rfl,hO⟩;have hO:B6 D F [.blk d15 DB] H:=B6.dblk hd hO;clear hd hx h;cbv;refine Er hE hO 0 rfl fun H hO=>?_;cbv;exact hKD _ _ _ hO trivial
def k217 (N n:Nat) (ih150:AH7 N n):Ba3 N (n+1):=by
 intro aH r h
 unfold AK at h
 obtain⟨⟨w0,u0⟩,h1,hr⟩:=A7 h;clear h;have hr:=O8 hr;subst hr;have h:=h1;clear h1;refine V1 cf217 J6 func217 (by rfl) (by kernel_rfl) call217 ntmps217 (by rfl) (fun _=>rfl) ?_;intro yv I D hI hD hy tl F E H K hE hO hK hKD
 have hO:B6 (I (List.map (fun(x:(C4×A6))=>[(K1 x.1),(C2 x.2)]) (w0++[])++tl)) F [] H:=by rw[L4];exact hO
 cbv;apply HN hE hy.1;cbv;refine D8 hE eBh0 h fun x1 h=>?_;cbv;refine Ap hE h (ih150 x1) .z fun r2 v3 hv3 h=>?_;cbv;obtain⟨w7,w8,o11,hx,h,he⟩:=U1 h
 rw[he,G1]at hO
 clear he;refine SK cf217 hE J6 (ι:=Nat×Nat) (σ:=Unit) (R:=Unit) (enc:=fun(x:(C4×A6))=>[(K1 x.1),(C2 x.2)]) (fun _ w F1 H=>B6 (I (List.map (fun(x:(C4×A6))=>[(K1 x.1),(C2 x.2)]) w++tl)) F1 [] H) (fun _ e w F1 H=>False) (fun e F1 H=>e= .ret∧B6 D F1 [] H) (fun i _ y4=>[(1,.v (.eref (E1 aH) 0)),(2,.v (.eref [yv] 0)),(3,.v (.ref i.2 0)),(4,.v (.ref i.1 0))]) (fun i _ y4 w F1 H=>B6 (I (List.map (fun(x:(C4×A6))=>[(K1 x.1),(C2 x.2)]) w++tl)) F1 [.blk i.1 (.cells (M5 y4.2)),.blk i.2 (.cells (U3 y4.1))] H) (fun _ _=>B6.stable (hI _) _) (fun _ _ _=>⟨fun h=>h.elim,fun _ _ h=>h.elim⟩) (fun _=>G5.con (B6.stable hD _)) (fun _ _ _ _=>B6.stable (hI _) _) hv3 hx (w':=w8++[]) hO (by decide) (fun _=>rfl) (by kernel_rfl) (by kernel_rfl) ?_ ?_ ?_ ?_ ?_
 ·rintro E i6 y4 _ w F5 H hE hO;clear hx h;cbv;refine E5 hE hO fun b12 H hO=>?_
  repeat' (cbv;first|refine B9 hE hO 0 rfl rfl fun H hO=>?_|refine E5 hE hO fun b13 H hO=>?_|exact⟨⟨b13,b12⟩,hO,.e4 .z,rfl⟩)
 ·rintro E i6 ⟨b13,b12⟩ y4 _ w9 w10 F5 H o hE hF h hO;cbv;obtain⟨w15,w16,s14,hx,h,he⟩:=U1 h
  rw[he,G1]at hO
  clear he;refine L5 cf217 hE J6 (fun e l H1=>(e= .normal∧l=[(1,.v (.eref (E1 aH) 0)),(2,.v (.eref [yv] 0)),(3,.v (.ref b12 0)),(4,.v (.ref b13 0)),fi 5 s14.1]∧B6 (I (List.map (fun(x:(C4×A6))=>[(K1 x.1),(C2 x.2)]) (w16++w10)++tl)) F5 [cb b13 (M5 y4.2),cb b12 (U3 s14.2)] H1)∨(False)) (by kernel_rfl) ?_ ?_
  ·clear h;have h:=hx
   repeat' (cbv;first|apply B7 hE h<;>intro _ h|refine A9 hE h (c218 _ _) (.cons (.sl _ (.lstc (.eq (eBj8 y4.1.dD) .z) (.lstc (.eq (eBj8 ([aH.cU])) (.lit _ (F2 ((eBi0 aH.cU).symm) (B5)))) (.lst0)))) .z) fun _ h=>?_|apply D0 hE hO 0 rfl|apply D0 hE hO 1 rfl|refine B9 hE hO 1 rfl rfl fun H hO=>?_)
   ·cbv;obtain⟨hw,rfl⟩:=F9 h
    rw[←hw]at hO
    exact⟨_,.inl ⟨rfl,rfl,hO⟩,.e rfl (.e4 .z),rfl⟩
   ·cbv;obtain⟨hw,rfl⟩:=F9 h
    rw[←hw]at hO
    exact⟨_,.inl ⟨rfl,rfl,hO⟩,.e rfl (.e4 .z),rfl⟩
   cbv;obtain⟨w19,w20,s18,hx,h,he⟩:=U1 h
   rw[he,G1]at hO
   clear he;refine L5 cf217 hE J6 (fun e l H1=>(e= .normal∧l=[(1,.v (.eref (E1 aH) 0)),(2,.v (.eref [yv] 0)),(3,.v (.ref b12 0)),(4,.v (.ref b13 0)),(37,.v (.bool s18))]∧B6 (I (List.map (fun(x:(C4×A6))=>[(K1 x.1),(C2 x.2)]) (w20++(w16++w10))++tl)) F5 [cb b13 (M5 y4.2),cb b12 (U3 y4.1)] H1)∨(False)) (by kernel_rfl) ?_ ?_
   ·clear h;have h:=hx;cbv;apply B7 hE h<;>intro _ h
    ·cbv;obtain⟨hw,rfl⟩:=F9 h
     rw[←hw]at hO
     exact⟨_,.inl ⟨rfl,rfl,hO⟩,.e rfl (.e4 .z),rfl⟩
    cbv;obtain⟨hw,rfl⟩:=F9 h
    rw[←hw]at hO
    exact⟨_,.inl ⟨rfl,rfl,hO⟩,.e rfl (.e4 .z),rfl⟩
   clear hx;rintro e l H hX
   rcases hX with hX|hX
   ·obtain⟨rfl,rfl,hO⟩:=hX
    repeat' (cbv;first|apply B7 hE h<;>intro _ h|refine A9 hE h (c219 _ _ _ _ _) .z fun _ h=>?_|apply D0 hE hO 1 rfl|apply D0 hE hO 0 rfl|refine B9 hE hO 1 rfl rfl fun H hO=>?_)
    ·cbv;obtain⟨hw,rfl⟩:=F9 h
     rw[←hw]at hO
     exact⟨_,.inl ⟨rfl,rfl,hO⟩,.e rfl (.e4 .z),rfl⟩
    cbv;obtain⟨hw,rfl⟩:=F9 h
    rw[←hw]at hO
    exact⟨_,.inl ⟨rfl,rfl,hO⟩,.e rfl (.e4 .z),rfl⟩
   exact hX.elim
  clear hx;rintro e l H hX
  rcases hX with hX|hX
  ·obtain⟨rfl,rfl,hO⟩:=hX;cbv;apply D0 hE hO 0 rfl;cbv;obtain⟨w24,w25,s23,hx,h,he⟩:=U1 h
   rw[he,G1]at hO
   clear he;refine L5 cf217 hE J6 (fun e l H1=>(e= .normal∧l=[(2,.v (.eref [yv] 0)),(3,.v (.ref b12 0)),(4,.v (.ref b13 0))]∧B6 (I (List.map (fun(x:(C4×A6))=>[(K1 x.1),(C2 x.2)]) (w25++w10)++tl)) F5 [cb b13 (M5 s23),cb b12 (U3 s14.2)] H1)∨(False)) (by kernel_rfl) ?_ ?_
   ·clear h;have h:=hx;cbv;apply B7 hE h<;>intro _ h
    ·cbv;apply D0 hE hO 0 rfl;cbv;refine A9 hE h (c220 N aH s14.1 y4.2.p) .z fun r26 h=>?_;cbv;refine B9 hE hO 0 rfl rfl fun H hO=>?_;cbv;obtain⟨hw,rfl⟩:=F9 h
     rw[←hw]at hO
     exact⟨_,.inl ⟨rfl,rfl,hO⟩,.e rfl (.e2 .z),rfl⟩
    cbv;obtain⟨hw,rfl⟩:=F9 h
    rw[←hw]at hO
    exact⟨_,.inl ⟨rfl,rfl,hO⟩,.e rfl (.e2 .z),rfl⟩
   clear hx;rintro e l H hX
   rcases hX with hX|hX
   ·obtain⟨rfl,rfl,hO⟩:=hX;cbv;apply D0 hE hO 1 rfl;cbv;apply D0 hE hO 0 rfl;cbv;obtain⟨w27,h,he⟩:=Z4 h
    rw[he,G1]at hO
    clear he;have hO:B6 (I ([(K1 s14.2),(C2 s23)]::(List.map (fun(x:(C4×A6))=>[(K1 x.1),(C2 x.2)]) (w27++w10)++tl))) F5 [cb b13 (M5 s23),cb b12 (U3 s14.2)] _:=hO;refine DF hE hI hD hy hO .z (fun H hO=>?_) (fun H hO=>?_)
    ·cbv;apply Ms hE (nt_eq _);cbv;obtain⟨hw,rfl⟩:=F9 h
     rw[←hw]at hO
     exact⟨_,rfl,hO.tail.tail⟩
    clear h;cbv;apply Mr hE (nt_eq _);cbv
    first|exact .inr ⟨rfl,rfl,hO.tail.tail⟩|exact .inr (hO.tail.tail)
   exact hX.elim
  exact hX.elim
 ·rintro d28 _ H rfl hd hO;have hO:B6 (I (List.map (fun(x:(C4×A6))=>[(K1 x.1),(C2 x.2)]) (w8++[])++tl)) F [.blk d28 DB] H:=B6.dblk hd hO;clear hd hx;cbv;refine Er hE hO 0 rfl fun H hO=>?_;cbv;obtain⟨hw,_⟩:=F9 h
  rw[←hw]at hO
  exact hK _ _ _ hO trivial
 ·rintro _ _ _ _ _ _ h;exact h.elim
 rintro d28 e H hd ⟨rfl,hO⟩;have hO:B6 D F [.blk d28 DB] H:=B6.dblk hd hO;clear hd hx h;cbv;refine Er hE hO 0 rfl fun H hO=>?_;cbv;exact hKD _ _ _ hO trivial
end Go.Ab
