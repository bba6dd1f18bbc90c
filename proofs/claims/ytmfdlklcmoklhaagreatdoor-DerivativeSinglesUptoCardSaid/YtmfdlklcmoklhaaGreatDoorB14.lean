/- GHCo4 GHCo5 -/
import Derived.Test.YtmfdlklcmoklhaaGreatDoorB13
set_option linter.all false
open Go.Ab.Ar (an lst nt_eq wr)
namespace Go.Ab
open Go.RowKit Go.Proofs Go.Proofs.Tryz L9
variable [Ar][L9]
set_option maxRecDepth 100000
theorem c191 (N aQ r)(h:Jx N aQ=some r):C0 prog 191 [vi aQ] (.str r):=Yv Go.Proofs.Tryz.laysNm283 call191 h
theorem c173 (N bI aQ bL r) (h:Be N bI aQ bL=some r):Qh prog 173 [.int .u64 aQ,vi bL] 1 (lst (V.int .u8) bI) (lst (V.int .u8) r):=by
 unfold Be at h
 intro H0 q0 hq0 hk0;refine Gt (T:=TT) (F:=upd H0 q0.id none) cf0 Q6 func173 (by rfl) (by kernel_rfl) call173 ntmps173 (by rfl) (by rfl) ?_;intro E K hE hK hN;have hO:C3 Eq (upd H0 q0.id none) [ob q0 1 (V.int .u8) bI] H0:=C3.startO hk0;have hq0:Hs q0 (Ar.len bI):=VH hq0;cbv;refine B1 hE h (fun _ h=>?_) fun _ h=>?_
 ·cbv;refine B1 hE h (fun _ h=>?_) fun _ h=>?_
  ·cbv;refine A8 hE h (c191 N (wr .i64 aQ)) (.refl _) fun r1 h=>?_;cbv;refine AL9 hE (by decide) hO hq0 0 rfl h fun l3 q2 H hq2 hO h=>?_;cbv;cases h;exact hK q2 _ _ (Hy hE hq2) (hO)
  cbv;cases h
 cbv;cases h
theorem c143 (N bI aQ bL r)(h:BW N bI aQ bL=some r):Qh prog 143 [vi aQ,vi bL] 1 (lst (V.int .u8) bI) (lst (V.int .u8) r):=by
 unfold BW at h
 intro H0 q0 hq0 hk0;refine Gt (T:=TT) (F:=upd H0 q0.id none) cf0 Q6 func143 (by rfl) (by kernel_rfl) call143 ntmps143 (by rfl) (by rfl) ?_;intro E K hE hK hN;have hO:C3 Eq (upd H0 q0.id none) [ob q0 1 (V.int .u8) bI] H0:=C3.startO hk0;have hq0:Hs q0 (Ar.len bI):=VH hq0;cbv;refine B1 hE h (fun _ h=>?_) fun _ h=>?_
 ·cbv;refine JD (f:=(V.int .u8)) hE (fun _=>rfl) (by decide) hO hq0 0 rfl (m:=[45]) (HQ (f:=(V.int .u8)) hE (fun _=>rfl) (.lstc (.refl _) (.lst0))) h fun l2 q1 H hq1 hO h=>?_;cbv;refine Ib hE (f:=(V.int .u8)) hO hq1 0 rfl h (c173 N l2 (Ar.neg .u64 (wr .u64 aQ)) bL) (.refl _) fun l3 q4 H hq4 hO h=>?_;cbv;cases h;exact hK q4 _ _ (Hy hE hq4) (hO)
 cbv;refine Ib hE (f:=(V.int .u8)) hO hq0 0 rfl h (c173 N bI (wr .u64 aQ) bL) (.refl _) fun l5 q6 H hq6 hO h=>?_;cbv;cases h;exact hK q6 _ _ (Hy hE hq6) (hO)
theorem c102 (N bI aQ bL r)(h:K5 N bI aQ bL=some r):Qh prog 102 [vi aQ,vi bL] 1 (lst (V.int .u8) bI) (lst (V.int .u8) r):=by
 unfold K5 at h
 intro H0 q0 hq0 hk0;refine Gt (T:=TT) (F:=upd H0 q0.id none) cf0 Q6 func102 (by rfl) (by kernel_rfl) call102 ntmps102 (by rfl) (by rfl) ?_;intro E K hE hK hN;have hO:C3 Eq (upd H0 q0.id none) [ob q0 1 (V.int .u8) bI] H0:=C3.startO hk0;have hq0:Hs q0 (Ar.len bI):=VH hq0;cbv;refine Ib hE (f:=(V.int .u8)) hO hq0 0 rfl h (c143 N bI aQ bL) (.refl _) fun l1 q2 H hq2 hO h=>?_;cbv;cases h;exact hK q2 _ _ (Hy hE hq2) (hO)
def cf72 :Cf:=⟨[6000003],[(3000006,0),(3000006,3),(3000006,4),(3000006,8)],[],[2000006],[],[]⟩
set_option maxHeartbeats 2000000 in
theorem c72 (N aH r) (h:U5 N aH=some r):C0 prog 72 [sr eBd9 aH] (.str r):=by
 unfold U5 at h
 refine O7 cf72 func72 call72 ntmps72 ?_;intro E H0 K hE hK hO;cbv;refine Az9 hE (f:=(V.int .u8)) hO fun q1 H hq1 hO=>?_;cbv;refine G1 hE ?_;cbv;obtain⟨s4,hx,h⟩:=bind_some h;refine Bm cf72 hE Q6 (γ:=OG) (fun s2 g=>[(3,.v (.own g.id g.lo g.n)),(6,.v (sr eBd9 aH)),fi 7 (Ar.len aH),fi 8 s2.1]) (fun s2 g H1=>Hs g (Ar.len s2.2)∧C3 Eq H0 [ob g 1 (V.int .u8) s2.2] H1) (fun x e l H1=>∃u1:OG,Hs u1 (Ar.len x)∧e= .exit 0∧l=[(3,.v (.own u1.id u1.lo u1.n))]∧C3 Eq H0 [ob u1 1 (V.int .u8) x] H1) (by kernel_rfl) ?_ q1 hx ?_ ?_ ?_
 ·rintro s2 q3 H o ⟨hq3,hO⟩ h;clear hx;cbv;refine B1 hE h (fun _ h=>?_) fun _ h=>?_
  ·cbv;refine C9 hE eBf5 h fun x5 h=>?_;cbv;refine Ib hE (f:=(V.int .u8)) hO hq3 0 rfl h (c102 N s2.2 x5.dI 10) (.refl _) fun l6 q7 H hq7 hO h=>?_;cbv;obtain⟨s8,hx,h⟩:=bind_some h;refine Y4 cf72 hE Q6 (fun e l H1=>∃u1:OG,Hs u1 (Ar.len s8)∧e= .normal∧l=[(3,.v (.own u1.id u1.lo u1.n)),(6,.v (sr eBd9 aH)),fi 7 (Ar.len aH),fi 8 s2.1]∧C3 Eq H0 [ob u1 1 (V.int .u8) s8] H1) (by kernel_rfl) ?_ ?_
   ·clear h;have h:=hx;clear hx;cbv;obtain⟨l90,el90,h⟩:=bind_some h;obtain⟨l209,el209,h⟩:=bind_some h;obtain⟨l290,el290,h⟩:=bind_some h
    repeat' first|refine And.intro ?_ ?_|(refine JD (f:=(V.int .u8)) hE (fun _=>rfl) (by decide) hO hq7 0 rfl (m:=[64]) (HQ (f:=(V.int .u8)) hE (fun _=>rfl) (.lstc (.refl _) (.lst0))) (Nq el90) fun l90 q89 H hq89 hO hh=>?_;obtain rfl:=M6 hh;cbv)|(refine Ib hE (f:=(V.int .u8)) hO hq89 0 rfl (Nq el209) (c102 N l90 x5.at_ 10) (.refl _) fun l209 q210 H hq210 hO hh=>?_;obtain rfl:=M6 hh;cbv)|(refine JD (f:=(V.int .u8)) hE (fun _=>rfl) (by decide) hO hq210 0 rfl (m:=[32]) (HQ (f:=(V.int .u8)) hE (fun _=>rfl) (.lstc (.refl _) (.lst0))) (Nq el290) fun l290 q289 H hq289 hO hh=>?_;obtain rfl:=M6 hh;cbv)|(have h:=M6 h;subst h;exact⟨_,⟨q289,hq289,rfl,rfl,hO⟩,.e4 .z,rfl⟩)
   clear hx;rintro e l H ⟨q409,hq409,rfl,rfl,hO⟩;cbv;cases h;exact⟨_,q409,rfl,.e4 .z,rfl,hq409,hO⟩
  cbv;cases h;exact⟨_,_,rfl,⟨q3,hq3,rfl,rfl,hO⟩,.e rfl .z,rfl⟩
 ·exact .e4 .z
 ·exact⟨hq1,hO⟩
 clear hx;rintro e l H ⟨q410,hq410,rfl,rfl,hO⟩;cbv;refine AU9 (e:=5) hE (by kernel_rfl) (by kernel_rfl) (by kernel_rfl) hO hq410 0 rfl h fun r411 h=>?_;cbv;cases h;exact hK hO (.refl _)
def cf207 :Cf:=⟨[2],[],[],[],[],[]⟩
theorem c207 (N aR r)(h:X8 N aR=some r):C0 prog 207 [vi aR] ((E7 r)):=by
 unfold X8 at h
 refine O7 cf207 func207 call207 ntmps207 ?_;intro E H0 K hE hK hO;cbv;refine D3 hE hO fun b1 H hO=>?_;cbv;refine A9 hE hO 0 rfl rfl fun H hO=>?_;cbv;refine B2 hE hO 0 rfl ?_;cbv;cases h;exact hK hO (.refl _)
def cf208 :Cf:=⟨[5],[],[],[],[],[]⟩
theorem c208 (N:Nat)(aB:Int)(aD:Int)(cO:V)(aJ:Int→Option A7)(cT:∀y1 q,aJ y1=some q→Y5 prog cO [vi y1] ((E7 q)))(r:A7)(h:Dl N aB aD aJ=some r):C0 prog 208 [vi aB,vi aD,.eref [cO] 0] ((E7 r)):=by
 unfold Dl at h
 refine O7 cf208 func208 call208 ntmps208 ?_;intro E H0 K hE hK hO;cbv;refine D3 hE hO fun b1 H hO=>?_;cbv;refine Bn hE (g:=fun r2=>(E7 r2)) h (fun r2 hx=>cT (Ar.ar .add .i64 aB aD) r2 hx) (.refl _) fun r2 h=>?_;cbv;refine A9 hE hO 0 rfl rfl fun H hO=>?_;cbv;refine B2 hE hO 0 rfl ?_;cbv;cases h;exact hK hO (.refl _)
def cf209 :Cf:=⟨[5],[],[],[],[],[]⟩
theorem c209 (N:Nat)(aB:Int)(aD:Int)(cO:V)(aJ:Int→Option A7)(cT:∀y1 q,aJ y1=some q→Y5 prog cO [vi y1] ((E7 q)))(r:A7)(h:Dk N aB aD aJ=some r):C0 prog 209 [vi aB,vi aD,.eref [cO] 0] ((E7 r)):=by
 unfold Dk at h
 refine O7 cf209 func209 call209 ntmps209 ?_;intro E H0 K hE hK hO;cbv;refine D3 hE hO fun b1 H hO=>?_;cbv;refine Bn hE (g:=fun r2=>(E7 r2)) h (fun r2 hx=>cT (Ar.ar .sub .i64 aB aD) r2 hx) (.refl _) fun r2 h=>?_;cbv;refine A9 hE hO 0 rfl rfl fun H hO=>?_;cbv;refine B2 hE hO 0 rfl ?_;cbv;cases h;exact hK hO (.refl _)
def cf199 :Cf:=⟨[2,3],[],[],[],[],[]⟩
theorem c199 (N aD r)(h:Ke N aD=some r):C0 prog 199 [.bool aD] ((E7 r)):=by
 unfold Ke at h
 refine O7 cf199 func199 call199 ntmps199 ?_;intro E H0 K hE hK hO;cbv;refine D3 hE hO fun b1 H hO=>?_;cbv;refine D3 hE hO fun b2 H hO=>?_;cbv;refine A9 hE hO 0 rfl rfl fun H hO=>?_;cbv;refine B1 hE h (fun _ h=>?_) fun _ h=>?_
 ·cbv;refine A9 hE hO 0 rfl rfl fun H hO=>?_;cbv;refine B2 hE hO 0 rfl ?_;cbv;refine A9 hE hO 1 rfl rfl fun H hO=>?_;cbv;refine B2 hE hO 1 rfl ?_;cbv;cases h;exact hK hO (.refl _)
 cbv;refine B2 hE hO 0 rfl ?_;cbv;refine A9 hE hO 1 rfl rfl fun H hO=>?_;cbv;refine B2 hE hO 1 rfl ?_;cbv;cases h;exact hK hO (.refl _)
def cf185 :Cf:=⟨[2],[],[],[],[],[]⟩
theorem c185 (N aD r)(h:Cg N aD=some r):C0 prog 185 [.bool aD] ((E7 r)):=by
 unfold Cg at h
 refine O7 cf185 func185 call185 ntmps185 ?_;intro E H0 K hE hK hO;cbv;refine D3 hE hO fun b1 H hO=>?_;cbv;refine A8 hE h (c199 N aD) (.refl _) fun r2 h=>?_;cbv;refine A9 hE hO 0 rfl rfl fun H hO=>?_;cbv;refine B2 hE hO 0 rfl ?_;cbv;cases h;exact hK hO (.refl _)
def cf210 :Cf:=⟨[4],[],[],[],[],[]⟩
theorem c210 (N aB aD r)(h:Dj N aB aD=some r):C0 prog 210 [vi aB,vi aD] ((E7 r)):=by
 unfold Dj at h
 refine O7 cf210 func210 call210 ntmps210 ?_;intro E H0 K hE hK hO;cbv;refine D3 hE hO fun b1 H hO=>?_;cbv;refine A8 hE h (c185 N (Ar.cmp .lss aB aD)) (.refl _) fun r2 h=>?_;cbv;refine A9 hE hO 0 rfl rfl fun H hO=>?_;cbv;refine B2 hE hO 0 rfl ?_;cbv;cases h;exact hK hO (.refl _)
def cf211 :Cf:=⟨[4],[],[],[],[],[]⟩
theorem c211 (N aB aD r)(h:Di N aB aD=some r):C0 prog 211 [vi aB,vi aD] ((E7 r)):=by
 unfold Di at h
 refine O7 cf211 func211 call211 ntmps211 ?_;intro E H0 K hE hK hO;cbv;refine D3 hE hO fun b1 H hO=>?_;cbv;refine A8 hE h (c185 N (Ar.cmp .leq aB aD)) (.refl _) fun r2 h=>?_;cbv;refine A9 hE hO 0 rfl rfl fun H hO=>?_;cbv;refine B2 hE hO 0 rfl ?_;cbv;cases h;exact hK hO (.refl _)
def cf212 :Cf:=⟨[4],[],[],[],[],[]⟩
theorem c212 (N aB aD r)(h:Dh N aB aD=some r):C0 prog 212 [vi aB,vi aD] ((E7 r)):=by
 unfold Dh at h
 refine O7 cf212 func212 call212 ntmps212 ?_;intro E H0 K hE hK hO;cbv;refine D3 hE hO fun b1 H hO=>?_;cbv;refine A8 hE h (c185 N (an (Ar.cmp .eql aB 1) (Ar.cmp .eql aD 1))) (.refl _) fun r2 h=>?_;cbv;refine A9 hE hO 0 rfl rfl fun H hO=>?_;cbv;refine B2 hE hO 0 rfl ?_;cbv;cases h;exact hK hO (.refl _)
def cf213 :Cf:=⟨[4],[],[],[],[],[]⟩
theorem c213 (N aB aD r)(h:Dg N aB aD=some r):C0 prog 213 [vi aB,vi aD] ((E7 r)):=by
 unfold Dg at h
 refine O7 cf213 func213 call213 ntmps213 ?_;intro E H0 K hE hK hO;cbv;refine D3 hE hO fun b1 H hO=>?_;cbv;refine A8 hE h (c185 N (Ar.or (Ar.cmp .eql aB 1) (Ar.cmp .eql aD 1))) (.refl _) fun r2 h=>?_;cbv;refine A9 hE hO 0 rfl rfl fun H hO=>?_;cbv;refine B2 hE hO 0 rfl ?_;cbv;cases h;exact hK hO (.refl _)
def cf214 :Cf:=⟨[4],[],[],[],[],[]⟩
theorem c214 (N aB aF r)(h:Df N aB aF=some r):C0 prog 214 [vi aB,vi aF] ((E7 r)):=by
 unfold Df at h
 refine O7 cf214 func214 call214 ntmps214 ?_;intro E H0 K hE hK hO;cbv;refine D3 hE hO fun b1 H hO=>?_;cbv;refine A8 hE h (c185 N (Ar.cmp .neq aB 1)) (.refl _) fun r2 h=>?_;cbv;refine A9 hE hO 0 rfl rfl fun H hO=>?_;cbv;refine B2 hE hO 0 rfl ?_;cbv;cases h;exact hK hO (.refl _)
theorem c197 (N r)(h:KN N=some r):Ac7 prog 197 [] VW VV:=by
 unfold KN at h
 refine Ab9 (T:=TT) cf0 Q6 func197 (by rfl) (by kernel_rfl) call197 ntmps197 (by rfl) (by rfl) ?_;intro E H0 K hE hK;have hO:C3 Eq H0 [] H0:=.start G4 rfl;cbv;refine Bb3 hE hO fun m1 H hO=>?_;cbv;refine NK hE (kt:=3) (et:=262) (by kernel_rfl) (by kernel_rfl) hO 0 rfl rfl fun H hO=>?_;cbv;refine NK hE (kt:=3) (et:=262) (by kernel_rfl) (by kernel_rfl) hO 0 rfl rfl fun H hO=>?_;cbv;refine NK hE (kt:=3) (et:=262) (by kernel_rfl) (by kernel_rfl) hO 0 rfl rfl fun H hO=>?_;cbv;refine NK hE (kt:=3) (et:=262) (by kernel_rfl) (by kernel_rfl) hO 0 rfl rfl fun H hO=>?_;cbv;refine NK hE (kt:=3) (et:=262) (by kernel_rfl) (by kernel_rfl) hO 0 rfl rfl fun H hO=>?_;cbv;refine NK hE (kt:=3) (et:=262) (by kernel_rfl) (by kernel_rfl) hO 0 rfl rfl fun H hO=>?_;cbv;refine NK hE (kt:=3) (et:=262) (by kernel_rfl) (by kernel_rfl) hO 0 rfl rfl fun H hO=>?_;cbv;exact hK _ _ 0 _ rfl hO
theorem c227 (N aM aI r)(h:V0 N aM aI=some r):C0 prog 227 [(DR aM),vi aI] (sr eBe2 r):=by
 unfold V0 at h
 refine O7 cf0 func227 call227 ntmps227 ?_;intro E H0 K hE hK hO;cbv;refine G1 hE ?_;cbv;refine B1 hE h (fun _ h=>?_) fun _ h=>?_
 ·cbv;cases h;exact hK hO (.lit _ (E0))
 cbv;refine C9 hE eBg9 h fun x1 h=>?_;cbv;cases h;exact hK hO (.refl _)
def cf229 :Cf:=⟨[4],[],[],[],[],[]⟩
theorem c229 (N aC bA r)(h:CK N aC bA=some r):C0 prog 229 [(Af aC),vi bA] (.tup [(E7 r.1),vi r.2]):=by
 unfold CK at h
 refine O7 cf229 func229 call229 ntmps229 ?_;intro E H0 K hE hK hO;cbv;refine D3 hE hO fun b1 H hO=>?_;cbv;refine G1 hE ?_;cbv;refine B1 hE h (fun _ h=>?_) fun _ h=>?_
 ·cbv;refine A9 hE hO 0 rfl rfl fun H hO=>?_;cbv;refine B2 hE hO 0 rfl ?_;cbv;cases h;exact hK hO (.refl _)
 cbv;refine C9 hE eBe3 h fun x2 h=>?_;cbv;refine A9 hE hO 0 rfl rfl fun H hO=>?_;cbv;refine B2 hE hO 0 rfl ?_;cbv;cases h;exact hK hO (.refl _)
theorem c235 (N aS r)(h:Bs N aS=some r):C0 prog 235 [vi aS] (.bool r):=by
 unfold Bs at h
 refine O7 cf0 func235 call235 ntmps235 ?_;intro E H0 K hE hK hO;cbv;cases h;exact hK hO (.refl _)
theorem c242 (N aS aI r)(h:AE N aS aI=some r):C0 prog 242 [vi aS,(E7 aI)] (.bool r):=by
 unfold AE at h
 refine O7 cf0 func242 call242 ntmps242 ?_;intro E H0 K hE hK hO;cbv;cases h;exact hK hO (.refl _)
theorem c236 (N aS aI r)(h:V5 N aS aI=some r):C0 prog 236 [vi aS,(E7 aI)] (vi r):=by
 unfold V5 at h
 refine O7 cf0 func236 call236 ntmps236 ?_;intro E H0 K hE hK hO;cbv;refine A8 hE h (c175 N aI) (.refl _) fun r1 h=>?_;cbv;refine B1 hE h (fun _ h=>?_) fun _ h=>?_
 ·cbv;cases h;exact hK hO (.refl _)
 cbv;refine A8 hE h (c242 N aS aI) (.refl _) fun r2 h=>?_;cbv;refine B1 hE h (fun _ h=>?_) fun _ h=>?_
 ·cbv;cases h;exact hK hO (.refl _)
 cbv;cases h;exact hK hO (.refl _)
def cf237 :Cf:=⟨[3,6],[],[],[],[],[]⟩
theorem c237 (N:Nat) (bP:C6) (aG:List A7) (cU:V) (cQ:C6→A7→Option C6) (dA:∀y1 y2 q,cQ y1 y2=some q→Y5 prog cU [(K1 y1),(E7 y2)] ((K1 q))) (r:C6) (h:L4 N bP aG cQ=some r):C0 prog 237 [(K1 bP),sr eBe8 aG,cU] ((K1 r)):=by
 unfold L4 at h
 refine O7 cf237 func237 call237 ntmps237 ?_;intro E H0 K hE hK hO;cbv;refine D3 hE hO fun b1 H hO=>?_;cbv;refine D3 hE hO fun b2 H hO=>?_;cbv;refine G1 hE ?_;cbv;obtain⟨s4,hx,h⟩:=bind_some h;refine K0 cf237 hE Q6 (fun s3=>[(2,.v (cU)),(3,.v (.ref b1 0)),(6,.v (.ref b2 0)),(9,.v (sr eBe8 aG)),fi 10 (Ar.len aG),fi 11 s3.1]) (fun(s3:Int×C6) H1=>C3 Eq H0 [cb b2 [vi 0,vi 0,vi 0,vi 0,.str (⟨#[]⟩)],cb b1 (CY s3.2)] H1) (fun x e l H1=>e= .exit 0∧l=[(3,.v (.ref b1 0)),(6,.v (.ref b2 0))]∧C3 Eq H0 [cb b2 [vi 0,vi 0,vi 0,vi 0,.str (⟨#[]⟩)],cb b1 (CY x)] H1) (by kernel_rfl) ?_ hx ?_ hO ?_
 ·intro s3 H o hO h;clear hx;cbv;refine B1 hE h (fun _ h=>?_) fun _ h=>?_
  ·cbv;refine C9 hE eBe3 h fun x5 h=>?_;cbv;refine B2 hE hO 1 rfl ?_;cbv;refine Bn hE (g:=fun r6=>(K1 r6)) h (fun r6 hx=>dA s3.2 x5 r6 hx) (.refl _) fun r6 h=>?_;cbv;refine A9 hE hO 1 rfl rfl fun H hO=>?_;cbv;cases h;exact⟨_,rfl,.e2 (.e4 .z),rfl,hO⟩
  cbv;cases h;exact⟨_,_,rfl,⟨rfl,rfl,hO⟩,.e2 .z,rfl⟩
 ·exact .e2 (.e4 .z)
 clear hx;rintro e l H ⟨rfl,rfl,hO⟩;cbv;refine B2 hE hO 1 rfl ?_;cbv;refine A9 hE hO 0 rfl rfl fun H hO=>?_;cbv;refine B2 hE hO 0 rfl ?_;cbv;cases h;exact hK hO (.refl _)
end Go.Ab
namespace Go.Ab
open Go.RowKit Go.Proofs Go.Proofs.Tryz L9
variable [Ar][L9]
set_option maxRecDepth 100000
def cf245 :Cf:=⟨[0],[],[],[],[],[]⟩
theorem c245 (N r)(h:Ee N=some r):C0 prog 245 [] ((E7 r)):=by
 unfold Ee at h
 refine O7 cf245 func245 call245 ntmps245 ?_;intro E H0 K hE hK hO;cbv;refine D3 hE hO fun b1 H hO=>?_;cbv;refine A9 hE hO 0 rfl rfl fun H hO=>?_;cbv;refine B2 hE hO 0 rfl ?_;cbv;cases h;exact hK hO (.refl _)
def cf246 :Cf:=⟨[2],[],[],[],[],[]⟩
theorem c246 (N bH aF r)(h:Ed N bH aF=some r):C0 prog 246 [.eref (W1 bH) 0,.eref (W1 aF) 0] ((E7 r)):=by
 unfold Ed at h
 refine O7 cf246 func246 call246 ntmps246 ?_;intro E H0 K hE hK hO;cbv;refine D3 hE hO fun b1 H hO=>?_;cbv;refine A9 hE hO 0 rfl rfl fun H hO=>?_;cbv;refine B2 hE hO 0 rfl ?_;cbv;cases h;exact hK hO (.refl _)
def cf247 :Cf:=⟨[2],[],[],[],[],[]⟩
theorem c247 (N bH aF r)(h:Ec N bH aF=some r):C0 prog 247 [.eref (W1 bH) 0,.eref (W1 aF) 0] ((E7 r)):=by
 unfold Ec at h
 refine O7 cf247 func247 call247 ntmps247 ?_;intro E H0 K hE hK hO;cbv;refine D3 hE hO fun b1 H hO=>?_;cbv;refine A9 hE hO 0 rfl rfl fun H hO=>?_;cbv;refine B2 hE hO 0 rfl ?_;cbv;cases h;exact hK hO (.refl _)
def cf248 :Cf:=⟨[2],[],[],[],[],[]⟩
theorem c248 (N bH aF r)(h:Eb N bH aF=some r):C0 prog 248 [.eref (W1 bH) 0,.eref (W1 aF) 0] ((E7 r)):=by
 unfold Eb at h
 refine O7 cf248 func248 call248 ntmps248 ?_;intro E H0 K hE hK hO;cbv;refine D3 hE hO fun b1 H hO=>?_;cbv;refine A9 hE hO 0 rfl rfl fun H hO=>?_;cbv;refine B2 hE hO 0 rfl ?_;cbv;cases h;exact hK hO (.refl _)
def cf249 :Cf:=⟨[1],[],[],[],[],[]⟩
theorem c249 (N bH r)(h:Ea N bH=some r):C0 prog 249 [.eref (W1 bH) 0] ((E7 r)):=by
 unfold Ea at h
 refine O7 cf249 func249 call249 ntmps249 ?_;intro E H0 K hE hK hO;cbv;refine D3 hE hO fun b1 H hO=>?_;cbv;refine A9 hE hO 0 rfl rfl fun H hO=>?_;cbv;refine B2 hE hO 0 rfl ?_;cbv;cases h;exact hK hO (.refl _)
def cf250 :Cf:=⟨[1],[],[],[],[],[]⟩
theorem c250 (N bH r)(h:DZ N bH=some r):C0 prog 250 [.eref (W1 bH) 0] ((E7 r)):=by
 unfold DZ at h
 refine O7 cf250 func250 call250 ntmps250 ?_;intro E H0 K hE hK hO;cbv;refine D3 hE hO fun b1 H hO=>?_;cbv;refine A9 hE hO 0 rfl rfl fun H hO=>?_;cbv;refine B2 hE hO 0 rfl ?_;cbv;cases h;exact hK hO (.refl _)
def cf243 :Cf:=⟨[6],[],[],[],[],[]⟩
theorem c243 (N aS aB aD r)(h:BH N aS aB aD=some r):C0 prog 243 [vi aS,(E7 aB),(E7 aD)] ((E7 r)):=by
 unfold BH at h
 refine O7 cf243 func243 call243 ntmps243 ?_;intro E H0 K hE hK hO;cbv;refine D3 hE hO fun b1 H hO=>?_;cbv;refine AM3 hE [0,1,2,3,4,5] (by rfl) ?_;cbv;refine B1 hE h (fun _ h=>?_) fun _ h=>?_
 ·cbv;refine A8 hE h (c245 N) (.refl _) fun r2 h=>?_;cbv;refine A9 hE hO 0 rfl rfl fun H hO=>?_;cbv;refine B2 hE hO 0 rfl ?_;cbv;cases h;exact hK hO (.refl _)
 cbv;refine B1 hE h (fun _ h=>?_) fun _ h=>?_
 ·cbv;refine Bn hE (g:=fun r3=>(E7 r3)) h (fun r3 hx=>C0.value (F:=[]) (C:=[.eref (W1 aB) 0,.eref (W1 aD) 0]) (c246 N aB aD r3 hx)) (.refl _) fun r3 h=>?_;cbv;refine A9 hE hO 0 rfl rfl fun H hO=>?_;cbv;refine B2 hE hO 0 rfl ?_;cbv;cases h;exact hK hO (.refl _)
 cbv;refine B1 hE h (fun _ h=>?_) fun _ h=>?_
 ·cbv;refine Bn hE (g:=fun r4=>(E7 r4)) h (fun r4 hx=>C0.value (F:=[]) (C:=[.eref (W1 aB) 0,.eref (W1 aD) 0]) (c247 N aB aD r4 hx)) (.refl _) fun r4 h=>?_;cbv;refine A9 hE hO 0 rfl rfl fun H hO=>?_;cbv;refine B2 hE hO 0 rfl ?_;cbv;cases h;exact hK hO (.refl _)
 cbv;refine B1 hE h (fun _ h=>?_) fun _ h=>?_
 ·cbv;refine Bn hE (g:=fun r5=>(E7 r5)) h (fun r5 hx=>C0.value (F:=[]) (C:=[.eref (W1 aB) 0,.eref (W1 aD) 0]) (c248 N aB aD r5 hx)) (.refl _) fun r5 h=>?_;cbv;refine A9 hE hO 0 rfl rfl fun H hO=>?_;cbv;refine B2 hE hO 0 rfl ?_;cbv;cases h;exact hK hO (.refl _)
 cbv;refine B1 hE h (fun _ h=>?_) fun _ h=>?_
 ·cbv;refine Bn hE (g:=fun r6=>(E7 r6)) h (fun r6 hx=>C0.value (F:=[]) (C:=[.eref (W1 aB) 0]) (c249 N aB r6 hx)) (.refl _) fun r6 h=>?_;cbv;refine A9 hE hO 0 rfl rfl fun H hO=>?_;cbv;refine B2 hE hO 0 rfl ?_;cbv;cases h;exact hK hO (.refl _)
 cbv;refine B1 hE h (fun _ h=>?_) fun _ h=>?_
 ·cbv;refine Bn hE (g:=fun r7=>(E7 r7)) h (fun r7 hx=>C0.value (F:=[]) (C:=[.eref (W1 aD) 0]) (c250 N aD r7 hx)) (.refl _) fun r7 h=>?_;cbv;refine A9 hE hO 0 rfl rfl fun H hO=>?_;cbv;refine B2 hE hO 0 rfl ?_;cbv;cases h;exact hK hO (.refl _)
 cbv;cases h
def cf239 :Cf:=⟨[4],[(5,14)],[],[],[],[]⟩
theorem c239 (N aB aD r)(h:DW N aB aD=some r):C0 prog 239 [(K1 aB),(K1 aD)] ((K1 r)):=by
 unfold DW at h
 refine O7 cf239 func239 call239 ntmps239 ?_;intro E H0 K hE hK hO;cbv;refine D3 hE hO fun b1 H hO=>?_;cbv;refine B1 hE h (fun _ h=>?_) fun _ h=>?_
 ·cbv;refine A9 hE hO 0 rfl rfl fun H hO=>?_;cbv;refine B2 hE hO 0 rfl ?_;cbv;cases h;exact hK hO (.refl _)
 cbv;refine B1 hE h (fun _ h=>?_) fun _ h=>?_
 ·cbv;refine A9 hE hO 0 rfl rfl fun H hO=>?_;cbv;refine B2 hE hO 0 rfl ?_;cbv;cases h;exact hK hO (.refl _)
 cbv;refine R3 hE (g:=fun r2=>(E7 r2)) h (c243 N aB.Kind aB.Value aD.Value) (.refl _) fun r2 h=>?_;cbv;refine A9 hE hO 0 rfl rfl fun H hO=>?_;cbv;refine B2 hE hO 0 rfl ?_;cbv;cases h;exact hK hO (.refl _)
def cf240 :Cf:=⟨[4],[],[],[],[],[]⟩
theorem c240 (N aS aI r)(h:Ck N aS aI=some r):C0 prog 240 [vi aS,(E7 aI)] ((E7 r)):=by
 unfold Ck at h
 refine O7 cf240 func240 call240 ntmps240 ?_;intro E H0 K hE hK hO;cbv;refine D3 hE hO fun b1 H hO=>?_;cbv;refine B1 hE h (fun _ h=>?_) fun _ h=>?_
 ·cbv;refine A9 hE hO 0 rfl rfl fun H hO=>?_;cbv;refine B2 hE hO 0 rfl ?_;cbv;cases h;exact hK hO (.refl _)
 cbv;refine A9 hE hO 0 rfl rfl fun H hO=>?_;cbv;refine B2 hE hO 0 rfl ?_;cbv;cases h;exact hK hO (.refl _)
def cf238 :Cf:=⟨[5],[(1,6)],[],[],[],[]⟩
theorem c238 (N aB aI aJ r)(h:V3 N aB aI aJ=some r):C0 prog 238 [(K1 aB),(E7 aI),.eref [vi aJ] 0] ((K1 r)):=by
 unfold V3 at h
 refine O7 cf238 func238 call238 ntmps238 ?_;intro E H0 K hE hK hO;cbv;refine D3 hE hO fun b1 H hO=>?_;cbv;refine R3 hE (g:=fun r2=>(E7 r2)) h (c240 N aJ aI) (.refl _) fun r2 h=>?_;cbv;refine A8 hE h (c239 N aB (⟨aJ,1,r2⟩:C6)) (.refl _) fun r3 h=>?_;cbv;refine A9 hE hO 0 rfl rfl fun H hO=>?_;cbv;refine B2 hE hO 0 rfl ?_;cbv;cases h;exact hK hO (.refl _)
theorem c244 (N aB r) (h:CT N aB=some r):C0 prog 244 [(K1 aB)] (vi r):=by
 unfold CT at h
 refine O7 cf0 func244 call244 ntmps244 ?_;intro E H0 K hE hK hO;cbv;refine A8 hE h (c235 N aB.Kind) (.refl _) fun r1 h=>?_;cbv;refine B1 hE h (fun _ h=>?_) fun _ h=>?_
 ·cbv;cases h;exact hK hO (.refl _)
 cbv;refine B1 hE h (fun _ h=>?_) fun _ h=>?_
 ·cbv;cases h;exact hK hO (.refl _)
 cbv;refine B1 hE h (fun _ h=>?_) fun _ h=>?_
 ·cbv;refine B1 hE h (fun _ h=>?_) fun _ h=>?_
  ·cbv;cases h;exact hK hO (.refl _)
  cbv;cases h;exact hK hO (.refl _)
 cbv;refine B1 hE h (fun _ h=>?_) fun _ h=>?_
 ·cbv;refine B1 hE h (fun _ h=>?_) fun _ h=>?_
  ·cbv;cases h;exact hK hO (.refl _)
  cbv;cases h;exact hK hO (.refl _)
 cbv;refine A8 hE h (c175 N aB.Value) (.refl _) fun r2 h=>?_;cbv;refine B1 hE h (fun _ h=>?_) fun _ h=>?_
 ·cbv;refine A8 hE h (c242 N aB.Kind aB.Value) (.refl _) fun r3 h=>?_;cbv;refine B1 hE h (fun _ h=>?_) fun _ h=>?_
  ·cbv;cases h;exact hK hO (.refl _)
  cbv;cases h;exact hK hO (.refl _)
 cbv;cases h;exact hK hO (.refl _)
def cf241 :Cf:=⟨[4],[],[],[],[],[]⟩
theorem c241 (N aB bD r)(h:DX N aB bD=some r):C0 prog 241 [(K1 aB),(E7 bD)] (.tup [(E7 r.1),vi r.2]):=by
 unfold DX at h
 refine O7 cf241 func241 call241 ntmps241 ?_;intro E H0 K hE hK hO;cbv;refine D3 hE hO fun b1 H hO=>?_;cbv;refine A8 hE h (c244 N aB) (.refl _) fun r2 h=>?_;cbv;refine B1 hE h (fun _ h=>?_) fun _ h=>?_
 ·cbv;refine A9 hE hO 0 rfl rfl fun H hO=>?_;cbv;refine B2 hE hO 0 rfl ?_;cbv;cases h;exact hK hO (.refl _)
 cbv;refine A8 hE h (c236 N aB.Kind bD) (.refl _) fun r3 h=>?_;cbv;refine B1 hE h (fun _ h=>?_) fun _ h=>?_
 ·cbv;refine A9 hE hO 0 rfl rfl fun H hO=>?_;cbv;refine B2 hE hO 0 rfl ?_;cbv;cases h;exact hK hO (.refl _)
 cbv;refine B1 hE h (fun _ h=>?_) fun _ h=>?_
 ·cbv;refine A9 hE hO 0 rfl rfl fun H hO=>?_;cbv;refine B2 hE hO 0 rfl ?_;cbv;cases h;exact hK hO (.refl _)
 cbv;refine B1 hE h (fun _ h=>?_) fun _ h=>?_
 ·cbv;refine A9 hE hO 0 rfl rfl fun H hO=>?_;cbv;refine B2 hE hO 0 rfl ?_;cbv;cases h;exact hK hO (.refl _)
 cbv;refine A9 hE hO 0 rfl rfl fun H hO=>?_;cbv;refine B2 hE hO 0 rfl ?_;cbv;cases h;exact hK hO (.refl _)
def cf233 :Cf:=⟨[6],[],[],[],[],[]⟩
theorem c233 (N aS aG bD r) (h:FL N aS aG bD=some r):C0 prog 233 [vi aS,sr eBe8 aG,(E7 bD)] (.tup [(E7 r.1),vi r.2]):=by
 unfold FL at h
 refine O7 cf233 func233 call233 ntmps233 ?_;intro E H0 K hE hK hO;cbv;refine D3 hE hO fun b1 H hO=>?_;cbv;refine A8 hE h (c235 N aS) (.refl _) fun r2 h=>?_;cbv;refine B1 hE h (fun _ h=>?_) fun _ h=>?_
 ·cbv;refine A9 hE hO 0 rfl rfl fun H hO=>?_;cbv;refine B2 hE hO 0 rfl ?_;cbv;cases h;exact hK hO (.refl _)
 cbv;refine G1 hE ?_;cbv;refine B1 hE h (fun _ h=>?_) fun _ h=>?_
 ·cbv;refine A9 hE hO 0 rfl rfl fun H hO=>?_;cbv;refine B2 hE hO 0 rfl ?_;cbv;cases h;exact hK hO (.refl _)
 cbv;refine G1 hE ?_;cbv;obtain⟨s4,hx,h⟩:=bind_some h;refine K0 cf233 hE Q6 (fun s3=>[(1,.v (sr eBe8 aG)),(3,.v (.eref [vi aS] 0)),(5,.v (.eref (W1 bD) 0)),(6,.v (.ref b1 0)),(22,.v (sr eBe8 aG)),fi 23 (Ar.len aG),fi 24 s3]) (fun s3 H1=>C3 Eq H0 [cb b1 [vi 0,vi 0,.str (⟨#[]⟩)]] H1) (fun x e l H1=>match(generalizing:=false) x with| .inl y=>e= .exit 1∧l=[(1,.v (sr eBe8 aG)),(3,.v (.eref [vi aS] 0)),(5,.v (.eref (W1 bD) 0)),(6,.v (.ref b1 0))]∧C3 Eq H0 [cb b1 [vi 0,vi 0,.str (⟨#[]⟩)]] H1| .inr y=>e= .ret∧l=[(6,.v (.ref b1 0)),fi 7 y]∧C3 Eq H0 [cb b1 [vi 0,vi 0,.str (⟨#[]⟩)]] H1) (by kernel_rfl) ?_ hx ?_ hO ?_
 ·intro s3 H o hO h;clear hx;cbv;refine B1 hE h (fun _ h=>?_) fun _ h=>?_
  ·cbv;refine C9 hE eBe3 h fun x5 h=>?_;cbv;refine A8 hE h (c236 N aS x5) (.refl _) fun r6 h=>?_;cbv;refine B1 hE h (fun _ h=>?_) fun _ h=>?_
   ·cbv;refine A9 hE hO 0 rfl rfl fun H hO=>?_;cbv;cases h;exact⟨_,_,rfl,⟨rfl,rfl,hO⟩,.e2 .z,rfl⟩
   cbv;cases h;exact⟨_,rfl,.e rfl (.e2 (.e4 .z)),rfl,hO⟩
  cbv;cases h;exact⟨_,_,rfl,⟨rfl,rfl,hO⟩,.e4 .z,rfl⟩
 ·exact .e rfl (.e2 (.e4 .z))
 clear hx
 rcases s4 with y7|y10
 ·rintro e l H ⟨rfl,rfl,hO⟩;cbv;refine A8 hE (g:=fun r8=>(K1 r8)) h (fun r8 hx=>c237 N (⟨aS,0,(⟨0,0,⟨#[]⟩⟩:A7)⟩:C6) aG (.func (.func 238) [] [.eref [vi aS] 0]) (fun y1 y2=>V3 N y1 y2 aS) (fun y1 y2 r hx=>C0.value (F:=[]) (C:=[.eref [vi aS] 0]) (c238 N y1 y2 aS r hx)) r8 hx) (.refl _) fun r8 h=>?_;cbv;refine A8 hE h (c241 N r8 bD) (.refl _) fun r9 h=>?_;cbv;refine A9 hE hO 0 rfl rfl fun H hO=>?_;cbv;refine B2 hE hO 0 rfl ?_;cbv;cases h;exact hK hO (.refl _)
 rintro e l H ⟨rfl,rfl,hO⟩;cbv;refine B2 hE hO 0 rfl ?_;cbv;cases h;exact hK hO (.refl _)
def cf228 :Cf:=⟨[4],[],[],[],[],[]⟩
theorem c228 (N aM aC r) (h:Ao N aM aC=some r):C0 prog 228 [(DR aM),(V9 aC)] (.tup [(E7 r.1),vi r.2]):=by
 unfold Ao at h
 refine O7 cf228 func228 call228 ntmps228 ?_;intro E H0 K hE hK hO;cbv;refine D3 hE hO fun b1 H hO=>?_;cbv;refine A8 hE h (c227 N aM aC.Var) (.refl _) fun r2 h=>?_;cbv;refine G1 hE ?_;cbv;replace hO:=hO.tl0 (t:=.nil) rfl;obtain⟨s5,hx,h⟩:=bind_some h;refine Bm cf228 hE Q6 (γ:=G3) (fun s3 g=>[(3,.v (.eref (CO aC) 0)),(4,.v (.ref b1 0)),(6,.v (.sl (lst eBe8 s3.1) g)),(14,.v (sr eBe2 r2)),fi 15 (Ar.len r2),fi 16 s3.2]) (fun s3 g H1=>Au g∧C3 Eq H0 [.tl g,cb b1 [vi 0,vi 0,.str (⟨#[]⟩)]] H1) (fun x e l H1=>match(generalizing:=false) x with| .inl y=>∃u1:G3,Au u1∧e= .exit 0∧l=[(3,.v (.eref (CO aC) 0)),(4,.v (.ref b1 0)),(6,.v (.sl (lst eBe8 y) u1))]∧C3 Eq H0 [.tl u1,cb b1 [vi 0,vi 0,.str (⟨#[]⟩)]] H1| .inr y=>∃u1:G3,Au u1∧e= .ret∧l=[(4,.v (.ref b1 0)),fi 5 y]∧C3 Eq H0 [.tl u1,cb b1 [vi 0,vi 0,.str (⟨#[]⟩)]] H1) (by kernel_rfl) ?_ .nil hx ?_ ?_ ?_
 ·rintro s3 t4 H o ⟨ht4,hO⟩ h;clear hx;cbv;refine B1 hE h (fun _ h=>?_) fun _ h=>?_
  ·cbv;refine C9 hE eBe6 h fun x6 h=>?_;cbv;refine A8 hE h (c229 N x6 aC.Field) (.refl _) fun r7 h=>?_;cbv;refine B1 hE h (fun _ h=>?_) fun _ h=>?_
   ·cbv;refine A9 hE hO 1 rfl rfl fun H hO=>?_;cbv;cases h;exact⟨_,_,rfl,⟨t4,ht4,rfl,rfl,hO⟩,.e2 .z,rfl⟩
   cbv;refine BS (f:=eBe8) hE MC (by decide) hO 0 rfl ht4 (l:=s3.1) (m:=[r7.1]) (.refl _) (.lstc (.eq (eBe3 r7.1) (.refl _)) (.lst0)) h fun l9 t8 H hO ht8 h=>?_;cbv;cases h;exact⟨_,t8,rfl,.e2 (.e4 .z),rfl,ht8,hO⟩
  cbv;cases h;exact⟨_,_,rfl,⟨t4,ht4,rfl,rfl,hO⟩,.e rfl (.e2 .z),rfl⟩
 ·exact .e2 (.v (.slt _ (.lst0)) (.e rfl (.e rfl (.e rfl (.z)))))
 ·exact⟨trivial,hO⟩
 clear hx
 rcases s5 with y10|y13
 ·rintro e l H ⟨t11,ht11,rfl,rfl,hO⟩;cbv;refine A8 hE h (c233 N aC.Kind y10 aC.Value) (.cons (.refl _) (.cons (.ro _ _) (.refl _))) fun r12 h=>?_;cbv;refine A9 hE hO 1 rfl rfl fun H hO=>?_;cbv;refine B2 hE hO 1 rfl ?_;cbv;cases h;exact hK hO (.refl _)
 rintro e l H ⟨t14,ht14,rfl,rfl,hO⟩;cbv;refine B2 hE hO 1 rfl ?_;cbv;cases h;exact hK hO (.refl _)
def cf215 :Cf:=⟨[4,7],[],[(38,12),(63,19)],[],[],[]⟩
theorem c215 (N aM aC r) (h:AI N aM aC=some r):C0 prog 215 [(DR aM),(V9 aC)] (.tup [(E7 r.1),vi r.2]):=by
 unfold AI at h
 refine O7 cf215 func215 call215 ntmps215 ?_;intro E H0 K hE hK hO;cbv;refine D3 hE hO fun b1 H hO=>?_;cbv;refine A8 hE h (c227 N aM aC.Var) (.refl _) fun r2 h=>?_;cbv;refine B1 hE h (fun _ h=>?_) fun _ h=>?_
 ·cbv;refine A9 hE hO 0 rfl rfl fun H hO=>?_;cbv;refine B2 hE hO 0 rfl ?_;cbv;cases h;exact hK hO (.refl _)
 cbv;refine B1 hE h (fun _ h=>?_) fun _ h=>?_
 ·cbv;refine G1 hE ?_;cbv;refine A9 hE hO 0 rfl rfl fun H hO=>?_;cbv;refine B2 hE hO 0 rfl ?_;cbv;cases h;exact hK hO (.refl _)
 cbv;refine B1 hE h (fun _ h=>?_) fun _ h=>?_
 ·cbv;refine A8 hE h (c228 N aM aC) (.refl _) fun r3 h=>?_;cbv;refine A9 hE hO 0 rfl rfl fun H hO=>?_;cbv;refine B2 hE hO 0 rfl ?_;cbv;cases h;exact hK hO (.refl _)
 cbv;refine D3 hE hO fun b4 H hO=>?_;cbv;refine A9 hE hO 0 rfl rfl fun H hO=>?_;cbv;obtain⟨s5,hx,h⟩:=bind_some h;refine Y4 cf215 hE Q6 (fun e l H1=>match(generalizing:=false) s5 with| .inl y=>e= .normal∧l=[(3,.v (.eref (CO aC) 0)),(4,.v (.ref b1 0)),(7,.v (.ref b4 0))]∧C3 Eq H0 [cb b4 (Ky y),cb b1 [vi 0,vi 0,.str (⟨#[]⟩)]] H1| .inr y=>e= .ret∧l=[(4,.v (.ref b1 0)),fi 5 10]∧C3 Eq H0 [cb b4 (Ky aM.event),cb b1 [vi 0,vi 0,.str (⟨#[]⟩)]] H1) (by kernel_rfl) ?_ ?_
 ·clear h;have h:=hx;clear hx;cbv;refine B1 hE h (fun _ h=>?_) fun _ h=>?_
  ·cbv;refine G1 hE ?_;cbv;refine B1 hE h (fun _ h=>?_) fun _ h=>?_
   ·cbv;refine A9 hE hO 1 rfl rfl fun H hO=>?_;cbv;cases h;exact⟨_,⟨rfl,rfl,hO⟩,.e2 .z,rfl⟩
   cbv;refine G1 hE ?_;cbv;refine C9 hE eBe6 h fun x6 h=>?_;cbv;refine A9 hE hO 0 rfl rfl fun H hO=>?_;cbv;cases h;exact⟨_,⟨rfl,rfl,hO⟩,.e rfl (.e2 .z),rfl⟩
  cbv;cases h;exact⟨_,⟨rfl,rfl,hO⟩,.e rfl (.e2 .z),rfl⟩
 clear hx
 rcases s5 with y7|y11
 ·rintro e l H ⟨rfl,rfl,hO⟩;cbv;refine B1 hE h (fun _ h=>?_) fun _ h=>?_
  ·cbv;refine B2 hE hO 0 rfl ?_;cbv;refine A9 hE hO 1 rfl rfl fun H hO=>?_;cbv;refine B2 hE hO 1 rfl ?_;cbv;cases h;exact hK hO (.refl _)
  cbv;refine B2 hE hO 0 rfl ?_;cbv;refine A8 hE h (c229 N y7 aC.Field) (.refl _) fun r8 h=>?_;cbv;obtain⟨s9,hx,h⟩:=bind_some h;refine Y4 cf215 hE Q6 (fun e l H1=>e= .normal∧l=[(4,.v (.ref b1 0)),(8,.v (.eref (W1 r8.1) 0)),fi 9 s9]∧C3 Eq H0 [cb b4 (Ky y7),cb b1 [vi 0,vi 0,.str (⟨#[]⟩)]] H1) (by kernel_rfl) ?_ ?_
  ·clear h;have h:=hx;clear hx;cbv;refine B1 hE h (fun _ h=>?_) fun _ h=>?_
   ·cbv;refine A8 hE h (c175 N r8.1) (.refl _) fun r10 h=>?_;cbv;cases h;exact⟨_,⟨rfl,rfl,hO⟩,.e rfl (.e2 .z),rfl⟩
   cbv;cases h;exact⟨_,⟨rfl,rfl,hO⟩,.e rfl (.e2 .z),rfl⟩
  clear hx;rintro e l H ⟨rfl,rfl,hO⟩;cbv;refine B1 hE h (fun _ h=>?_) fun _ h=>?_
  ·cbv;refine A9 hE hO 1 rfl rfl fun H hO=>?_;cbv;refine B2 hE hO 1 rfl ?_;cbv;cases h;exact hK hO (.refl _)
  cbv;refine A9 hE hO 1 rfl rfl fun H hO=>?_;cbv;refine B2 hE hO 1 rfl ?_;cbv;cases h;exact hK hO (.refl _)
 rintro e l H ⟨rfl,rfl,hO⟩;cbv;refine B2 hE hO 1 rfl ?_;cbv;cases h;exact hK hO (.refl _)
def cf216 :Cf:=⟨[],[],[(15,8),(22,13)],[],[],[]⟩
theorem c216 (N aK bF r) (h:Es N aK bF=some r):C0 prog 216 [vi aK,sr (V.int .i64) bF] (vi r):=by
 unfold Es at h
 refine O7 cf216 func216 call216 ntmps216 ?_;intro E H0 K hE hK hO;cbv;refine G1 hE ?_;cbv;obtain⟨s2,hx,h⟩:=bind_some h;refine K0 cf216 hE Q6 (fun s1=>[fi 0 aK,(1,.v (sr (V.int .i64) bF)),(8,.v (sr (V.int .i64) bF)),fi 9 (Ar.len bF),fi 10 s1]) (fun s1 H1=>C3 Eq H0 [] H1) (fun x e l H1=>match(generalizing:=false) x with| .inl y=>e= .exit 0∧l=[]∧C3 Eq H0 [] H1| .inr y=>e= .ret∧l=[fi 4 9]∧C3 Eq H0 [] H1) (by kernel_rfl) ?_ hx ?_ hO ?_
 ·intro s1 H o hO h;clear hx;cbv;refine B1 hE h (fun _ h=>?_) fun _ h=>?_
  ·cbv;refine C9 hE (fun _=>rfl) h fun x3 h=>?_;cbv;obtain⟨s4,hx,h⟩:=bind_some h;refine Y4 cf216 hE Q6 (fun e l H1=>e= .normal∧l=[fi 0 aK,(1,.v (sr (V.int .i64) bF)),fi 6 x3,(7,.b true),(8,.v (sr (V.int .i64) bF)),fi 9 (Ar.len bF),fi 10 s1,fi 14 aK,(15,.v (.bool s4))]∧C3 Eq H0 [] H1) (by kernel_rfl) ?_ ?_
   ·clear h;have h:=hx;clear hx;cbv;refine B1 hE h (fun _ h=>?_) fun _ h=>?_
    ·cbv;cases h;exact⟨_,⟨rfl,rfl,hO⟩,.e rfl (.e2 (.b rfl (.e rfl (.e rfl (.e rfl (.e rfl (.e rfl (.z)))))))),rfl⟩
    cbv;refine B1 hE h (fun _ h=>?_) fun _ h=>?_
    ·cbv;cases h;exact⟨_,⟨rfl,rfl,hO⟩,.e rfl (.e2 (.b rfl (.e rfl (.e rfl (.e rfl (.e rfl (.e rfl (.z)))))))),rfl⟩
    cbv;refine B1 hE h (fun _ h=>?_) fun _ h=>?_
    ·cbv;cases h;exact⟨_,⟨rfl,rfl,hO⟩,.e rfl (.e2 (.b rfl (.e rfl (.e rfl (.e rfl (.e rfl (.e rfl (.z)))))))),rfl⟩
    cbv;cases h;exact⟨_,⟨rfl,rfl,hO⟩,.e rfl (.e2 (.b rfl (.e rfl (.e rfl (.e rfl (.e rfl (.e rfl (.z)))))))),rfl⟩
   clear hx;rintro e l H ⟨rfl,rfl,hO⟩;cbv;refine B1 hE h (fun _ h=>?_) fun _ h=>?_
   ·cbv;refine B1 hE h (fun _ h=>?_) fun _ h=>?_
    ·cbv;cases h;exact⟨_,_,rfl,⟨rfl,rfl,hO⟩,.e rfl .z,rfl⟩
    cbv;cases h;exact⟨_,rfl,.e rfl (.e4 .z),rfl,hO⟩
   cbv;obtain⟨s5,hx,h⟩:=bind_some h;refine Y4 cf216 hE Q6 (fun e l H1=>e= .normal∧l=[fi 0 aK,(1,.v (sr (V.int .i64) bF)),fi 6 x3,(7,.b true),(8,.v (sr (V.int .i64) bF)),fi 9 (Ar.len bF),fi 10 s1,fi 14 aK,(22,.v (.bool s5))]∧C3 Eq H0 [] H1) (by kernel_rfl) ?_ ?_
   ·clear h;have h:=hx;clear hx;cbv;refine B1 hE h (fun _ h=>?_) fun _ h=>?_
    ·cbv;cases h;exact⟨_,⟨rfl,rfl,hO⟩,.e rfl (.e2 (.b rfl (.e rfl (.e rfl (.e rfl (.e rfl (.e rfl (.z)))))))),rfl⟩
    cbv;refine B1 hE h (fun _ h=>?_) fun _ h=>?_
    ·cbv;cases h;exact⟨_,⟨rfl,rfl,hO⟩,.e rfl (.e2 (.b rfl (.e rfl (.e rfl (.e rfl (.e rfl (.e rfl (.z)))))))),rfl⟩
    cbv;cases h;exact⟨_,⟨rfl,rfl,hO⟩,.e rfl (.e2 (.b rfl (.e rfl (.e rfl (.e rfl (.e rfl (.e rfl (.z)))))))),rfl⟩
   clear hx;rintro e l H ⟨rfl,rfl,hO⟩;cbv;refine B1 hE h (fun _ h=>?_) fun _ h=>?_
   ·cbv;refine B1 hE h (fun _ h=>?_) fun _ h=>?_
    ·cbv;cases h;exact⟨_,_,rfl,⟨rfl,rfl,hO⟩,.e rfl .z,rfl⟩
    cbv;cases h;exact⟨_,rfl,.e rfl (.e4 .z),rfl,hO⟩
   cbv;refine B1 hE h (fun _ h=>?_) fun _ h=>?_
   ·cbv;refine C9 hE (fun _=>rfl) h fun x6 h=>?_;cbv;refine B1 hE h (fun _ h=>?_) fun _ h=>?_
    ·cbv;cases h;exact⟨_,_,rfl,⟨rfl,rfl,hO⟩,.e rfl .z,rfl⟩
    cbv;cases h;exact⟨_,rfl,.e rfl (.e4 .z),rfl,hO⟩
   cbv;cases h;exact⟨_,rfl,.e rfl (.e4 .z),rfl,hO⟩
  cbv;cases h;exact⟨_,_,rfl,⟨rfl,rfl,hO⟩,.z,rfl⟩
 ·exact .e rfl (.e4 .z)
 clear hx
 rcases s2 with y7|y8
 ·rintro e l H ⟨rfl,rfl,hO⟩;cbv;cases h;exact hK hO (.refl _)
 rintro e l H ⟨rfl,rfl,hO⟩;cbv;cases h;exact hK hO (.refl _)
def cf198 :Cf:=⟨[4,3000042,8000042,9000042],[(11,8),(17,6),(18,16)],[],[],[],[]⟩
theorem c198 (N:Nat):∀n aM aC r,N9 N n aM aC=some r→C0 prog 198 [(DR aM),(V9 aC)] (.tup [(E7 r.1),vi r.2]):=by
 intro n
 induction n with
 |zero=>intro aM aC r h;cases h
 |succ n ih=>
 intro aM aC r h
 unfold N9 at h
 refine O7 cf198 func198 call198 ntmps198 ?_;intro E H0 K hE hK hO;cbv;refine D3 hE hO fun b1 H hO=>?_;cbv;refine G1 hE ?_;cbv;refine B1 hE h (fun _ h=>?_) fun _ h=>?_
 ·cbv;refine A8 hE h (c215 N aM aC) (.refl _) fun r2 h=>?_;cbv;refine A9 hE hO 0 rfl rfl fun H hO=>?_;cbv;refine B2 hE hO 0 rfl ?_;cbv;cases h;exact hK hO (.refl _)
 cbv;refine G1 hE ?_;cbv;replace hO:=hO.tl0 (t:=.nil) rfl;replace hO:=hO.tl0 (t:=.nil) rfl;obtain⟨s6,hx,h⟩:=bind_some h;refine Bm cf198 hE Q6 (γ:=G3×G3) (fun s3 g=>[(2,.v (.eref (Gu aM) 0)),(3,.v (.eref (CO aC) 0)),(4,.v (.ref b1 0)),(6,.v (.sl (lst eBe8 s3.1) g.2)),(7,.v (.sl (lst (V.int .i64) s3.2.1) g.1)),(23,.v (sr eBe5 aC.dD)),fi 24 (Ar.len aC.dD),fi 25 s3.2.2]) (fun s3 g H1=>Au g.1∧Au g.2∧C3 Eq H0 [.tl g.1,.tl g.2,cb b1 [vi 0,vi 0,.str (⟨#[]⟩)]] H1) (fun x e l H1=>match(generalizing:=false) x with| .inl y=>∃u1:G3,Au u1∧∃u2:G3,Au u2∧e= .exit 0∧l=[(2,.v (.eref (Gu aM) 0)),(3,.v (.eref (CO aC) 0)),(4,.v (.ref b1 0)),(6,.v (.sl (lst eBe8 y.1) u2)),(7,.v (.sl (lst (V.int .i64) y.2) u1))]∧C3 Eq H0 [.tl u1,.tl u2,cb b1 [vi 0,vi 0,.str (⟨#[]⟩)]] H1| .inr y=>∃u1:G3,Au u1∧∃u2:G3,Au u2∧e= .ret∧l=[(4,.v (.ref b1 0)),fi 5 y]∧C3 Eq H0 [.tl u1,.tl u2,cb b1 [vi 0,vi 0,.str (⟨#[]⟩)]] H1) (by kernel_rfl) ?_ (⟨.nil,.nil⟩) hx ?_ ?_ ?_
 ·rintro s3 ⟨t4,t5⟩ H o ⟨ht4,ht5,hO⟩ h;clear hx;cbv;refine B1 hE h (fun _ h=>?_) fun _ h=>?_
  ·cbv;refine C9 hE eBf0 h fun x7 h=>?_;cbv;refine A8 hE h (ih aM x7) (.refl _) fun r8 h=>?_;cbv;refine B1 hE h (fun _ h=>?_) fun _ h=>?_
   ·cbv;refine A9 hE hO 2 rfl rfl fun H hO=>?_;cbv;cases h;exact⟨_,_,rfl,⟨t4,ht4,t5,ht5,rfl,rfl,hO⟩,.e2 .z,rfl⟩
   cbv;refine Rq hE hO 1 rfl ht5 fun H hO=>?_;cbv;refine Fv hE trivial ?_;cbv;refine VK (f:=eBe8) hE MC (by decide) (l:=s3.1) (m:=[r8.1]) (.refl _) (.lstc (.eq (eBe3 r8.1) (.refl _)) (.lst0)) h fun l9 h=>?_;cbv;refine Rr hE hO 1 rfl fun t10 H hO ht10=>?_;cbv;refine BS (f:=(V.int .i64)) hE (fun _=>rfl) (by decide) hO 0 rfl ht4 (l:=s3.2.1) (m:=[r8.1.Kind]) (.refl _) (.lstc (.refl _) (.lst0)) h fun l12 t11 H hO ht11 h=>?_;cbv;cases h;exact⟨_,⟨t11,t10⟩,rfl,.e4 (.e4 .z),rfl,ht11,ht10,hO⟩
  cbv;cases h;exact⟨_,_,rfl,⟨t4,ht4,t5,ht5,rfl,rfl,hO⟩,.e rfl (.e4 .z),rfl⟩
 ·exact .e rfl (.e2 (.v (.slt _ (.lst0)) (.v (.slt _ (.lst0)) (.e rfl (.e rfl (.e rfl (.z)))))))
 ·exact⟨trivial,trivial,hO⟩
 clear hx
 rcases s6 with y13|y43
 ·rintro e l H ⟨t14,ht14,t15,ht15,rfl,rfl,hO⟩;cbv;refine A8 hE h (c216 N aC.Op y13.2) (.cons (.refl _) (.cons (.ro _ _) (.refl _))) fun r16 h=>?_;cbv;refine B1 hE h (fun _ h=>?_) fun _ h=>?_
  ·cbv;refine A9 hE hO 2 rfl rfl fun H hO=>?_;cbv;refine B2 hE hO 2 rfl ?_;cbv;cases h;exact hK hO (.refl _)
  cbv;refine B1 hE h (fun _ h=>?_) fun _ h=>?_
  ·cbv;refine C9 hE eBe3 h fun x17 h=>?_;cbv;refine C9 hE eBe3 h fun x18 h=>?_;cbv;refine A8 hE h (c185 N (an (Ar.cmp .eql x17.Kind x18.Kind) (an (Ar.cmp .eql x17.Num x18.Num) (an (Ar.scmp .eql x17.Text x18.Text) true)))) (.refl _) fun r19 h=>?_;cbv;refine A9 hE hO 2 rfl rfl fun H hO=>?_;cbv;refine B2 hE hO 2 rfl ?_;cbv;cases h;exact hK hO (.refl _)
  cbv;refine AV3 hE (kt:=3) (et:=262) (z:=.nilf) (by kernel_rfl) (by kernel_rfl) (by kernel_rfl) rfl ?_;cbv;refine B1 hE h (fun _ h=>?_) fun _ h=>?_
  ·cbv;refine C9 hE eBe3 h fun x20 h=>?_;cbv;refine G1 hE ?_;cbv;refine C9 hE eBe3 h fun x21 h=>?_;cbv;refine Bn hE (g:=fun r22=>(E7 r22)) h (fun r22 hx=>C0.value (F:=[]) (C:=[.eref [.func (.func 207) [] []] 0]) (c208 N x20.Num x21.Num (.func (.func 207) [] []) (fun y1=>X8 N y1) (fun y1 r hx=>C0.value (F:=[]) (C:=[]) (c207 N y1 r hx)) r22 hx)) (.refl _) fun r22 h=>?_;cbv;refine A9 hE hO 2 rfl rfl fun H hO=>?_;cbv;refine B2 hE hO 2 rfl ?_;cbv;cases h;exact hK hO (.refl _)
  cbv;refine B1 hE h (fun _ h=>?_) fun _ h=>?_
  ·cbv;refine C9 hE eBe3 h fun x23 h=>?_;cbv;refine G1 hE ?_;cbv;refine C9 hE eBe3 h fun x24 h=>?_;cbv;refine Bn hE (g:=fun r25=>(E7 r25)) h (fun r25 hx=>C0.value (F:=[]) (C:=[.eref [.func (.func 207) [] []] 0]) (c209 N x23.Num x24.Num (.func (.func 207) [] []) (fun y1=>X8 N y1) (fun y1 r hx=>C0.value (F:=[]) (C:=[]) (c207 N y1 r hx)) r25 hx)) (.refl _) fun r25 h=>?_;cbv;refine A9 hE hO 2 rfl rfl fun H hO=>?_;cbv;refine B2 hE hO 2 rfl ?_;cbv;cases h;exact hK hO (.refl _)
  cbv;refine B1 hE h (fun _ h=>?_) fun _ h=>?_
  ·cbv;refine C9 hE eBe3 h fun x26 h=>?_;cbv;refine G1 hE ?_;cbv;refine C9 hE eBe3 h fun x27 h=>?_;cbv;refine A8 hE h (c210 N x26.Num x27.Num) (.refl _) fun r28 h=>?_;cbv;refine A9 hE hO 2 rfl rfl fun H hO=>?_;cbv;refine B2 hE hO 2 rfl ?_;cbv;cases h;exact hK hO (.refl _)
  cbv;refine B1 hE h (fun _ h=>?_) fun _ h=>?_
  ·cbv;refine C9 hE eBe3 h fun x29 h=>?_;cbv;refine G1 hE ?_;cbv;refine C9 hE eBe3 h fun x30 h=>?_;cbv;refine A8 hE h (c211 N x29.Num x30.Num) (.refl _) fun r31 h=>?_;cbv;refine A9 hE hO 2 rfl rfl fun H hO=>?_;cbv;refine B2 hE hO 2 rfl ?_;cbv;cases h;exact hK hO (.refl _)
  cbv;refine B1 hE h (fun _ h=>?_) fun _ h=>?_
  ·cbv;refine C9 hE eBe3 h fun x32 h=>?_;cbv;refine G1 hE ?_;cbv;refine C9 hE eBe3 h fun x33 h=>?_;cbv;refine A8 hE h (c212 N x32.Num x33.Num) (.refl _) fun r34 h=>?_;cbv;refine A9 hE hO 2 rfl rfl fun H hO=>?_;cbv;refine B2 hE hO 2 rfl ?_;cbv;cases h;exact hK hO (.refl _)
  cbv;refine B1 hE h (fun _ h=>?_) fun _ h=>?_
  ·cbv;refine C9 hE eBe3 h fun x35 h=>?_;cbv;refine G1 hE ?_;cbv;refine C9 hE eBe3 h fun x36 h=>?_;cbv;refine A8 hE h (c213 N x35.Num x36.Num) (.refl _) fun r37 h=>?_;cbv;refine A9 hE hO 2 rfl rfl fun H hO=>?_;cbv;refine B2 hE hO 2 rfl ?_;cbv;cases h;exact hK hO (.refl _)
  cbv;refine B1 hE h (fun _ h=>?_) fun _ h=>?_
  ·cbv;refine C9 hE eBe3 h fun x38 h=>?_;cbv;refine G1 hE ?_;cbv;refine C9 hE eBe3 h fun x39 h=>?_;cbv;refine A8 hE h (c214 N x38.Num x39.Num) (.refl _) fun r40 h=>?_;cbv;refine A9 hE hO 2 rfl rfl fun H hO=>?_;cbv;refine B2 hE hO 2 rfl ?_;cbv;cases h;exact hK hO (.refl _)
  cbv;refine C9 hE eBe3 h fun x41 h=>?_;cbv;refine G1 hE ?_;cbv;refine C9 hE eBe3 h fun x42 h=>?_;cbv;cases h
 rintro e l H ⟨t44,ht44,t45,ht45,rfl,rfl,hO⟩;cbv;refine B2 hE hO 2 rfl ?_;cbv;cases h;exact hK hO (.refl _)
def cf184 :Cf:=⟨[8],[(3000004,0),(3000004,1),(3000004,2),(3000004,4),(3000004,5),(3000004,7),(3000004,8),(3000004,10)],[],[2000004],[],[]⟩
theorem c184 (N aC aT aV aY r)(h:JY N aC aT aV aY=some r):C0 prog 184 [(V9 aC),(KH aT),vi aV,(Af aY)] (.tup [(E7 r.1),vi r.2]):=by
 unfold JY at h
 refine O7 cf184 func184 call184 ntmps184 ?_;intro E H0 K hE hK hO;cbv;refine D3 hE hO fun b1 H hO=>?_;cbv;refine A8 hE h (c81 N aC) (.refl _) fun r2 h=>?_;cbv;refine B1 hE h (fun _ h=>?_) fun _ h=>?_
 ·cbv;refine A9 hE hO 0 rfl rfl fun H hO=>?_;cbv;refine B2 hE hO 0 rfl ?_;cbv;cases h;exact hK hO (.refl _)
 cbv;obtain⟨s3,hx,h⟩:=bind_some h;refine Y4 cf184 hE Q6 (fun e l H1=>e= .normal∧l=[(8,.v (.ref b1 0)),fi 9 s3.1]∧C3 Eq H0 [cb b1 (W1 s3.2)] H1) (by kernel_rfl) ?_ ?_
 ·clear h;have h:=hx;clear hx;cbv;obtain⟨r244,er244,h⟩:=bind_some h;refine AA6 hE (c197 N () rfl) (.refl _) hO fun m125 H hO=>?_;cbv;refine AM1 hE (g:=fun r244=>.tup [(E7 r244.1),vi r244.2]) (Nq er244) (c198 N N (⟨aT,aV,aY,()⟩:S6) aC) (fun _=>.tup2 (.agg rfl) (.int _ _)) (.agg (.le (.refl _) (.le (.refl _) (.le (.refl _) (.le (.refl _) (.le (.refl _) (.le (.refl _) (.le (.refl _) (.fm (hO.get 0 rfl) (.nil))))))))) (.le (.refl _) (.nil))) fun r244 hh=>?_;obtain rfl:=M6 hh;cbv;refine A9 hE hO 1 rfl rfl fun H hO=>?_;cbv;cases h;exact⟨_,⟨rfl,rfl,hO.tail⟩,.e2 .z,rfl⟩
 clear hx;rintro e l H ⟨rfl,rfl,hO⟩;cbv;refine B2 hE hO 0 rfl ?_;cbv;cases h;exact hK hO (.refl _)
def cf165 :Cf:=⟨[],[(2,5)],[],[],[],[]⟩
theorem c165 (N aC aT aV aY r)(h:Gm N aC aT aV aY=some r):C0 prog 165 [(V9 aC),(KH aT),vi aV,(Af aY)] (.bool r):=by
 unfold Gm at h
 refine O7 cf165 func165 call165 ntmps165 ?_;intro E H0 K hE hK hO;cbv;refine A8 hE h (c184 N aC aT aV aY) (.refl _) fun r1 h=>?_;cbv;refine B1 hE h (fun _ h=>?_) fun _ h=>?_
 ·cbv;refine R3 hE (g:=fun r2=>(E7 r2)) h (c185 N true) (.refl _) fun r2 h=>?_;cbv;cases h;exact hK hO (.refl _)
 cbv;cases h;exact hK hO (.refl _)
def cf166 :Cf:=⟨[6,7,3000041,8000041,9000041],[(6,20)],[],[],[(44,1000007)],[]⟩
theorem c166 (N aL aH cL r) (h:Y0 N aL aH cL=some r):C0 prog 166 [.eref (C1 aL) 0,sr eBd9 aH,vi cL] ((KH r)):=by
 unfold Y0 at h
 refine O7 cf166 func166 call166 ntmps166 ?_;intro E H0 K hE hK hO;cbv;refine D3 hE hO fun b1 H hO=>?_;cbv;refine AR4 hE (f:=eBe2) (by decide) hO 1 h fun l3 w2 H hw2 h hO=>?_;have hO:C3 Eq H0 (.blk w2.q.id (.arr 1 (w2.q.pre++lst (CS eBe2) w2.row++w2.q.rest))::cb b1 [.sl [] .nil]::(JO w2++[])) H:=hO;cbv;refine D3 hE hO fun b4 H hO=>?_;cbv;refine A9 hE hO 0 rfl rfl fun H hO=>?_;cbv;refine G1 hE ?_;cbv;obtain⟨s7,hx,h⟩:=bind_some h;refine Bm cf166 hE Q6 (γ:=Rw B3) (fun s5 g=>[(0,.v (.eref (C1 aL) 0)),fi 2 cL,(6,.v (.ref b1 0)),(7,.v (.ref b4 0)),(12,.v (sr eBd9 aH)),fi 13 (Ar.len aH),fi 14 s5.1]) (fun s5 g H1=>Ef g s5.2∧C3 Eq H0 (cb b4 [.own g.q.id g.q.lo g.q.n]:: .blk g.q.id (.arr 1 (g.q.pre++lst (CS eBe2) g.row++g.q.rest))::cb b1 [.sl [] .nil]::(JO g++[])) H1) (fun x e l H1=>∃u1:Rw B3,Ef u1 x∧e= .exit 0∧l=[(6,.v (.ref b1 0)),(7,.v (.ref b4 0))]∧C3 Eq H0 (cb b4 [.own u1.q.id u1.q.lo u1.q.n]:: .blk u1.q.id (.arr 1 (u1.q.pre++lst (CS eBe2) u1.row++u1.q.rest))::cb b1 [.sl [] .nil]::(JO u1++[])) H1) (by kernel_rfl) ?_ w2 hx ?_ ?_ ?_
 ·rintro s5 w6 H o ⟨hw6,hO⟩ h;clear hx;cbv;refine B1 hE h (fun _ h=>?_) fun _ h=>?_
  ·cbv;refine C9 hE eBf5 h fun x8 h=>?_;cbv;refine B1 hE h (fun _ h=>?_) fun _ h=>?_
   ·cbv;obtain⟨x9,hxx9,h⟩:=bind_some h
    obtain⟨hjx9,t10,hrx9,hax9⟩:=hw6.at hxx9
    obtain⟨Rx9,hO,hbx9⟩:=hO.rtake (w:=w6) (T1:=[]) (T2:=[]) 3 rfl hrx9;refine Rq hE hO 0 rfl hax9 fun H hO=>?_;cbv;refine B2 hE hO 1 rfl ?_;cbv;refine B2 hE hO 1 rfl ?_;cbv;refine VY hE (f:=CS eBe2) hO hw6.ok 2 rfl hjx9 ?_;cbv;refine Ai5 hE (f:=CS eBe2) (fun _=>rfl) hO hw6.ok 2 rfl hjx9.1 hrx9 ?_;cbv;refine C9 hE eBe6 h fun x14 h=>?_;cbv;refine Fv hE trivial ?_;cbv;refine VK (f:=eBe2) hE Ud (by decide) (l:=x9) (m:=[x14]) (.refl _) (.lstc (.eq (eBe6 x14) (.refl _)) (.lst0)) h fun l15 h=>?_;cbv;refine Rr hE hO 0 rfl fun t11 H hO htt11=>?_;cbv;refine VY hE (f:=CS eBe2) hO hw6.ok 2 rfl hjx9 ?_;cbv;refine Ye hE (f:=CS eBe2) (tz:=1) (x':=(l15,t11)) (fun _=>⟨.sl (lst eBe2 l15) t11,.refl _,rfl,rfl,rfl⟩) (by decide) hO hw6.ok 2 rfl hjx9 fun H hO=>?_;cbv;obtain⟨l13,hu,h⟩:=bind_some h;obtain⟨w12,hqw12,hw12,hO⟩:∃w0:Rw B3,w0.q=w6.q∧Ef w0 l13∧C3 Eq H0 (cb b4 [.own w0.q.id w0.q.lo w0.q.n]:: .blk w0.q.id (.arr 1 (w0.q.pre++lst (CS eBe2) w0.row++w0.q.rest))::cb b1 [.sl [] .nil]::(JO w0++[])) H:=⟨(⟨w6.q,w6.row.set (x8.dI).toNat (l15,t11)⟩:Rw B3),rfl,by rw[WA hu];exact hw6.put _ htt11,(by have e:=hbx9 (l15,t11) H [cb b4 [.own w6.q.id w6.q.lo w6.q.n],.blk w6.q.id (.arr 1 (w6.q.pre++lst (CS eBe2) (w6.row.set (x8.dI).toNat (l15,t11))++w6.q.rest)),cb b1 [.sl [] .nil]] hO;simp only[Cx,J1,F2]at e ⊢;exact e)⟩
    try rw[←hqw12]
    cases h;exact⟨_,w12,rfl,.e rfl (.e2 (.e4 .z)),rfl,hw12,hO⟩
   cbv;cases h;exact⟨_,w6,rfl,.e rfl (.e2 (.e4 .z)),rfl,hw6,hO⟩
  cbv;cases h;exact⟨_,_,rfl,⟨w6,hw6,rfl,rfl,hO⟩,.e2 .z,rfl⟩
 ·exact .e rfl (.e2 (.e4 .z))
 ·exact⟨hw2,hO⟩
 clear hx;rintro e l H ⟨w16,hw16,rfl,rfl,hO⟩;cbv;refine XB hE (e:=eBf8) eBg9 hO hw16 0 1 rfl rfl rfl (by decide) fun H hO=>?_;have hO:C3 Eq H0 [cb b4 [sr eBf8 s7],cb b1 [.sl [] .nil]] H:=hO.rdrop (w:=w16) (T1:=[]) (T2:=[]) 2 rfl;cbv;refine B2 hE hO 0 rfl ?_;cbv;refine A9 hE hO 1 rfl rfl fun H hO=>?_;cbv;refine B2 hE hO 1 rfl ?_;cbv;cases h;exact hK hO (.refl _)
def cf132 :Cf:=⟨[],[(1,13)],[],[],[],[]⟩
theorem c132 (N aL cN aH aV bG r)(h:M3 N aL cN aH aV bG=some r):C0 prog 132 [.eref (C1 aL) 0,(V9 cN),sr eBd9 aH,vi aV,vi bG] (.bool r):=by
 unfold M3 at h
 refine O7 cf132 func132 call132 ntmps132 ?_;intro E H0 K hE hK hO;cbv;refine R3 hE (g:=fun r1=>(KH r1)) h (c166 N aL aH bG) (.refl _) fun r1 h=>?_;cbv;refine C9 hE eBe6 h fun x2 h=>?_;cbv;refine A8 hE h (c165 N cN r1 aV x2) (.refl _) fun r3 h=>?_;cbv;cases h;exact hK hO (.refl _)
def cf131 :Cf:=⟨[],[(3,28)],[],[],[],[]⟩
theorem c131 (N aF aJ aO aU r) (h:Ax N aF aJ aO aU=some r):Hh prog 131 (fun yv=>[yv,.eref [vi aF] 0,.eref [.eref (C1 aJ) 0] 0,.eref (E3 aO) 0,.eref [sr eBd9 aU] 0]) (List.map (fun(x:(List A3))=>[sr eBd9 x]) r) rbN:=by
 unfold Ax at h
 obtain⟨⟨w0,u0⟩,h1,hr⟩:=bind_some h;clear h;have hr:=M6 hr;subst hr;have h:=h1;clear h1;refine O4 cf131 Q6 func131 (by rfl) (by kernel_rfl) call131 ntmps131 (by rfl) (fun _=>rfl) ?_;intro yv I D hI hD hy tl F E H K hE hO hK hKD
 have hO:C3 (I (List.map (fun(x:(List A3))=>[sr eBd9 x]) (w0++[])++tl)) F [] H:=by rw[F2];exact hO
 cbv;obtain⟨w2,w3,s6,hx,h1,he⟩:=N4 h;clear h;have h:=h1;clear h1
 rw[he,D4]at hO
 clear he;refine Fx cf131 hE Q6 (γ:=Unit) (fun s1 g=>[(0,.v (yv)),(2,.v (.eref [.eref (C1 aJ) 0] 0)),(3,.v (.eref (E3 aO) 0)),(4,.v (.eref [sr eBd9 aU] 0)),fi 6 s1]) (fun s1 g w H1=>C3 (I (List.map (fun(x:(List A3))=>[sr eBd9 x]) w++tl)) F [] H1) (fun x e l w H1=>e= .exit 0∧l=[]∧C3 (I (List.map (fun(x:(List A3))=>[sr eBd9 x]) w++tl)) F [] H1) (fun e l H1=>(e= .ret∧l=[]∧C3 D F [] H1)) (by kernel_rfl) ?_ (w':=w3++[]) () hx ?_ ?_ ?_ ?_
 ·rintro s1 _ w4 w5 H o hO h;clear hx
  skip
  cbv;refine G1 hE ?_;cbv;refine B1 hE h (fun _ h=>?_) fun _ h=>?_
  ·cbv;refine C9 hE eBe6 h fun x7 h=>?_;cbv;refine B1 hE h (fun _ h=>?_) fun _ h=>?_
   ·cbv;refine R3 hE (g:=fun r8=>.bool r8) h (c132 N aJ aO.dE aU aO.Var s1) (.refl _) fun r8 h=>?_;cbv;refine B1 hE h (fun _ h=>?_) fun _ h=>?_
    ·cbv;obtain⟨w9,h1,he⟩:=S8 h;clear h;have h:=h1;clear h1
     rw[he,D4]at hO
     clear he;have hO:C3 (I ([sr eBd9 ([(⟨aO.Var,s1⟩:A3)])]::(List.map (fun(x:(List A3))=>[sr eBd9 x]) (w9++w5)++tl))) F [] _:=hO;refine CI hE hI hD hy hO (.cons (.lit _ (I0 ((eBf5 (⟨aO.Var,s1⟩:A3)).symm) (E0))) (.refl _)) (fun H hO=>?_) (fun H hO=>?_)
     ·cbv;refine Id hE (nt_eq _) ?_;cbv;obtain⟨hw,rfl⟩:=D0 h
      rw[←hw]at hO
      exact⟨_,(),rfl,.e rfl (.e4 .z),rfl,hO⟩
     clear h;cbv;refine Ic hE (nt_eq _) ?_;cbv;exact .inr ⟨_,⟨rfl,rfl,hO⟩,.z,rfl⟩
    cbv;obtain⟨hw,rfl⟩:=D0 h
    rw[←hw]at hO
    exact⟨_,(),rfl,.e rfl (.e4 .z),rfl,hO⟩
   cbv;obtain⟨hw,rfl⟩:=D0 h
   rw[←hw]at hO
   exact⟨_,(),rfl,.e rfl (.e4 .z),rfl,hO⟩
  cbv;obtain⟨hw,rfl⟩:=D0 h
  rw[←hw]at hO
  exact .inl ⟨_,_,rfl,⟨rfl,rfl,hO⟩,.z,rfl⟩
 ·exact .e rfl (.e4 .z)
 ·exact hO
 ·rintro e l H ⟨rfl,rfl,hO⟩;clear hx;cbv;obtain⟨hw,_⟩:=D0 h
  rw[←hw]at hO
  exact hK _ _ _ hO trivial
 rintro e l H hX;obtain⟨rfl,rfl,hO⟩:=hX;clear h;cbv;exact hKD _ _ _ hO trivial
theorem c96 (N aL aA aN aP r)(h:Q4 N aL aA aN aP=some r):Bp prog 96 [.eref (C1 aL) 0,(D2 aA),sr eBd9 aN,vi aP] (fun v=>FM prog v (r.map fun(x:(List A3))=>[sr eBd9 x])):=by
 unfold Q4 at h
 refine P7 cf0 Q6 func96 (by rfl) (by kernel_rfl) call96 ntmps96 (by rfl) (by rfl) ?_;intro E H0 K hE hK;have hO:C3 Eq H0 [] H0:=.start G4 rfl;cbv;exact hK _ _ _ hO (S5 call131 (c131 N aP aL aA aN r h))
theorem c167 (N aF r) (h:J6 N aF=some r):Hh prog 167 (fun yv=>[yv,.eref [sr eBe7 aF] 0]) (List.map (fun(x:(List A3))=>[sr eBd9 x]) r) rbN:=by
 unfold J6 at h
 obtain⟨⟨w0,u0⟩,h1,hr⟩:=bind_some h;clear h;have hr:=M6 hr;subst hr;have h:=h1;clear h1;refine O4 cf0 Q6 func167 (by rfl) (by kernel_rfl) call167 ntmps167 (by rfl) (fun _=>rfl) ?_;intro yv I D hI hD hy tl F E H K hE hO hK hKD
 have hO:C3 (I (List.map (fun(x:(List A3))=>[sr eBd9 x]) (w0++[])++tl)) F [] H:=by rw[F2];exact hO
 cbv;refine G1 hE ?_;cbv;obtain⟨w2,w3,s6,hx,h1,he⟩:=N4 h;clear h;have h:=h1;clear h1
 rw[he,D4]at hO
 clear he;refine Fx cf0 hE Q6 (γ:=Unit) (fun s1 g=>[(0,.v (yv)),(5,.v (sr eBe7 aF)),fi 6 (Ar.len aF),fi 7 s1]) (fun s1 g w H1=>C3 (I (List.map (fun(x:(List A3))=>[sr eBd9 x]) w++tl)) F [] H1) (fun x e l w H1=>e= .exit 0∧l=[]∧C3 (I (List.map (fun(x:(List A3))=>[sr eBd9 x]) w++tl)) F [] H1) (fun e l H1=>(e= .ret∧l=[]∧C3 D F [] H1)) (by kernel_rfl) ?_ (w':=w3++[]) () hx ?_ ?_ ?_ ?_
 ·rintro s1 _ w4 w5 H o hO h;clear hx
  skip
  cbv;refine B1 hE h (fun _ h=>?_) fun _ h=>?_
  ·cbv;refine C9 hE eBf6 h fun x7 h=>?_;cbv;obtain⟨w8,h1,he⟩:=S8 h;clear h;have h:=h1;clear h1
   rw[he,D4]at hO
   clear he;have hO:C3 (I ([sr eBd9 x7]::(List.map (fun(x:(List A3))=>[sr eBd9 x]) (w8++w5)++tl))) F [] _:=hO;refine CI hE hI hD hy hO (.refl _) (fun H hO=>?_) (fun H hO=>?_)
   ·cbv;refine Id hE (nt_eq _) ?_;cbv;obtain⟨hw,rfl⟩:=D0 h
    rw[←hw]at hO
    exact⟨_,(),rfl,.e4 .z,rfl,hO⟩
   clear h;cbv;refine Ic hE (nt_eq _) ?_;cbv;exact .inr ⟨_,⟨rfl,rfl,hO⟩,.z,rfl⟩
  cbv;obtain⟨hw,rfl⟩:=D0 h
  rw[←hw]at hO
  exact .inl ⟨_,_,rfl,⟨rfl,rfl,hO⟩,.z,rfl⟩
 ·exact .e4 .z
 ·exact hO
 ·rintro e l H ⟨rfl,rfl,hO⟩;clear hx;cbv;obtain⟨hw,_⟩:=D0 h
  rw[←hw]at hO
  exact hK _ _ _ hO trivial
 rintro e l H hX;obtain⟨rfl,rfl,hO⟩:=hX;clear h;cbv;exact hKD _ _ _ hO trivial
theorem c133 (N aH r)(h:W9 N aH=some r):Bp prog 133 [sr eBe7 aH] (fun v=>FM prog v (r.map fun(x:(List A3))=>[sr eBd9 x])):=by
 unfold W9 at h
 refine P7 cf0 Q6 func133 (by rfl) (by kernel_rfl) call133 ntmps133 (by rfl) (by rfl) ?_;intro E H0 K hE hK;have hO:C3 Eq H0 [] H0:=.start G4 rfl;cbv;exact hK _ _ _ hO (S5 call167 (c167 N aH r h))
theorem c186 {cmp:A3→A3→Option Int}{g:Nat}{C:List V}(eg:∀vals w,(callFunc g vals).run prog w= .ok (.enter g vals) w)(hc:∀y1 y2 r,cmp y1 y2=some r→C0 prog g ([(U4 y1),(U4 y2)]++C) (vi r)){l r:List A3}(h:LG cmp l=some r):
 Wp prog 186 (.func (.func g) [] C) 2 (lst eBd9 l) (lst eBd9 r):=QX Go.Proofs.Tryz.sorts186 call186 (va:=fun x=>(Jr x)) eBf5 (fun _=>rfl) eg hc h
theorem c187 (N aM bE r)(h:DS N aM bE=some r):C0 prog 187 [(U4 aM),(U4 bE)] (vi r):=by
 unfold DS at h
 refine O7 cf0 func187 call187 ntmps187 ?_;intro E H0 K hE hK hO;cbv;cases h;exact hK hO (.refl _)
theorem c169 (N aB aD r)(h:S3 N aB aD=some r):C0 prog 169 [sr eBd9 aB,sr eBd9 aD] (sr eBd9 r):=by
 unfold S3 at h
 refine FK (T:=TT) cf0 Q6 func169 (by rfl) (by kernel_rfl) call169 ntmps169 (by rfl) (by rfl) ?_;intro E H0 K hE hK hF;have hO:C3 Eq H0 [] H0:=.start G4 rfl;cbv;refine G1 hE ?_;cbv;refine G1 hE ?_;cbv;refine AR5 hE (f:=eBd9) (by decide) (z0:=((⟨0,0⟩:A3):A3)) ((.eq (eBf5 _) (.refl _))) hO h fun l2 q1 H hq1 h hO=>?_;cbv;refine JD (f:=eBd9) hE BV (by decide) hO hq1 0 rfl (m:=aB) (HQ (f:=eBd9) hE BV (.refl _)) h fun l4 q3 H hq3 hO h=>?_;cbv;refine JD (f:=eBd9) hE BV (by decide) hO hq3 0 rfl (m:=aD) (HQ (f:=eBd9) hE BV (.refl _)) h fun l6 q5 H hq5 hO h=>?_;cbv;refine XD hE hO hq5 0 rfl h (fun l7 hx=>c186 (g:=187) (C:=[]) call187 (fun y1 y2 r hx=>c187 N y1 y2 r hx) hx) fun l7 H hq5 hO h=>?_;cbv;cases h;exact hF q5 _ _ 0 _ _ hO rfl (Hy hE hq5) (.refl _)
theorem c170 (N aH r)(h:S0 N aH=some r):C0 prog 170 [sr eBd9 aH] (vi r):=by
 unfold S0 at h
 refine O7 cf0 func170 call170 ntmps170 ?_;intro E H0 K hE hK hO;cbv;refine G1 hE ?_;cbv;refine C9 hE eBf5 h fun x1 h=>?_;cbv;cases h;exact hK hO (.refl _)
theorem c201 (N:Nat) (aH:List A3) (bC:V) (aW:A3→Option Bool) (bM:∀y1 q,aW y1=some q→Y5 prog bC [(U4 y1)] (.bool q)) (r:Int) (h:X0 N aH aW=some r):C0 prog 201 [sr eBd9 aH,bC] (vi r):=by
 unfold X0 at h
 refine O7 cf0 func201 call201 ntmps201 ?_;intro E H0 K hE hK hO;cbv;refine G1 hE ?_;cbv;obtain⟨s2,hx,h⟩:=bind_some h;refine K0 cf0 hE Q6 (fun s1=>[(0,.v (sr eBd9 aH)),(1,.v (bC)),fi 7 (Ar.len aH),fi 8 s1]) (fun s1 H1=>C3 Eq H0 [] H1) (fun x e l H1=>match(generalizing:=false) x with| .inl y=>e= .exit 0∧l=[]∧C3 Eq H0 [] H1| .inr y=>e= .ret∧l=[fi 4 y]∧C3 Eq H0 [] H1) (by kernel_rfl) ?_ hx ?_ hO ?_
 ·intro s1 H o hO h;clear hx;cbv;refine B1 hE h (fun _ h=>?_) fun _ h=>?_
  ·cbv;refine C9 hE eBf5 h fun x3 h=>?_;cbv;refine Bn hE (g:=fun r4=>.bool r4) h (fun r4 hx=>bM x3 r4 hx) (.refl _) fun r4 h=>?_;cbv;refine B1 hE h (fun _ h=>?_) fun _ h=>?_
   ·cbv;cases h;exact⟨_,_,rfl,⟨rfl,rfl,hO⟩,.e rfl .z,rfl⟩
   cbv;cases h;exact⟨_,rfl,.e4 .z,rfl,hO⟩
  cbv;cases h;exact⟨_,_,rfl,⟨rfl,rfl,hO⟩,.z,rfl⟩
 ·exact .e4 .z
 clear hx
 rcases s2 with y5|y6
 ·rintro e l H ⟨rfl,rfl,hO⟩;cbv;cases h;exact hK hO (.refl _)
 rintro e l H ⟨rfl,rfl,hO⟩;cbv;cases h;exact hK hO (.refl _)
theorem c188 (N:Nat)(aH:List A3)(bC:V)(aW:A3→Option Bool)(bM:∀y1 q,aW y1=some q→Y5 prog bC [(U4 y1)] (.bool q))(r:Bool)(h:L6 N aH aW=some r):C0 prog 188 [sr eBd9 aH,bC] (.bool r):=by
 unfold L6 at h
 refine O7 cf0 func188 call188 ntmps188 ?_;intro E H0 K hE hK hO;cbv;refine A8 hE h (c201 N aH bC aW bM) (.refl _) fun r1 h=>?_;cbv;cases h;exact hK hO (.refl _)
theorem c190 (N aM aF r)(h:AF N aM aF=some r):C0 prog 190 [(U4 aM),.eref [vi aF] 0] (.bool r):=by
 unfold AF at h
 refine O7 cf0 func190 call190 ntmps190 ?_;intro E H0 K hE hK hO;cbv;cases h;exact hK hO (.refl _)
theorem c172 (N aH bG r)(h:Aw N aH bG=some r):C0 prog 172 [sr eBd9 aH,vi bG] (.bool r):=by
 unfold Aw at h
 refine O7 cf0 func172 call172 ntmps172 ?_;intro E H0 K hE hK hO;cbv;refine A8 hE (g:=fun r1=>.bool r1) h (fun r1 hx=>c188 N aH (.func (.func 190) [] [.eref [vi bG] 0]) (fun y1=>AF N y1 bG) (fun y1 r hx=>C0.value (F:=[]) (C:=[.eref [vi bG] 0]) (c190 N y1 bG r hx)) r1 hx) (.refl _) fun r1 h=>?_;cbv;cases h;exact hK hO (.refl _)
theorem c189 (N aM aF r)(h:Bv N aM aF=some r):C0 prog 189 [(U4 aM),.eref [sr eBd9 aF] 0] (.bool r):=by
 unfold Bv at h
 refine O7 cf0 func189 call189 ntmps189 ?_;intro E H0 K hE hK hO;cbv;refine A8 hE h (c172 N aF aM.at_) (.refl _) fun r1 h=>?_;cbv;cases h;exact hK hO (.refl _)
theorem c171 (N aB aD r)(h:CQ N aB aD=some r):C0 prog 171 [sr eBd9 aB,sr eBd9 aD] (.bool r):=by
 unfold CQ at h
 refine O7 cf0 func171 call171 ntmps171 ?_;intro E H0 K hE hK hO;cbv;refine A8 hE (g:=fun r1=>.bool r1) h (fun r1 hx=>c188 N aB (.func (.func 189) [] [.eref [sr eBd9 aD] 0]) (fun y1=>Bv N y1 aD) (fun y1 r hx=>C0.value (F:=[]) (C:=[.eref [sr eBd9 aD] 0]) (c189 N y1 aD r hx)) r1 hx) (.refl _) fun r1 h=>?_;cbv;cases h;exact hK hO (.refl _)
def cf138 :Cf:=⟨[],[(6,11)],[],[],[],[]⟩
theorem c138 (N:Nat):∀n bT bQ r,AC N n bT bQ=some r→Hh prog 138 (fun yv=>[sr eBg0 bT,sr eBd9 bQ,yv]) (List.map (fun(x:(List A3))=>[sr eBd9 x]) r) rbB:=by
 intro n
 induction n with
 |zero=>intro bT bQ r h;cases h
 |succ n ih=>
 intro bT bQ r h
 unfold AC at h
 obtain⟨⟨w0,u0⟩,h1,hr⟩:=bind_some h;clear h;have hr:=M6 hr;subst hr;have h:=h1;clear h1;refine O4 cf138 Q6 func138 (by rfl) (by kernel_rfl) call138 ntmps138 (by rfl) (fun _=>rfl) ?_;intro yv I D hI hD hy tl F E H K hE hO hK hKD
 have hO:C3 (I (List.map (fun(x:(List A3))=>[sr eBd9 x]) (w0++[])++tl)) F [] H:=by rw[F2];exact hO
 cbv;refine G1 hE ?_;cbv;refine B1 hE h (fun _ h=>?_) fun _ h=>?_
 ·cbv;obtain⟨w1,h1,he⟩:=S8 h;clear h;have h:=h1;clear h1
  rw[he,D4]at hO
  clear he;have hO:C3 (I ([sr eBd9 bQ]::(List.map (fun(x:(List A3))=>[sr eBd9 x]) (w1++[])++tl))) F [] _:=hO;refine CI hE hI hD hy hO (.refl _) (fun H hO=>?_) (fun H hO=>?_)
  ·cbv;obtain⟨hw,_⟩:=D0 h
   rw[←hw]at hO
   exact hK _ _ _ hO rfl
  clear h;cbv;exact hKD _ _ _ hO rfl
 cbv;refine C9 hE eBh2 h fun x2 h=>?_;cbv;refine G1 hE ?_;cbv;obtain⟨w4,w5,s8,hx,h1,he⟩:=N4 h;clear h;have h:=h1;clear h1
 rw[he,D4]at hO
 clear he;refine Fx cf138 hE Q6 (γ:=Unit) (fun s3 g=>[(0,.v (sr eBg0 bT)),(1,.v (sr eBd9 bQ)),(2,.v (yv)),(17,.v (sr eBe7 x2)),fi 18 (Ar.len x2),fi 19 s3]) (fun s3 g w H1=>C3 (I (List.map (fun(x:(List A3))=>[sr eBd9 x]) w++tl)) F [] H1) (fun x e l w H1=>e= .exit 0∧l=[]∧C3 (I (List.map (fun(x:(List A3))=>[sr eBd9 x]) w++tl)) F [] H1) (fun e l H1=>(e= .ret∧l=[(6,.b false)]∧C3 D F [] H1)) (by kernel_rfl) ?_ (w':=w5++[]) () hx ?_ ?_ ?_ ?_
 ·rintro s3 _ w6 w7 H o hO h;clear hx
  skip
  cbv;refine B1 hE h (fun _ h=>?_) fun _ h=>?_
  ·cbv;refine C9 hE eBf6 h fun x9 h=>?_;cbv;refine R3 hE (g:=fun r10=>.bool r10) h (c171 N bQ x9) (.refl _) fun r10 h=>?_;cbv;refine B1 hE h (fun _ h=>?_) fun _ h=>?_
   ·cbv;refine Ko hE (f:=eBg0) FT h fun l11 t12 h=>?_;cbv;refine R3 hE (g:=fun r13=>sr eBd9 r13) h (c169 N bQ x9) (.refl _) fun r13 h=>?_;cbv;obtain⟨l14,hl,h⟩:=bind_some h;obtain⟨w15,h1,he⟩:=S8 h;clear h;have h:=h1;clear h1
    rw[he,D4]at hO
    clear he
    rw[Z5,D4]at hO
    refine VJ hE hI hD hy (ih l11 r13 l14 hl) hO (.cons (.ro _ _) (.refl _)) (fun v H hb hO=>?_) (fun v H hb hO=>?_)
    ·cases hb;clear hl;cbv;refine Id hE (nt_eq _) ?_;cbv;obtain⟨hw,rfl⟩:=D0 h
     rw[←hw]at hO
     exact⟨_,(),rfl,.e2 (.e4 .z),rfl,hO⟩
    cases hb;clear h hl;cbv;refine Ic hE (nt_eq _) ?_;cbv;exact .inr ⟨_,⟨rfl,rfl,hO⟩,.b rfl (.z),rfl⟩
   cbv;obtain⟨hw,rfl⟩:=D0 h
   rw[←hw]at hO
   exact⟨_,(),rfl,.e2 (.e4 .z),rfl,hO⟩
  cbv;obtain⟨hw,rfl⟩:=D0 h
  rw[←hw]at hO
  exact .inl ⟨_,_,rfl,⟨rfl,rfl,hO⟩,.z,rfl⟩
 ·exact .e2 (.e4 .z)
 ·exact hO
 ·rintro e l H ⟨rfl,rfl,hO⟩;clear hx;cbv;obtain⟨hw,_⟩:=D0 h
  rw[←hw]at hO
  exact hK _ _ _ hO rfl
 rintro e l H hX;obtain⟨rfl,rfl,hO⟩:=hX;clear h;cbv;exact hKD _ _ _ hO rfl
end Go.Ab
