/- GTCo2 GTCo3 -/
import Derived.Test.YtanbgjgaafeplaaGreatDoorM12
set_option linter.all false
open List (append_assoc append_nil)
open Go.Ab.Ar (an lst nt_eq wr)
namespace Go.Ab
open Go.RowKit Go.Proofs Go.Proofs.Tryz I7
variable [Ar][I7]
set_option maxRecDepth 100000
def cf141 :Cf:=⟨[],[(1,9)],[],[],[],[]⟩
theorem c141 (N aP bG r)(h:W0 N aP bG=some r):B4 prog 141 [(DA aP),(DA bG)] (vi r):=by
 unfold W0 at h
 refine I4 cf141 func141 call141 ntmps141 ?_;intro E H0 K hE hK hO;cbv;refine C9 hE (g:=fun r1=>vi r1) h (c139 N aP.Ref bG.Ref) (.refl _) fun r1 h=>?_;cbv;refine A5 hE h (c143 N aP.Var bG.Var) (.refl _) fun r2 h=>?_;cbv;refine A5 hE h (c142 N ([r1,r2])) (.cons (.lit _ (F9 (rfl) (F9 (rfl) (E6)))) (.refl _)) fun r3 h=>?_;cbv;cases h;exact hK hO (.refl _)
theorem c102 (N aC aD r)(h:Am N aC aD=some r):B4 prog 102 [(Ez aC),(Ez aD)] (vi r):=by
 unfold Am at h
 refine I4 cf0 func102 call102 ntmps102 ?_;intro E H0 K hE hK hO;cbv;refine A5 hE (g:=fun r1=>vi r1) h (fun r1 hx=>c140 N aC.cO aD.cO (.func (.func 141) [] []) (fun y1 y2=>W0 N y1 y2) (fun y1 y2 r hx=>B4.value (F:=[]) (C:=[]) (c141 N y1 y2 r hx)) r1 hx) (.refl _) fun r1 h=>?_;cbv;cases h;exact hK hO (.refl _)
theorem c156 (N aB r)(h:CK N aB=some r):B4 prog 156 [(V7 aB)] (.bool r):=by
 unfold CK at h
 refine I4 cf0 func156 call156 ntmps156 ?_;intro E H0 K hE hK hO;cbv;cases h;exact hK hO (.refl _)
def cf157 :Cf:=⟨[],[(1,3),(3,14)],[],[],[],[]⟩
theorem c157 (N aC aD r)(h:Bu N aC aD=some r):B4 prog 157 [(V7 aC),(V7 aD)] (vi r):=by
 unfold Bu at h
 refine I4 cf157 func157 call157 ntmps157 ?_;intro E H0 K hE hK hO;cbv;refine C9 hE (g:=fun r1=>(HX r1)) h (c96 N aC) (.refl _) fun r1 h=>?_;cbv;refine A5 hE h (c96 N aD) (.refl _) fun r2 h=>?_;cbv;refine A8 hE h (fun _ h=>?_) fun _ h=>?_
 ·cbv;cases h;exact hK hO (.refl _)
 cbv;refine C9 hE (g:=fun r3=>vi r3) h (c143 N aC.Time aD.Time) (.refl _) fun r3 h=>?_;cbv;refine C9 hE (g:=fun r4=>vi r4) h (c143 N aC.Source aD.Source) (.refl _) fun r4 h=>?_;cbv;refine A5 hE h (c143 N aC.Seq aD.Seq) (.refl _) fun r5 h=>?_;cbv;refine A5 hE h (c142 N ([r3,r4,r5])) (.cons (.lit _ (F9 (rfl) (F9 (rfl) (F9 (rfl) (E6))))) (.refl _)) fun r6 h=>?_;cbv;cases h;exact hK hO (.refl _)
def cf158 :Cf:=⟨[2],[],[],[],[],[]⟩
theorem c158 (N aB r)(h:Cp N aB=some r):B4 prog 158 [(V7 aB)] ((Jk r)):=by
 unfold Cp at h
 refine I4 cf158 func158 call158 ntmps158 ?_;intro E H0 K hE hK hO;cbv;refine C5 hE hO fun b1 H hO=>?_;cbv;refine A9 hE hO 0 rfl rfl fun H hO=>?_;cbv;refine B2 hE hO 0 rfl ?_;cbv;cases h;exact hK hO (.refl _)
def cf126 :Cf:=⟨[5],[(9,9)],[],[],[],[]⟩
theorem c126 (N aF r) (h:BV N aF=some r):B4 prog 126 [sr eAl9 aF] (vi r):=by
 unfold BV at h
 refine I4 cf126 func126 call126 ntmps126 ?_;intro E H0 K hE hK hO;cbv;refine D5 hE ?_;cbv;refine A8 hE h (fun _ h=>?_) fun _ h=>?_
 ·cbv;cases h;exact hK hO (.refl _)
 cbv;refine Aa7 hE Ra eAo0 V.bool hO fun m1 o2 H ho2 hO=>?_;cbv;refine D5 hE ?_;cbv;obtain⟨s5,hx,h⟩:=bind_some h;refine M8 cf126 hE M3 (γ:=Obj) (fun s3 g=>[(0,.v (sr eAl9 aF)),(3,.v (.map m1)),(10,.v (sr eAl9 aF)),fi 11 (Ar.len aF),fi 12 s3.1]) (fun s3 g H1=>Wb Ra eAo0 V.bool g s3.2∧C1 Eq H0 [.blk m1 (.obj g)] H1) (fun x e l H1=>match(generalizing:=false) x with| .inl y=>∃u1:Obj,Wb Ra eAo0 V.bool u1 y∧e= .exit 0∧l=[]∧C1 Eq H0 [.blk m1 (.obj u1)] H1| .inr y=>∃u1:Obj,Wb Ra eAo0 V.bool u1 y.2∧e= .ret∧l=[fi 2 y.1]∧C1 Eq H0 [.blk m1 (.obj u1)] H1) (by kernel_rfl) ?_ o2 hx ?_ ?_ ?_
 ·rintro s3 q4 H o ⟨hq4,hO⟩ h;clear hx;cbv;refine A8 hE h (fun _ h=>?_) fun _ h=>?_
  ·cbv;refine B8 hE eAm5 h fun x6 h=>?_;cbv;refine C5 hE hO fun b7 H hO=>?_;cbv;refine A9 hE hO 0 rfl rfl fun H hO=>?_;cbv;refine B2 hE hO 0 rfl ?_;cbv;refine A5 hE h (c156 N x6) (.refl _) fun r8 h=>?_;cbv;refine A8 hE h (fun _ h=>?_) fun _ h=>?_
   ·cbv;cases h;exact⟨_,_,rfl,⟨q4,hq4,rfl,rfl,hO.tail⟩,.e rfl .z,rfl⟩
   cbv;refine A8 hE h (fun _ h=>?_) fun _ h=>?_
   ·cbv;refine B8 hE eAm5 h fun x9 h=>?_;cbv;refine B2 hE hO 0 rfl ?_;cbv;refine A5 hE h (c157 N x9 x6) (.refl _) fun r10 h=>?_;cbv;refine A8 hE h (fun _ h=>?_) fun _ h=>?_
    ·cbv;cases h;exact⟨_,_,rfl,⟨q4,hq4,rfl,rfl,hO.tail⟩,.e rfl .z,rfl⟩
    cbv;refine B2 hE hO 0 rfl ?_;cbv;refine A5 hE h (c158 N x6) (.refl _) fun r11 h=>?_;cbv;refine Xm (eAo1 r11) ?_;refine SF hE (kt:=212) (et:=4) (by kernel_rfl) (by kernel_rfl) TX (false:Bool) (by kernel_rfl) rfl hO hq4 1 rfl h fun r12 h=>?_;cbv;refine A8 hE h (fun _ h=>?_) fun _ h=>?_
    ·cbv;cases h;exact⟨_,_,rfl,⟨q4,hq4,rfl,rfl,hO.tail⟩,.e rfl .z,rfl⟩
    cbv;refine B2 hE hO 0 rfl ?_;cbv;refine A5 hE h (c158 N x6) (.refl _) fun r13 h=>?_;cbv;refine TR (eAo1 r13) ?_;refine SE hE (kt:=212) (et:=4) (by kernel_rfl) (by kernel_rfl) TX Kk hO hq4 1 rfl h fun l15 o14 H ho14 h hO=>?_;cbv;cases h;exact⟨_,o14,rfl,.e rfl (.e4 .z),rfl,ho14,hO.tail⟩
   cbv;refine B2 hE hO 0 rfl ?_;cbv;refine A5 hE h (c158 N x6) (.refl _) fun r16 h=>?_;cbv;refine Xm (eAo1 r16) ?_;refine SF hE (kt:=212) (et:=4) (by kernel_rfl) (by kernel_rfl) TX (false:Bool) (by kernel_rfl) rfl hO hq4 1 rfl h fun r17 h=>?_;cbv;refine A8 hE h (fun _ h=>?_) fun _ h=>?_
   ·cbv;cases h;exact⟨_,_,rfl,⟨q4,hq4,rfl,rfl,hO.tail⟩,.e rfl .z,rfl⟩
   cbv;refine B2 hE hO 0 rfl ?_;cbv;refine A5 hE h (c158 N x6) (.refl _) fun r18 h=>?_;cbv;refine TR (eAo1 r18) ?_;refine SE hE (kt:=212) (et:=4) (by kernel_rfl) (by kernel_rfl) TX Kk hO hq4 1 rfl h fun l20 o19 H ho19 h hO=>?_;cbv;cases h;exact⟨_,o19,rfl,.e rfl (.e4 .z),rfl,ho19,hO.tail⟩
  cbv;cases h;exact⟨_,_,rfl,⟨q4,hq4,rfl,rfl,hO⟩,.z,rfl⟩
 ·exact .e rfl (.e4 .z)
 ·exact⟨ho2,hO⟩
 clear hx
 rcases s5 with y21|y23
 ·rintro e l H ⟨q22,hq22,rfl,rfl,hO⟩;cbv;cases h;exact hK hO (.refl _)
 rintro e l H ⟨q24,hq24,rfl,rfl,hO⟩;cbv;cases h;exact hK hO (.refl _)
def cf159 :Cf:=⟨[0],[],[],[],[],[]⟩
theorem c159 (N r)(h:Au N=some r):B4 prog 159 [] (.agg [.func (.func 190) [] [],.func (.func 191) [] [],.func (.func 192) [] [],.func (.func 193) [] [],.func (.func 194) [] [],.func (.func 195) [] [],.func (.func 195) [] [],.func (.func 195) [] []]):=by
 unfold Au at h
 refine I4 cf159 func159 call159 ntmps159 ?_;intro E H0 K hE hK hO;cbv;refine C5 hE hO fun b1 H hO=>?_;cbv;refine A9 hE hO 0 rfl rfl fun H hO=>?_;cbv;refine B2 hE hO 0 rfl ?_;cbv;cases h;exact hK hO (.refl _)
theorem c291 (N bA r)(h:EZ N bA=some r):B4 prog 291 [vi bA] (.str r):=Ru Go.Proofs.Tryz.laysNm283 call291 h
theorem c273 (N bF bA bD r) (h:V0 N bF bA bD=some r):Py prog 273 [.int .u64 bA,vi bD] 1 (lst (V.int .u8) bF) (lst (V.int .u8) r):=by
 unfold V0 at h
 intro H0 q0 hq0 hk0;refine Kv (T:=TT) (F:=upd H0 q0.id none) cf0 M3 func273 (by rfl) (by kernel_rfl) call273 ntmps273 (by rfl) (by rfl) ?_;intro E K hE hK hN;have hO:C1 Eq (upd H0 q0.id none) [ob q0 1 (V.int .u8) bF] H0:=C1.startO hk0;have hq0:Eu q0 (Ar.len bF):=ON hq0;cbv;refine A8 hE h (fun _ h=>?_) fun _ h=>?_
 ·cbv;refine A8 hE h (fun _ h=>?_) fun _ h=>?_
  ·cbv;refine A5 hE h (c291 N (wr .i64 bA)) (.refl _) fun r1 h=>?_;cbv;refine Ze hE (by decide) hO hq0 0 rfl h fun l3 q2 H hq2 hO h=>?_;cbv;cases h;exact hK q2 _ _ (HM hE hq2) (hO)
  cbv;cases h
 cbv;cases h
theorem c242 (N bF bA bD r)(h:X9 N bF bA bD=some r):Py prog 242 [vi bA,vi bD] 1 (lst (V.int .u8) bF) (lst (V.int .u8) r):=by
 unfold X9 at h
 intro H0 q0 hq0 hk0;refine Kv (T:=TT) (F:=upd H0 q0.id none) cf0 M3 func242 (by rfl) (by kernel_rfl) call242 ntmps242 (by rfl) (by rfl) ?_;intro E K hE hK hN;have hO:C1 Eq (upd H0 q0.id none) [ob q0 1 (V.int .u8) bF] H0:=C1.startO hk0;have hq0:Eu q0 (Ar.len bF):=ON hq0;cbv;refine A8 hE h (fun _ h=>?_) fun _ h=>?_
 ·cbv;refine FX (f:=(V.int .u8)) hE (fun _=>rfl) (by decide) hO hq0 0 rfl (m:=[45]) (GK (f:=(V.int .u8)) hE (fun _=>rfl) (.lstc (.refl _) (.lst0))) h fun l2 q1 H hq1 hO h=>?_;cbv;refine Hb hE (f:=(V.int .u8)) hO hq1 0 rfl h (c273 N l2 (Ar.neg .u64 (wr .u64 bA)) bD) (.refl _) fun l3 q4 H hq4 hO h=>?_;cbv;cases h;exact hK q4 _ _ (HM hE hq4) (hO)
 cbv;refine Hb hE (f:=(V.int .u8)) hO hq0 0 rfl h (c273 N bF (wr .u64 bA) bD) (.refl _) fun l5 q6 H hq6 hO h=>?_;cbv;cases h;exact hK q6 _ _ (HM hE hq6) (hO)
theorem c196 (N bF bA bD r)(h:G0 N bF bA bD=some r):Py prog 196 [vi bA,vi bD] 1 (lst (V.int .u8) bF) (lst (V.int .u8) r):=by
 unfold G0 at h
 intro H0 q0 hq0 hk0;refine Kv (T:=TT) (F:=upd H0 q0.id none) cf0 M3 func196 (by rfl) (by kernel_rfl) call196 ntmps196 (by rfl) (by rfl) ?_;intro E K hE hK hN;have hO:C1 Eq (upd H0 q0.id none) [ob q0 1 (V.int .u8) bF] H0:=C1.startO hk0;have hq0:Eu q0 (Ar.len bF):=ON hq0;cbv;refine Hb hE (f:=(V.int .u8)) hO hq0 0 rfl h (c242 N bF bA bD) (.refl _) fun l1 q2 H hq2 hO h=>?_;cbv;cases h;exact hK q2 _ _ (HM hE hq2) (hO)
def cf160 :Cf:=⟨[6000003],[(3000006,0),(3000006,3),(3000006,4),(3000006,8)],[],[2000006],[],[]⟩
set_option maxHeartbeats 2000000 in
theorem c160 (N aI r) (h:L9 N aI=some r):B4 prog 160 [sr eAl8 aI] (.str r):=by
 unfold L9 at h
 refine I4 cf160 func160 call160 ntmps160 ?_;intro E H0 K hE hK hO;cbv;refine SD hE (f:=(V.int .u8)) hO fun q1 H hq1 hO=>?_;cbv;refine D5 hE ?_;cbv;obtain⟨s4,hx,h⟩:=bind_some h;refine M8 cf160 hE M3 (γ:=OG) (fun s2 g=>[(3,.v (.own g.id g.lo g.n)),(6,.v (sr eAl8 aI)),fi 7 (Ar.len aI),fi 8 s2.1]) (fun s2 g H1=>Eu g (Ar.len s2.2)∧C1 Eq H0 [ob g 1 (V.int .u8) s2.2] H1) (fun x e l H1=>∃u1:OG,Eu u1 (Ar.len x)∧e= .exit 0∧l=[(3,.v (.own u1.id u1.lo u1.n))]∧C1 Eq H0 [ob u1 1 (V.int .u8) x] H1) (by kernel_rfl) ?_ q1 hx ?_ ?_ ?_
 ·rintro s2 q3 H o ⟨hq3,hO⟩ h;clear hx;cbv;refine A8 hE h (fun _ h=>?_) fun _ h=>?_
  ·cbv;refine B8 hE eAn4 h fun x5 h=>?_;cbv;refine Hb hE (f:=(V.int .u8)) hO hq3 0 rfl h (c196 N s2.2 x5.cR 10) (.refl _) fun l6 q7 H hq7 hO h=>?_;cbv;obtain⟨s8,hx,h⟩:=bind_some h;refine S3 cf160 hE M3 (fun e l H1=>∃u1:OG,Eu u1 (Ar.len s8)∧e= .normal∧l=[(3,.v (.own u1.id u1.lo u1.n)),(6,.v (sr eAl8 aI)),fi 7 (Ar.len aI),fi 8 s2.1]∧C1 Eq H0 [ob u1 1 (V.int .u8) s8] H1) (by kernel_rfl) ?_ ?_
   ·clear h;have h:=hx;clear hx;cbv
    repeat' first|refine And.intro ?_ ?_|(refine FX (f:=(V.int .u8)) hE (fun _=>rfl) (by decide) hO hq7 0 rfl (m:=[64]) (GK (f:=(V.int .u8)) hE (fun _=>rfl) (.lstc (.refl _) (.lst0))) h fun l90 q89 H hq89 hO h=>?_;cbv)|(refine Hb hE (f:=(V.int .u8)) hO hq89 0 rfl h (c196 N l90 x5.at_ 10) (.refl _) fun l209 q210 H hq210 hO h=>?_;cbv)|(refine FX (f:=(V.int .u8)) hE (fun _=>rfl) (by decide) hO hq210 0 rfl (m:=[32]) (GK (f:=(V.int .u8)) hE (fun _=>rfl) (.lstc (.refl _) (.lst0))) h fun l290 q289 H hq289 hO h=>?_;cbv)|(have h:=G2 h;subst h;exact⟨_,⟨q289,hq289,rfl,rfl,hO⟩,.e4 .z,rfl⟩)
   clear hx;rintro e l H ⟨q409,hq409,rfl,rfl,hO⟩;cbv;cases h;exact⟨_,q409,rfl,.e4 .z,rfl,hq409,hO⟩
  cbv;cases h;exact⟨_,_,rfl,⟨q3,hq3,rfl,rfl,hO⟩,.e rfl .z,rfl⟩
 ·exact .e4 .z
 ·exact⟨hq1,hO⟩
 clear hx;rintro e l H ⟨q410,hq410,rfl,rfl,hO⟩;cbv;refine Ad7 (e:=5) hE (by kernel_rfl) (by kernel_rfl) (by kernel_rfl) hO hq410 0 rfl h fun r411 h=>?_;cbv;cases h;exact hK hO (.refl _)
def cf307 :Cf:=⟨[2],[],[],[],[],[]⟩
theorem c307 (N aX r)(h:O7 N aX=some r):B4 prog 307 [vi aX] ((C6 r)):=by
 unfold O7 at h
 refine I4 cf307 func307 call307 ntmps307 ?_;intro E H0 K hE hK hO;cbv;refine C5 hE hO fun b1 H hO=>?_;cbv;refine A9 hE hO 0 rfl rfl fun H hO=>?_;cbv;refine B2 hE hO 0 rfl ?_;cbv;cases h;exact hK hO (.refl _)
def cf308 :Cf:=⟨[5],[],[],[],[],[]⟩
theorem c308 (N:Nat)(aC:Int)(aD:Int)(bY:V)(aM:Int→Option A4)(cD:∀y1 q,aM y1=some q→X7 prog bY [vi y1] ((C6 q)))(r:A4)(h:AC N aC aD aM=some r):B4 prog 308 [vi aC,vi aD,.eref [bY] 0] ((C6 r)):=by
 unfold AC at h
 refine I4 cf308 func308 call308 ntmps308 ?_;intro E H0 K hE hK hO;cbv;refine C5 hE hO fun b1 H hO=>?_;cbv;refine AX hE (g:=fun r2=>(C6 r2)) h (fun r2 hx=>cD (Ar.ar .add .i64 aC aD) r2 hx) (.refl _) fun r2 h=>?_;cbv;refine A9 hE hO 0 rfl rfl fun H hO=>?_;cbv;refine B2 hE hO 0 rfl ?_;cbv;cases h;exact hK hO (.refl _)
def cf309 :Cf:=⟨[5],[],[],[],[],[]⟩
theorem c309 (N:Nat)(aC:Int)(aD:Int)(bY:V)(aM:Int→Option A4)(cD:∀y1 q,aM y1=some q→X7 prog bY [vi y1] ((C6 q)))(r:A4)(h:AB N aC aD aM=some r):B4 prog 309 [vi aC,vi aD,.eref [bY] 0] ((C6 r)):=by
 unfold AB at h
 refine I4 cf309 func309 call309 ntmps309 ?_;intro E H0 K hE hK hO;cbv;refine C5 hE hO fun b1 H hO=>?_;cbv;refine AX hE (g:=fun r2=>(C6 r2)) h (fun r2 hx=>cD (Ar.ar .sub .i64 aC aD) r2 hx) (.refl _) fun r2 h=>?_;cbv;refine A9 hE hO 0 rfl rfl fun H hO=>?_;cbv;refine B2 hE hO 0 rfl ?_;cbv;cases h;exact hK hO (.refl _)
def cf299 :Cf:=⟨[2,3],[],[],[],[],[]⟩
theorem c299 (N aD r)(h:FM N aD=some r):B4 prog 299 [.bool aD] ((C6 r)):=by
 unfold FM at h
 refine I4 cf299 func299 call299 ntmps299 ?_;intro E H0 K hE hK hO;cbv;refine C5 hE hO fun b1 H hO=>?_;cbv;refine C5 hE hO fun b2 H hO=>?_;cbv;refine A9 hE hO 0 rfl rfl fun H hO=>?_;cbv;refine A8 hE h (fun _ h=>?_) fun _ h=>?_
 ·cbv;refine A9 hE hO 0 rfl rfl fun H hO=>?_;cbv;refine B2 hE hO 0 rfl ?_;cbv;refine A9 hE hO 1 rfl rfl fun H hO=>?_;cbv;refine B2 hE hO 1 rfl ?_;cbv;cases h;exact hK hO (.refl _)
 cbv;refine B2 hE hO 0 rfl ?_;cbv;refine A9 hE hO 1 rfl rfl fun H hO=>?_;cbv;refine B2 hE hO 1 rfl ?_;cbv;cases h;exact hK hO (.refl _)
def cf285 :Cf:=⟨[2],[],[],[],[],[]⟩
theorem c285 (N aD r)(h:Y9 N aD=some r):B4 prog 285 [.bool aD] ((C6 r)):=by
 unfold Y9 at h
 refine I4 cf285 func285 call285 ntmps285 ?_;intro E H0 K hE hK hO;cbv;refine C5 hE hO fun b1 H hO=>?_;cbv;refine A5 hE h (c299 N aD) (.refl _) fun r2 h=>?_;cbv;refine A9 hE hO 0 rfl rfl fun H hO=>?_;cbv;refine B2 hE hO 0 rfl ?_;cbv;cases h;exact hK hO (.refl _)
def cf310 :Cf:=⟨[4],[],[],[],[],[]⟩
theorem c310 (N aC aD r)(h:AA N aC aD=some r):B4 prog 310 [vi aC,vi aD] ((C6 r)):=by
 unfold AA at h
 refine I4 cf310 func310 call310 ntmps310 ?_;intro E H0 K hE hK hO;cbv;refine C5 hE hO fun b1 H hO=>?_;cbv;refine A5 hE h (c285 N (Ar.cmp .lss aC aD)) (.refl _) fun r2 h=>?_;cbv;refine A9 hE hO 0 rfl rfl fun H hO=>?_;cbv;refine B2 hE hO 0 rfl ?_;cbv;cases h;exact hK hO (.refl _)
def cf311 :Cf:=⟨[4],[],[],[],[],[]⟩
theorem c311 (N aC aD r)(h:Az N aC aD=some r):B4 prog 311 [vi aC,vi aD] ((C6 r)):=by
 unfold Az at h
 refine I4 cf311 func311 call311 ntmps311 ?_;intro E H0 K hE hK hO;cbv;refine C5 hE hO fun b1 H hO=>?_;cbv;refine A5 hE h (c285 N (Ar.cmp .leq aC aD)) (.refl _) fun r2 h=>?_;cbv;refine A9 hE hO 0 rfl rfl fun H hO=>?_;cbv;refine B2 hE hO 0 rfl ?_;cbv;cases h;exact hK hO (.refl _)
def cf312 :Cf:=⟨[4],[],[],[],[],[]⟩
theorem c312 (N aC aD r)(h:Ay N aC aD=some r):B4 prog 312 [vi aC,vi aD] ((C6 r)):=by
 unfold Ay at h
 refine I4 cf312 func312 call312 ntmps312 ?_;intro E H0 K hE hK hO;cbv;refine C5 hE hO fun b1 H hO=>?_;cbv;refine A5 hE h (c285 N (an (Ar.cmp .eql aC 1) (Ar.cmp .eql aD 1))) (.refl _) fun r2 h=>?_;cbv;refine A9 hE hO 0 rfl rfl fun H hO=>?_;cbv;refine B2 hE hO 0 rfl ?_;cbv;cases h;exact hK hO (.refl _)
def cf313 :Cf:=⟨[4],[],[],[],[],[]⟩
theorem c313 (N aC aD r)(h:Ax N aC aD=some r):B4 prog 313 [vi aC,vi aD] ((C6 r)):=by
 unfold Ax at h
 refine I4 cf313 func313 call313 ntmps313 ?_;intro E H0 K hE hK hO;cbv;refine C5 hE hO fun b1 H hO=>?_;cbv;refine A5 hE h (c285 N (Ar.or (Ar.cmp .eql aC 1) (Ar.cmp .eql aD 1))) (.refl _) fun r2 h=>?_;cbv;refine A9 hE hO 0 rfl rfl fun H hO=>?_;cbv;refine B2 hE hO 0 rfl ?_;cbv;cases h;exact hK hO (.refl _)
def cf314 :Cf:=⟨[4],[],[],[],[],[]⟩
theorem c314 (N aC aJ r)(h:Aw N aC aJ=some r):B4 prog 314 [vi aC,vi aJ] ((C6 r)):=by
 unfold Aw at h
 refine I4 cf314 func314 call314 ntmps314 ?_;intro E H0 K hE hK hO;cbv;refine C5 hE hO fun b1 H hO=>?_;cbv;refine A5 hE h (c285 N (Ar.cmp .neq aC 1)) (.refl _) fun r2 h=>?_;cbv;refine A9 hE hO 0 rfl rfl fun H hO=>?_;cbv;refine B2 hE hO 0 rfl ?_;cbv;cases h;exact hK hO (.refl _)
theorem c297 (N r)(h:Gv N=some r):Tq prog 297 [] XP XO:=by
 unfold Gv at h
 refine Th (T:=TT) cf0 M3 func297 (by rfl) (by kernel_rfl) call297 ntmps297 (by rfl) (by rfl) ?_;intro E H0 K hE hK;have hO:C1 Eq H0 [] H0:=.start F4 rfl;cbv;refine Aj7 hE hO fun m1 H hO=>?_;cbv;refine IH hE (kt:=3) (et:=338) (by kernel_rfl) (by kernel_rfl) hO 0 rfl rfl fun H hO=>?_;cbv;refine IH hE (kt:=3) (et:=338) (by kernel_rfl) (by kernel_rfl) hO 0 rfl rfl fun H hO=>?_;cbv;refine IH hE (kt:=3) (et:=338) (by kernel_rfl) (by kernel_rfl) hO 0 rfl rfl fun H hO=>?_;cbv;refine IH hE (kt:=3) (et:=338) (by kernel_rfl) (by kernel_rfl) hO 0 rfl rfl fun H hO=>?_;cbv;refine IH hE (kt:=3) (et:=338) (by kernel_rfl) (by kernel_rfl) hO 0 rfl rfl fun H hO=>?_;cbv;refine IH hE (kt:=3) (et:=338) (by kernel_rfl) (by kernel_rfl) hO 0 rfl rfl fun H hO=>?_;cbv;refine IH hE (kt:=3) (et:=338) (by kernel_rfl) (by kernel_rfl) hO 0 rfl rfl fun H hO=>?_;cbv;exact hK _ _ 0 _ rfl hO
theorem c327 (N aP aH r)(h:M5 N aP aH=some r):B4 prog 327 [(AT aP),vi aH] (sr eAl9 r):=by
 unfold M5 at h
 refine I4 cf0 func327 call327 ntmps327 ?_;intro E H0 K hE hK hO;cbv;refine D5 hE ?_;cbv;refine A8 hE h (fun _ h=>?_) fun _ h=>?_
 ·cbv;cases h;exact hK hO (.lit _ (E6))
 cbv;refine B8 hE eAo2 h fun x1 h=>?_;cbv;cases h;exact hK hO (.refl _)
def cf329 :Cf:=⟨[4],[],[],[],[],[]⟩
theorem c329 (N aB aW r)(h:Ad N aB aW=some r):B4 prog 329 [(V7 aB),vi aW] (.tup [(C6 r.1),vi r.2]):=by
 unfold Ad at h
 refine I4 cf329 func329 call329 ntmps329 ?_;intro E H0 K hE hK hO;cbv;refine C5 hE hO fun b1 H hO=>?_;cbv;refine D5 hE ?_;cbv;refine A8 hE h (fun _ h=>?_) fun _ h=>?_
 ·cbv;refine A9 hE hO 0 rfl rfl fun H hO=>?_;cbv;refine B2 hE hO 0 rfl ?_;cbv;cases h;exact hK hO (.refl _)
 cbv;refine B8 hE eAm4 h fun x2 h=>?_;cbv;refine A9 hE hO 0 rfl rfl fun H hO=>?_;cbv;refine B2 hE hO 0 rfl ?_;cbv;cases h;exact hK hO (.refl _)
theorem c335 (N aQ r)(h:W1 N aQ=some r):B4 prog 335 [vi aQ] (.bool r):=by
 unfold W1 at h
 refine I4 cf0 func335 call335 ntmps335 ?_;intro E H0 K hE hK hO;cbv;cases h;exact hK hO (.refl _)
theorem c342 (N aQ aH r)(h:S5 N aQ aH=some r):B4 prog 342 [vi aQ,(C6 aH)] (.bool r):=by
 unfold S5 at h
 refine I4 cf0 func342 call342 ntmps342 ?_;intro E H0 K hE hK hO;cbv;cases h;exact hK hO (.refl _)
theorem c336 (N aQ aH r)(h:M9 N aQ aH=some r):B4 prog 336 [vi aQ,(C6 aH)] (vi r):=by
 unfold M9 at h
 refine I4 cf0 func336 call336 ntmps336 ?_;intro E H0 K hE hK hO;cbv;refine A5 hE h (c275 N aH) (.refl _) fun r1 h=>?_;cbv;refine A8 hE h (fun _ h=>?_) fun _ h=>?_
 ·cbv;cases h;exact hK hO (.refl _)
 cbv;refine A5 hE h (c342 N aQ aH) (.refl _) fun r2 h=>?_;cbv;refine A8 hE h (fun _ h=>?_) fun _ h=>?_
 ·cbv;cases h;exact hK hO (.refl _)
 cbv;cases h;exact hK hO (.refl _)
def cf337 :Cf:=⟨[3,6],[],[],[],[],[]⟩
theorem c337 (N:Nat) (cA:B9) (aF:List A4) (cE:V) (cB:B9→A4→Option B9) (cK:∀y1 y2 q,cB y1 y2=some q→X7 prog cE [(E8 y1),(C6 y2)] ((E8 q))) (r:B9) (h:G4 N cA aF cB=some r):B4 prog 337 [(E8 cA),sr eAm8 aF,cE] ((E8 r)):=by
 unfold G4 at h
 refine I4 cf337 func337 call337 ntmps337 ?_;intro E H0 K hE hK hO;cbv;refine C5 hE hO fun b1 H hO=>?_;cbv;refine C5 hE hO fun b2 H hO=>?_;cbv;refine D5 hE ?_;cbv;obtain⟨s4,hx,h⟩:=bind_some h;refine F2 cf337 hE M3 (fun s3=>[(2,.v (cE)),(3,.v (.ref b1 0)),(6,.v (.ref b2 0)),(9,.v (sr eAm8 aF)),fi 10 (Ar.len aF),fi 11 s3.1]) (fun(s3:Int×B9) H1=>C1 Eq H0 [cb b2 [vi 0,vi 0,vi 0,vi 0,.str (⟨#[]⟩)],cb b1 (An s3.2)] H1) (fun x e l H1=>e= .exit 0∧l=[(3,.v (.ref b1 0)),(6,.v (.ref b2 0))]∧C1 Eq H0 [cb b2 [vi 0,vi 0,vi 0,vi 0,.str (⟨#[]⟩)],cb b1 (An x)] H1) (by kernel_rfl) ?_ hx ?_ hO ?_
 ·intro s3 H o hO h;clear hx;cbv;refine A8 hE h (fun _ h=>?_) fun _ h=>?_
  ·cbv;refine B8 hE eAm4 h fun x5 h=>?_;cbv;refine B2 hE hO 1 rfl ?_;cbv;refine AX hE (g:=fun r6=>(E8 r6)) h (fun r6 hx=>cK s3.2 x5 r6 hx) (.refl _) fun r6 h=>?_;cbv;refine A9 hE hO 1 rfl rfl fun H hO=>?_;cbv;cases h;exact⟨_,rfl,.e2 (.e4 .z),rfl,hO⟩
  cbv;cases h;exact⟨_,_,rfl,⟨rfl,rfl,hO⟩,.e2 .z,rfl⟩
 ·exact .e2 (.e4 .z)
 clear hx;rintro e l H ⟨rfl,rfl,hO⟩;cbv;refine B2 hE hO 1 rfl ?_;cbv;refine A9 hE hO 0 rfl rfl fun H hO=>?_;cbv;refine B2 hE hO 0 rfl ?_;cbv;cases h;exact hK hO (.refl _)
def cf345 :Cf:=⟨[0],[],[],[],[],[]⟩
theorem c345 (N r)(h:Bk N=some r):B4 prog 345 [] ((C6 r)):=by
 unfold Bk at h
 refine I4 cf345 func345 call345 ntmps345 ?_;intro E H0 K hE hK hO;cbv;refine C5 hE hO fun b1 H hO=>?_;cbv;refine A9 hE hO 0 rfl rfl fun H hO=>?_;cbv;refine B2 hE hO 0 rfl ?_;cbv;cases h;exact hK hO (.refl _)
def cf346 :Cf:=⟨[2],[],[],[],[],[]⟩
theorem c346 (N bE aJ r)(h:Bj N bE aJ=some r):B4 prog 346 [.eref (N0 bE) 0,.eref (N0 aJ) 0] ((C6 r)):=by
 unfold Bj at h
 refine I4 cf346 func346 call346 ntmps346 ?_;intro E H0 K hE hK hO;cbv;refine C5 hE hO fun b1 H hO=>?_;cbv;refine A9 hE hO 0 rfl rfl fun H hO=>?_;cbv;refine B2 hE hO 0 rfl ?_;cbv;cases h;exact hK hO (.refl _)
def cf347 :Cf:=⟨[2],[],[],[],[],[]⟩
theorem c347 (N bE aJ r)(h:Bi N bE aJ=some r):B4 prog 347 [.eref (N0 bE) 0,.eref (N0 aJ) 0] ((C6 r)):=by
 unfold Bi at h
 refine I4 cf347 func347 call347 ntmps347 ?_;intro E H0 K hE hK hO;cbv;refine C5 hE hO fun b1 H hO=>?_;cbv;refine A9 hE hO 0 rfl rfl fun H hO=>?_;cbv;refine B2 hE hO 0 rfl ?_;cbv;cases h;exact hK hO (.refl _)
def cf348 :Cf:=⟨[2],[],[],[],[],[]⟩
theorem c348 (N bE aJ r)(h:Bh N bE aJ=some r):B4 prog 348 [.eref (N0 bE) 0,.eref (N0 aJ) 0] ((C6 r)):=by
 unfold Bh at h
 refine I4 cf348 func348 call348 ntmps348 ?_;intro E H0 K hE hK hO;cbv;refine C5 hE hO fun b1 H hO=>?_;cbv;refine A9 hE hO 0 rfl rfl fun H hO=>?_;cbv;refine B2 hE hO 0 rfl ?_;cbv;cases h;exact hK hO (.refl _)
def cf349 :Cf:=⟨[1],[],[],[],[],[]⟩
theorem c349 (N bE r)(h:Bg N bE=some r):B4 prog 349 [.eref (N0 bE) 0] ((C6 r)):=by
 unfold Bg at h
 refine I4 cf349 func349 call349 ntmps349 ?_;intro E H0 K hE hK hO;cbv;refine C5 hE hO fun b1 H hO=>?_;cbv;refine A9 hE hO 0 rfl rfl fun H hO=>?_;cbv;refine B2 hE hO 0 rfl ?_;cbv;cases h;exact hK hO (.refl _)
def cf350 :Cf:=⟨[1],[],[],[],[],[]⟩
theorem c350 (N bE r)(h:Bf N bE=some r):B4 prog 350 [.eref (N0 bE) 0] ((C6 r)):=by
 unfold Bf at h
 refine I4 cf350 func350 call350 ntmps350 ?_;intro E H0 K hE hK hO;cbv;refine C5 hE hO fun b1 H hO=>?_;cbv;refine A9 hE hO 0 rfl rfl fun H hO=>?_;cbv;refine B2 hE hO 0 rfl ?_;cbv;cases h;exact hK hO (.refl _)
def cf343 :Cf:=⟨[6],[],[],[],[],[]⟩
theorem c343 (N aQ aC aD r)(h:X2 N aQ aC aD=some r):B4 prog 343 [vi aQ,(C6 aC),(C6 aD)] ((C6 r)):=by
 unfold X2 at h
 refine I4 cf343 func343 call343 ntmps343 ?_;intro E H0 K hE hK hO;cbv;refine C5 hE hO fun b1 H hO=>?_;cbv;refine Zi hE [0,1,2,3,4,5] (by rfl) ?_;cbv;refine A8 hE h (fun _ h=>?_) fun _ h=>?_
 ·cbv;refine A5 hE h (c345 N) (.refl _) fun r2 h=>?_;cbv;refine A9 hE hO 0 rfl rfl fun H hO=>?_;cbv;refine B2 hE hO 0 rfl ?_;cbv;cases h;exact hK hO (.refl _)
 cbv;refine A8 hE h (fun _ h=>?_) fun _ h=>?_
 ·cbv;refine AX hE (g:=fun r3=>(C6 r3)) h (fun r3 hx=>B4.value (F:=[]) (C:=[.eref (N0 aC) 0,.eref (N0 aD) 0]) (c346 N aC aD r3 hx)) (.refl _) fun r3 h=>?_;cbv;refine A9 hE hO 0 rfl rfl fun H hO=>?_;cbv;refine B2 hE hO 0 rfl ?_;cbv;cases h;exact hK hO (.refl _)
 cbv;refine A8 hE h (fun _ h=>?_) fun _ h=>?_
 ·cbv;refine AX hE (g:=fun r4=>(C6 r4)) h (fun r4 hx=>B4.value (F:=[]) (C:=[.eref (N0 aC) 0,.eref (N0 aD) 0]) (c347 N aC aD r4 hx)) (.refl _) fun r4 h=>?_;cbv;refine A9 hE hO 0 rfl rfl fun H hO=>?_;cbv;refine B2 hE hO 0 rfl ?_;cbv;cases h;exact hK hO (.refl _)
 cbv;refine A8 hE h (fun _ h=>?_) fun _ h=>?_
 ·cbv;refine AX hE (g:=fun r5=>(C6 r5)) h (fun r5 hx=>B4.value (F:=[]) (C:=[.eref (N0 aC) 0,.eref (N0 aD) 0]) (c348 N aC aD r5 hx)) (.refl _) fun r5 h=>?_;cbv;refine A9 hE hO 0 rfl rfl fun H hO=>?_;cbv;refine B2 hE hO 0 rfl ?_;cbv;cases h;exact hK hO (.refl _)
 cbv;refine A8 hE h (fun _ h=>?_) fun _ h=>?_
 ·cbv;refine AX hE (g:=fun r6=>(C6 r6)) h (fun r6 hx=>B4.value (F:=[]) (C:=[.eref (N0 aC) 0]) (c349 N aC r6 hx)) (.refl _) fun r6 h=>?_;cbv;refine A9 hE hO 0 rfl rfl fun H hO=>?_;cbv;refine B2 hE hO 0 rfl ?_;cbv;cases h;exact hK hO (.refl _)
 cbv;refine A8 hE h (fun _ h=>?_) fun _ h=>?_
 ·cbv;refine AX hE (g:=fun r7=>(C6 r7)) h (fun r7 hx=>B4.value (F:=[]) (C:=[.eref (N0 aD) 0]) (c350 N aD r7 hx)) (.refl _) fun r7 h=>?_;cbv;refine A9 hE hO 0 rfl rfl fun H hO=>?_;cbv;refine B2 hE hO 0 rfl ?_;cbv;cases h;exact hK hO (.refl _)
 cbv;cases h
def cf339 :Cf:=⟨[4],[(5,14)],[],[],[],[]⟩
theorem c339 (N aC aD r)(h:Bb N aC aD=some r):B4 prog 339 [(E8 aC),(E8 aD)] ((E8 r)):=by
 unfold Bb at h
 refine I4 cf339 func339 call339 ntmps339 ?_;intro E H0 K hE hK hO;cbv;refine C5 hE hO fun b1 H hO=>?_;cbv;refine A8 hE h (fun _ h=>?_) fun _ h=>?_
 ·cbv;refine A9 hE hO 0 rfl rfl fun H hO=>?_;cbv;refine B2 hE hO 0 rfl ?_;cbv;cases h;exact hK hO (.refl _)
 cbv;refine A8 hE h (fun _ h=>?_) fun _ h=>?_
 ·cbv;refine A9 hE hO 0 rfl rfl fun H hO=>?_;cbv;refine B2 hE hO 0 rfl ?_;cbv;cases h;exact hK hO (.refl _)
 cbv;refine C9 hE (g:=fun r2=>(C6 r2)) h (c343 N aC.Kind aC.Value aD.Value) (.refl _) fun r2 h=>?_;cbv;refine A9 hE hO 0 rfl rfl fun H hO=>?_;cbv;refine B2 hE hO 0 rfl ?_;cbv;cases h;exact hK hO (.refl _)
def cf340 :Cf:=⟨[4],[],[],[],[],[]⟩
theorem c340 (N aQ aH r)(h:Z0 N aQ aH=some r):B4 prog 340 [vi aQ,(C6 aH)] ((C6 r)):=by
 unfold Z0 at h
 refine I4 cf340 func340 call340 ntmps340 ?_;intro E H0 K hE hK hO;cbv;refine C5 hE hO fun b1 H hO=>?_;cbv;refine A8 hE h (fun _ h=>?_) fun _ h=>?_
 ·cbv;refine A9 hE hO 0 rfl rfl fun H hO=>?_;cbv;refine B2 hE hO 0 rfl ?_;cbv;cases h;exact hK hO (.refl _)
 cbv;refine A9 hE hO 0 rfl rfl fun H hO=>?_;cbv;refine B2 hE hO 0 rfl ?_;cbv;cases h;exact hK hO (.refl _)
def cf338 :Cf:=⟨[5],[(1,6)],[],[],[],[]⟩
theorem c338 (N aC aH aM r)(h:M7 N aC aH aM=some r):B4 prog 338 [(E8 aC),(C6 aH),.eref [vi aM] 0] ((E8 r)):=by
 unfold M7 at h
 refine I4 cf338 func338 call338 ntmps338 ?_;intro E H0 K hE hK hO;cbv;refine C5 hE hO fun b1 H hO=>?_;cbv;refine C9 hE (g:=fun r2=>(C6 r2)) h (c340 N aM aH) (.refl _) fun r2 h=>?_;cbv;refine A5 hE h (c339 N aC (⟨aM,1,r2⟩:B9)) (.refl _) fun r3 h=>?_;cbv;refine A9 hE hO 0 rfl rfl fun H hO=>?_;cbv;refine B2 hE hO 0 rfl ?_;cbv;cases h;exact hK hO (.refl _)
theorem c344 (N aC r) (h:Ak N aC=some r):B4 prog 344 [(E8 aC)] (vi r):=by
 unfold Ak at h
 refine I4 cf0 func344 call344 ntmps344 ?_;intro E H0 K hE hK hO;cbv;refine A5 hE h (c335 N aC.Kind) (.refl _) fun r1 h=>?_;cbv;refine A8 hE h (fun _ h=>?_) fun _ h=>?_
 ·cbv;cases h;exact hK hO (.refl _)
 cbv;refine A8 hE h (fun _ h=>?_) fun _ h=>?_
 ·cbv;cases h;exact hK hO (.refl _)
 cbv;refine A8 hE h (fun _ h=>?_) fun _ h=>?_
 ·cbv;refine A8 hE h (fun _ h=>?_) fun _ h=>?_
  ·cbv;cases h;exact hK hO (.refl _)
  cbv;cases h;exact hK hO (.refl _)
 cbv;refine A8 hE h (fun _ h=>?_) fun _ h=>?_
 ·cbv;refine A8 hE h (fun _ h=>?_) fun _ h=>?_
  ·cbv;cases h;exact hK hO (.refl _)
  cbv;cases h;exact hK hO (.refl _)
 cbv;refine A5 hE h (c275 N aC.Value) (.refl _) fun r2 h=>?_;cbv;refine A8 hE h (fun _ h=>?_) fun _ h=>?_
 ·cbv;refine A5 hE h (c342 N aC.Kind aC.Value) (.refl _) fun r3 h=>?_;cbv;refine A8 hE h (fun _ h=>?_) fun _ h=>?_
  ·cbv;cases h;exact hK hO (.refl _)
  cbv;cases h;exact hK hO (.refl _)
 cbv;cases h;exact hK hO (.refl _)
def cf341 :Cf:=⟨[4],[],[],[],[],[]⟩
theorem c341 (N aC aY r)(h:Bc N aC aY=some r):B4 prog 341 [(E8 aC),(C6 aY)] (.tup [(C6 r.1),vi r.2]):=by
 unfold Bc at h
 refine I4 cf341 func341 call341 ntmps341 ?_;intro E H0 K hE hK hO;cbv;refine C5 hE hO fun b1 H hO=>?_;cbv;refine A5 hE h (c344 N aC) (.refl _) fun r2 h=>?_;cbv;refine A8 hE h (fun _ h=>?_) fun _ h=>?_
 ·cbv;refine A9 hE hO 0 rfl rfl fun H hO=>?_;cbv;refine B2 hE hO 0 rfl ?_;cbv;cases h;exact hK hO (.refl _)
 cbv;refine A5 hE h (c336 N aC.Kind aY) (.refl _) fun r3 h=>?_;cbv;refine A8 hE h (fun _ h=>?_) fun _ h=>?_
 ·cbv;refine A9 hE hO 0 rfl rfl fun H hO=>?_;cbv;refine B2 hE hO 0 rfl ?_;cbv;cases h;exact hK hO (.refl _)
 cbv;refine A8 hE h (fun _ h=>?_) fun _ h=>?_
 ·cbv;refine A9 hE hO 0 rfl rfl fun H hO=>?_;cbv;refine B2 hE hO 0 rfl ?_;cbv;cases h;exact hK hO (.refl _)
 cbv;refine A8 hE h (fun _ h=>?_) fun _ h=>?_
 ·cbv;refine A9 hE hO 0 rfl rfl fun H hO=>?_;cbv;refine B2 hE hO 0 rfl ?_;cbv;cases h;exact hK hO (.refl _)
 cbv;refine A9 hE hO 0 rfl rfl fun H hO=>?_;cbv;refine B2 hE hO 0 rfl ?_;cbv;cases h;exact hK hO (.refl _)
def cf333 :Cf:=⟨[6],[],[],[],[],[]⟩
theorem c333 (N aQ aF aY r) (h:Ci N aQ aF aY=some r):B4 prog 333 [vi aQ,sr eAm8 aF,(C6 aY)] (.tup [(C6 r.1),vi r.2]):=by
 unfold Ci at h
 refine I4 cf333 func333 call333 ntmps333 ?_;intro E H0 K hE hK hO;cbv;refine C5 hE hO fun b1 H hO=>?_;cbv;refine A5 hE h (c335 N aQ) (.refl _) fun r2 h=>?_;cbv;refine A8 hE h (fun _ h=>?_) fun _ h=>?_
 ·cbv;refine A9 hE hO 0 rfl rfl fun H hO=>?_;cbv;refine B2 hE hO 0 rfl ?_;cbv;cases h;exact hK hO (.refl _)
 cbv;refine D5 hE ?_;cbv;refine A8 hE h (fun _ h=>?_) fun _ h=>?_
 ·cbv;refine A9 hE hO 0 rfl rfl fun H hO=>?_;cbv;refine B2 hE hO 0 rfl ?_;cbv;cases h;exact hK hO (.refl _)
 cbv;refine D5 hE ?_;cbv;obtain⟨s4,hx,h⟩:=bind_some h;refine F2 cf333 hE M3 (fun s3=>[(1,.v (sr eAm8 aF)),(3,.v (.eref [vi aQ] 0)),(5,.v (.eref (N0 aY) 0)),(6,.v (.ref b1 0)),(22,.v (sr eAm8 aF)),fi 23 (Ar.len aF),fi 24 s3]) (fun s3 H1=>C1 Eq H0 [cb b1 [vi 0,vi 0,.str (⟨#[]⟩)]] H1) (fun x e l H1=>match(generalizing:=false) x with| .inl y=>e= .exit 1∧l=[(1,.v (sr eAm8 aF)),(3,.v (.eref [vi aQ] 0)),(5,.v (.eref (N0 aY) 0)),(6,.v (.ref b1 0))]∧C1 Eq H0 [cb b1 [vi 0,vi 0,.str (⟨#[]⟩)]] H1| .inr y=>e= .ret∧l=[(6,.v (.ref b1 0)),fi 7 y]∧C1 Eq H0 [cb b1 [vi 0,vi 0,.str (⟨#[]⟩)]] H1) (by kernel_rfl) ?_ hx ?_ hO ?_
 ·intro s3 H o hO h;clear hx;cbv;refine A8 hE h (fun _ h=>?_) fun _ h=>?_
  ·cbv;refine B8 hE eAm4 h fun x5 h=>?_;cbv;refine A5 hE h (c336 N aQ x5) (.refl _) fun r6 h=>?_;cbv;refine A8 hE h (fun _ h=>?_) fun _ h=>?_
   ·cbv;refine A9 hE hO 0 rfl rfl fun H hO=>?_;cbv;cases h;exact⟨_,_,rfl,⟨rfl,rfl,hO⟩,.e2 .z,rfl⟩
   cbv;cases h;exact⟨_,rfl,.e rfl (.e2 (.e4 .z)),rfl,hO⟩
  cbv;cases h;exact⟨_,_,rfl,⟨rfl,rfl,hO⟩,.e4 .z,rfl⟩
 ·exact .e rfl (.e2 (.e4 .z))
 clear hx
 rcases s4 with y7|y10
 ·rintro e l H ⟨rfl,rfl,hO⟩;cbv;refine A5 hE (g:=fun r8=>(E8 r8)) h (fun r8 hx=>c337 N (⟨aQ,0,(⟨0,0,⟨#[]⟩⟩:A4)⟩:B9) aF (.func (.func 338) [] [.eref [vi aQ] 0]) (fun y1 y2=>M7 N y1 y2 aQ) (fun y1 y2 r hx=>B4.value (F:=[]) (C:=[.eref [vi aQ] 0]) (c338 N y1 y2 aQ r hx)) r8 hx) (.refl _) fun r8 h=>?_;cbv;refine A5 hE h (c341 N r8 aY) (.refl _) fun r9 h=>?_;cbv;refine A9 hE hO 0 rfl rfl fun H hO=>?_;cbv;refine B2 hE hO 0 rfl ?_;cbv;cases h;exact hK hO (.refl _)
 rintro e l H ⟨rfl,rfl,hO⟩;cbv;refine B2 hE hO 0 rfl ?_;cbv;cases h;exact hK hO (.refl _)
def cf328 :Cf:=⟨[4],[],[],[],[],[]⟩
theorem c328 (N aP aB r) (h:R5 N aP aB=some r):B4 prog 328 [(AT aP),(I0 aB)] (.tup [(C6 r.1),vi r.2]):=by
 unfold R5 at h
 refine I4 cf328 func328 call328 ntmps328 ?_;intro E H0 K hE hK hO;cbv;refine C5 hE hO fun b1 H hO=>?_;cbv;refine A5 hE h (c327 N aP aB.Var) (.refl _) fun r2 h=>?_;cbv;refine D5 hE ?_;cbv;replace hO:=hO.tl0 (t:=.nil) rfl;obtain⟨s5,hx,h⟩:=bind_some h;refine M8 cf328 hE M3 (γ:=D1) (fun s3 g=>[(3,.v (.eref (Af aB) 0)),(4,.v (.ref b1 0)),(6,.v (.sl (lst eAm8 s3.1) g)),(14,.v (sr eAl9 r2)),fi 15 (Ar.len r2),fi 16 s3.2]) (fun s3 g H1=>K8 g∧C1 Eq H0 [.tl g,cb b1 [vi 0,vi 0,.str (⟨#[]⟩)]] H1) (fun x e l H1=>match(generalizing:=false) x with| .inl y=>∃u1:D1,K8 u1∧e= .exit 0∧l=[(3,.v (.eref (Af aB) 0)),(4,.v (.ref b1 0)),(6,.v (.sl (lst eAm8 y) u1))]∧C1 Eq H0 [.tl u1,cb b1 [vi 0,vi 0,.str (⟨#[]⟩)]] H1| .inr y=>∃u1:D1,K8 u1∧e= .ret∧l=[(4,.v (.ref b1 0)),fi 5 y]∧C1 Eq H0 [.tl u1,cb b1 [vi 0,vi 0,.str (⟨#[]⟩)]] H1) (by kernel_rfl) ?_ .nil hx ?_ ?_ ?_
 ·rintro s3 t4 H o ⟨ht4,hO⟩ h;clear hx;cbv;refine A8 hE h (fun _ h=>?_) fun _ h=>?_
  ·cbv;refine B8 hE eAm5 h fun x6 h=>?_;cbv;refine A5 hE h (c329 N x6 aB.Field) (.refl _) fun r7 h=>?_;cbv;refine A8 hE h (fun _ h=>?_) fun _ h=>?_
   ·cbv;refine A9 hE hO 1 rfl rfl fun H hO=>?_;cbv;cases h;exact⟨_,_,rfl,⟨t4,ht4,rfl,rfl,hO⟩,.e2 .z,rfl⟩
   cbv;refine AO (f:=eAm8) hE HC (by decide) hO 0 rfl ht4 (l:=s3.1) (m:=[r7.1]) (.refl _) (.lstc (.eq (eAm4 r7.1) (.refl _)) (.lst0)) h fun l9 t8 H hO ht8 h=>?_;cbv;cases h;exact⟨_,t8,rfl,.e2 (.e4 .z),rfl,ht8,hO⟩
  cbv;cases h;exact⟨_,_,rfl,⟨t4,ht4,rfl,rfl,hO⟩,.e rfl (.e2 .z),rfl⟩
 ·exact .e2 (.v (.slt _ (.lst0)) (.e rfl (.e rfl (.e rfl (.z)))))
 ·exact⟨trivial,hO⟩
 clear hx
 rcases s5 with y10|y13
 ·rintro e l H ⟨t11,ht11,rfl,rfl,hO⟩;cbv;refine A5 hE h (c333 N aB.Kind y10 aB.Value) (.cons (.refl _) (.cons (.ro _ _) (.refl _))) fun r12 h=>?_;cbv;refine A9 hE hO 1 rfl rfl fun H hO=>?_;cbv;refine B2 hE hO 1 rfl ?_;cbv;cases h;exact hK hO (.refl _)
 rintro e l H ⟨t14,ht14,rfl,rfl,hO⟩;cbv;refine B2 hE hO 1 rfl ?_;cbv;cases h;exact hK hO (.refl _)
def cf315 :Cf:=⟨[4,7],[],[(38,12),(63,19)],[],[],[]⟩
theorem c315 (N aP aB r) (h:T3 N aP aB=some r):B4 prog 315 [(AT aP),(I0 aB)] (.tup [(C6 r.1),vi r.2]):=by
 unfold T3 at h
 refine I4 cf315 func315 call315 ntmps315 ?_;intro E H0 K hE hK hO;cbv;refine C5 hE hO fun b1 H hO=>?_;cbv;refine A5 hE h (c327 N aP aB.Var) (.refl _) fun r2 h=>?_;cbv;refine A8 hE h (fun _ h=>?_) fun _ h=>?_
 ·cbv;refine A9 hE hO 0 rfl rfl fun H hO=>?_;cbv;refine B2 hE hO 0 rfl ?_;cbv;cases h;exact hK hO (.refl _)
 cbv;refine A8 hE h (fun _ h=>?_) fun _ h=>?_
 ·cbv;refine D5 hE ?_;cbv;refine A9 hE hO 0 rfl rfl fun H hO=>?_;cbv;refine B2 hE hO 0 rfl ?_;cbv;cases h;exact hK hO (.refl _)
 cbv;refine A8 hE h (fun _ h=>?_) fun _ h=>?_
 ·cbv;refine A5 hE h (c328 N aP aB) (.refl _) fun r3 h=>?_;cbv;refine A9 hE hO 0 rfl rfl fun H hO=>?_;cbv;refine B2 hE hO 0 rfl ?_;cbv;cases h;exact hK hO (.refl _)
 cbv;refine C5 hE hO fun b4 H hO=>?_;cbv;refine A9 hE hO 0 rfl rfl fun H hO=>?_;cbv;obtain⟨s5,hx,h⟩:=bind_some h;refine S3 cf315 hE M3 (fun e l H1=>match(generalizing:=false) s5 with| .inl y=>e= .normal∧l=[(3,.v (.eref (Af aB) 0)),(4,.v (.ref b1 0)),(7,.v (.ref b4 0))]∧C1 Eq H0 [cb b4 (JM y),cb b1 [vi 0,vi 0,.str (⟨#[]⟩)]] H1| .inr y=>e= .ret∧l=[(4,.v (.ref b1 0)),fi 5 10]∧C1 Eq H0 [cb b4 (JM aP.event),cb b1 [vi 0,vi 0,.str (⟨#[]⟩)]] H1) (by kernel_rfl) ?_ ?_
 ·clear h;have h:=hx;clear hx;cbv;refine A8 hE h (fun _ h=>?_) fun _ h=>?_
  ·cbv;refine D5 hE ?_;cbv;refine A8 hE h (fun _ h=>?_) fun _ h=>?_
   ·cbv;refine A9 hE hO 1 rfl rfl fun H hO=>?_;cbv;cases h;exact⟨_,⟨rfl,rfl,hO⟩,.e2 .z,rfl⟩
   cbv;refine D5 hE ?_;cbv;refine B8 hE eAm5 h fun x6 h=>?_;cbv;refine A9 hE hO 0 rfl rfl fun H hO=>?_;cbv;cases h;exact⟨_,⟨rfl,rfl,hO⟩,.e rfl (.e2 .z),rfl⟩
  cbv;cases h;exact⟨_,⟨rfl,rfl,hO⟩,.e rfl (.e2 .z),rfl⟩
 clear hx
 rcases s5 with y7|y11
 ·rintro e l H ⟨rfl,rfl,hO⟩;cbv;refine A8 hE h (fun _ h=>?_) fun _ h=>?_
  ·cbv;refine B2 hE hO 0 rfl ?_;cbv;refine A9 hE hO 1 rfl rfl fun H hO=>?_;cbv;refine B2 hE hO 1 rfl ?_;cbv;cases h;exact hK hO (.refl _)
  cbv;refine B2 hE hO 0 rfl ?_;cbv;refine A5 hE h (c329 N y7 aB.Field) (.refl _) fun r8 h=>?_;cbv;obtain⟨s9,hx,h⟩:=bind_some h;refine S3 cf315 hE M3 (fun e l H1=>e= .normal∧l=[(4,.v (.ref b1 0)),(8,.v (.eref (N0 r8.1) 0)),fi 9 s9]∧C1 Eq H0 [cb b4 (JM y7),cb b1 [vi 0,vi 0,.str (⟨#[]⟩)]] H1) (by kernel_rfl) ?_ ?_
  ·clear h;have h:=hx;clear hx;cbv;refine A8 hE h (fun _ h=>?_) fun _ h=>?_
   ·cbv;refine A5 hE h (c275 N r8.1) (.refl _) fun r10 h=>?_;cbv;cases h;exact⟨_,⟨rfl,rfl,hO⟩,.e rfl (.e2 .z),rfl⟩
   cbv;cases h;exact⟨_,⟨rfl,rfl,hO⟩,.e rfl (.e2 .z),rfl⟩
  clear hx;rintro e l H ⟨rfl,rfl,hO⟩;cbv;refine A8 hE h (fun _ h=>?_) fun _ h=>?_
  ·cbv;refine A9 hE hO 1 rfl rfl fun H hO=>?_;cbv;refine B2 hE hO 1 rfl ?_;cbv;cases h;exact hK hO (.refl _)
  cbv;refine A9 hE hO 1 rfl rfl fun H hO=>?_;cbv;refine B2 hE hO 1 rfl ?_;cbv;cases h;exact hK hO (.refl _)
 rintro e l H ⟨rfl,rfl,hO⟩;cbv;refine B2 hE hO 1 rfl ?_;cbv;cases h;exact hK hO (.refl _)
def cf316 :Cf:=⟨[],[],[(15,8),(22,13)],[],[],[]⟩
theorem c316 (N aL bB r) (h:Bt N aL bB=some r):B4 prog 316 [vi aL,sr (V.int .i64) bB] (vi r):=by
 unfold Bt at h
 refine I4 cf316 func316 call316 ntmps316 ?_;intro E H0 K hE hK hO;cbv;refine D5 hE ?_;cbv;obtain⟨s2,hx,h⟩:=bind_some h;refine F2 cf316 hE M3 (fun s1=>[fi 0 aL,(1,.v (sr (V.int .i64) bB)),(8,.v (sr (V.int .i64) bB)),fi 9 (Ar.len bB),fi 10 s1]) (fun s1 H1=>C1 Eq H0 [] H1) (fun x e l H1=>match(generalizing:=false) x with| .inl y=>e= .exit 0∧l=[]∧C1 Eq H0 [] H1| .inr y=>e= .ret∧l=[fi 4 9]∧C1 Eq H0 [] H1) (by kernel_rfl) ?_ hx ?_ hO ?_
 ·intro s1 H o hO h;clear hx;cbv;refine A8 hE h (fun _ h=>?_) fun _ h=>?_
  ·cbv;refine B8 hE (fun _=>rfl) h fun x3 h=>?_;cbv;obtain⟨s4,hx,h⟩:=bind_some h;refine S3 cf316 hE M3 (fun e l H1=>e= .normal∧l=[fi 0 aL,(1,.v (sr (V.int .i64) bB)),fi 6 x3,(7,.b true),(8,.v (sr (V.int .i64) bB)),fi 9 (Ar.len bB),fi 10 s1,fi 14 aL,(15,.v (.bool s4))]∧C1 Eq H0 [] H1) (by kernel_rfl) ?_ ?_
   ·clear h;have h:=hx;clear hx;cbv;refine A8 hE h (fun _ h=>?_) fun _ h=>?_
    ·cbv;cases h;exact⟨_,⟨rfl,rfl,hO⟩,.e rfl (.e2 (.b rfl (.e rfl (.e rfl (.e rfl (.e rfl (.e rfl (.z)))))))),rfl⟩
    cbv;refine A8 hE h (fun _ h=>?_) fun _ h=>?_
    ·cbv;cases h;exact⟨_,⟨rfl,rfl,hO⟩,.e rfl (.e2 (.b rfl (.e rfl (.e rfl (.e rfl (.e rfl (.e rfl (.z)))))))),rfl⟩
    cbv;refine A8 hE h (fun _ h=>?_) fun _ h=>?_
    ·cbv;cases h;exact⟨_,⟨rfl,rfl,hO⟩,.e rfl (.e2 (.b rfl (.e rfl (.e rfl (.e rfl (.e rfl (.e rfl (.z)))))))),rfl⟩
    cbv;cases h;exact⟨_,⟨rfl,rfl,hO⟩,.e rfl (.e2 (.b rfl (.e rfl (.e rfl (.e rfl (.e rfl (.e rfl (.z)))))))),rfl⟩
   clear hx;rintro e l H ⟨rfl,rfl,hO⟩;cbv;refine A8 hE h (fun _ h=>?_) fun _ h=>?_
   ·cbv;refine A8 hE h (fun _ h=>?_) fun _ h=>?_
    ·cbv;cases h;exact⟨_,_,rfl,⟨rfl,rfl,hO⟩,.e rfl .z,rfl⟩
    cbv;cases h;exact⟨_,rfl,.e rfl (.e4 .z),rfl,hO⟩
   cbv;obtain⟨s5,hx,h⟩:=bind_some h;refine S3 cf316 hE M3 (fun e l H1=>e= .normal∧l=[fi 0 aL,(1,.v (sr (V.int .i64) bB)),fi 6 x3,(7,.b true),(8,.v (sr (V.int .i64) bB)),fi 9 (Ar.len bB),fi 10 s1,fi 14 aL,(22,.v (.bool s5))]∧C1 Eq H0 [] H1) (by kernel_rfl) ?_ ?_
   ·clear h;have h:=hx;clear hx;cbv;refine A8 hE h (fun _ h=>?_) fun _ h=>?_
    ·cbv;cases h;exact⟨_,⟨rfl,rfl,hO⟩,.e rfl (.e2 (.b rfl (.e rfl (.e rfl (.e rfl (.e rfl (.e rfl (.z)))))))),rfl⟩
    cbv;refine A8 hE h (fun _ h=>?_) fun _ h=>?_
    ·cbv;cases h;exact⟨_,⟨rfl,rfl,hO⟩,.e rfl (.e2 (.b rfl (.e rfl (.e rfl (.e rfl (.e rfl (.e rfl (.z)))))))),rfl⟩
    cbv;cases h;exact⟨_,⟨rfl,rfl,hO⟩,.e rfl (.e2 (.b rfl (.e rfl (.e rfl (.e rfl (.e rfl (.e rfl (.z)))))))),rfl⟩
   clear hx;rintro e l H ⟨rfl,rfl,hO⟩;cbv;refine A8 hE h (fun _ h=>?_) fun _ h=>?_
   ·cbv;refine A8 hE h (fun _ h=>?_) fun _ h=>?_
    ·cbv;cases h;exact⟨_,_,rfl,⟨rfl,rfl,hO⟩,.e rfl .z,rfl⟩
    cbv;cases h;exact⟨_,rfl,.e rfl (.e4 .z),rfl,hO⟩
   cbv;refine A8 hE h (fun _ h=>?_) fun _ h=>?_
   ·cbv;refine B8 hE (fun _=>rfl) h fun x6 h=>?_;cbv;refine A8 hE h (fun _ h=>?_) fun _ h=>?_
    ·cbv;cases h;exact⟨_,_,rfl,⟨rfl,rfl,hO⟩,.e rfl .z,rfl⟩
    cbv;cases h;exact⟨_,rfl,.e rfl (.e4 .z),rfl,hO⟩
   cbv;cases h;exact⟨_,rfl,.e rfl (.e4 .z),rfl,hO⟩
  cbv;cases h;exact⟨_,_,rfl,⟨rfl,rfl,hO⟩,.z,rfl⟩
 ·exact .e rfl (.e4 .z)
 clear hx
 rcases s2 with y7|y8
 ·rintro e l H ⟨rfl,rfl,hO⟩;cbv;cases h;exact hK hO (.refl _)
 rintro e l H ⟨rfl,rfl,hO⟩;cbv;cases h;exact hK hO (.refl _)
end Go.Ab
namespace Go.Ab
open Go.RowKit Go.Proofs Go.Proofs.Tryz I7
variable [Ar][I7]
set_option maxRecDepth 100000
def cf298 :Cf:=⟨[4,3000042,8000042,9000042],[(11,8),(17,6),(18,16)],[],[],[],[]⟩
theorem c298 (N:Nat):∀n aP aB r,I1 N n aP aB=some r→B4 prog 298 [(AT aP),(I0 aB)] (.tup [(C6 r.1),vi r.2]):=by
 intro n
 induction n with
 |zero=>intro aP aB r h;cases h
 |succ n ih=>
 intro aP aB r h
 unfold I1 at h
 refine I4 cf298 func298 call298 ntmps298 ?_;intro E H0 K hE hK hO;cbv;refine C5 hE hO fun b1 H hO=>?_;cbv;refine D5 hE ?_;cbv;refine A8 hE h (fun _ h=>?_) fun _ h=>?_
 ·cbv;refine A5 hE h (c315 N aP aB) (.refl _) fun r2 h=>?_;cbv;refine A9 hE hO 0 rfl rfl fun H hO=>?_;cbv;refine B2 hE hO 0 rfl ?_;cbv;cases h;exact hK hO (.refl _)
 cbv;refine D5 hE ?_;cbv;replace hO:=hO.tl0 (t:=.nil) rfl;replace hO:=hO.tl0 (t:=.nil) rfl;obtain⟨s6,hx,h⟩:=bind_some h;refine M8 cf298 hE M3 (γ:=D1×D1) (fun s3 g=>[(2,.v (.eref (CC aP) 0)),(3,.v (.eref (Af aB) 0)),(4,.v (.ref b1 0)),(6,.v (.sl (lst eAm8 s3.1) g.2)),(7,.v (.sl (lst (V.int .i64) s3.2.1) g.1)),(23,.v (sr eAn2 aB.cL)),fi 24 (Ar.len aB.cL),fi 25 s3.2.2]) (fun s3 g H1=>K8 g.1∧K8 g.2∧C1 Eq H0 [.tl g.1,.tl g.2,cb b1 [vi 0,vi 0,.str (⟨#[]⟩)]] H1) (fun x e l H1=>match(generalizing:=false) x with| .inl y=>∃u1:D1,K8 u1∧∃u2:D1,K8 u2∧e= .exit 0∧l=[(2,.v (.eref (CC aP) 0)),(3,.v (.eref (Af aB) 0)),(4,.v (.ref b1 0)),(6,.v (.sl (lst eAm8 y.1) u2)),(7,.v (.sl (lst (V.int .i64) y.2) u1))]∧C1 Eq H0 [.tl u1,.tl u2,cb b1 [vi 0,vi 0,.str (⟨#[]⟩)]] H1| .inr y=>∃u1:D1,K8 u1∧∃u2:D1,K8 u2∧e= .ret∧l=[(4,.v (.ref b1 0)),fi 5 y]∧C1 Eq H0 [.tl u1,.tl u2,cb b1 [vi 0,vi 0,.str (⟨#[]⟩)]] H1) (by kernel_rfl) ?_ (⟨.nil,.nil⟩) hx ?_ ?_ ?_
 ·rintro s3 ⟨t4,t5⟩ H o ⟨ht4,ht5,hO⟩ h;clear hx;cbv;refine A8 hE h (fun _ h=>?_) fun _ h=>?_
  ·cbv;refine B8 hE eAn3 h fun x7 h=>?_;cbv;refine A5 hE h (ih aP x7) (.refl _) fun r8 h=>?_;cbv;refine A8 hE h (fun _ h=>?_) fun _ h=>?_
   ·cbv;refine A9 hE hO 2 rfl rfl fun H hO=>?_;cbv;cases h;exact⟨_,_,rfl,⟨t4,ht4,t5,ht5,rfl,rfl,hO⟩,.e2 .z,rfl⟩
   cbv;refine Lq hE hO 1 rfl ht5 fun H hO=>?_;cbv;refine IG hE trivial ?_;cbv;refine OP (f:=eAm8) hE HC (by decide) (l:=s3.1) (m:=[r8.1]) (.refl _) (.lstc (.eq (eAm4 r8.1) (.refl _)) (.lst0)) h fun l9 h=>?_;cbv;refine Ls hE hO 1 rfl fun t10 H hO ht10=>?_;cbv;refine AO (f:=(V.int .i64)) hE (fun _=>rfl) (by decide) hO 0 rfl ht4 (l:=s3.2.1) (m:=[r8.1.Kind]) (.refl _) (.lstc (.refl _) (.lst0)) h fun l12 t11 H hO ht11 h=>?_;cbv;cases h;exact⟨_,⟨t11,t10⟩,rfl,.e4 (.e4 .z),rfl,ht11,ht10,hO⟩
  cbv;cases h;exact⟨_,_,rfl,⟨t4,ht4,t5,ht5,rfl,rfl,hO⟩,.e rfl (.e4 .z),rfl⟩
 ·exact .e rfl (.e2 (.v (.slt _ (.lst0)) (.v (.slt _ (.lst0)) (.e rfl (.e rfl (.e rfl (.z)))))))
 ·exact⟨trivial,trivial,hO⟩
 clear hx
 rcases s6 with y13|y43
 ·rintro e l H ⟨t14,ht14,t15,ht15,rfl,rfl,hO⟩;cbv;refine A5 hE h (c316 N aB.Op y13.2) (.cons (.refl _) (.cons (.ro _ _) (.refl _))) fun r16 h=>?_;cbv;refine A8 hE h (fun _ h=>?_) fun _ h=>?_
  ·cbv;refine A9 hE hO 2 rfl rfl fun H hO=>?_;cbv;refine B2 hE hO 2 rfl ?_;cbv;cases h;exact hK hO (.refl _)
  cbv;refine A8 hE h (fun _ h=>?_) fun _ h=>?_
  ·cbv;refine B8 hE eAm4 h fun x17 h=>?_;cbv;refine B8 hE eAm4 h fun x18 h=>?_;cbv;refine A5 hE h (c285 N (an (Ar.cmp .eql x17.Kind x18.Kind) (an (Ar.cmp .eql x17.Num x18.Num) (an (Ar.scmp .eql x17.Text x18.Text) true)))) (.refl _) fun r19 h=>?_;cbv;refine A9 hE hO 2 rfl rfl fun H hO=>?_;cbv;refine B2 hE hO 2 rfl ?_;cbv;cases h;exact hK hO (.refl _)
  cbv;refine Ae2 hE (kt:=3) (et:=338) (z:=.nilf) (by kernel_rfl) (by kernel_rfl) (by kernel_rfl) rfl ?_;cbv;refine A8 hE h (fun _ h=>?_) fun _ h=>?_
  ·cbv;refine B8 hE eAm4 h fun x20 h=>?_;cbv;refine D5 hE ?_;cbv;refine B8 hE eAm4 h fun x21 h=>?_;cbv;refine AX hE (g:=fun r22=>(C6 r22)) h (fun r22 hx=>B4.value (F:=[]) (C:=[.eref [.func (.func 307) [] []] 0]) (c308 N x20.Num x21.Num (.func (.func 307) [] []) (fun y1=>O7 N y1) (fun y1 r hx=>B4.value (F:=[]) (C:=[]) (c307 N y1 r hx)) r22 hx)) (.refl _) fun r22 h=>?_;cbv;refine A9 hE hO 2 rfl rfl fun H hO=>?_;cbv;refine B2 hE hO 2 rfl ?_;cbv;cases h;exact hK hO (.refl _)
  cbv;refine A8 hE h (fun _ h=>?_) fun _ h=>?_
  ·cbv;refine B8 hE eAm4 h fun x23 h=>?_;cbv;refine D5 hE ?_;cbv;refine B8 hE eAm4 h fun x24 h=>?_;cbv;refine AX hE (g:=fun r25=>(C6 r25)) h (fun r25 hx=>B4.value (F:=[]) (C:=[.eref [.func (.func 307) [] []] 0]) (c309 N x23.Num x24.Num (.func (.func 307) [] []) (fun y1=>O7 N y1) (fun y1 r hx=>B4.value (F:=[]) (C:=[]) (c307 N y1 r hx)) r25 hx)) (.refl _) fun r25 h=>?_;cbv;refine A9 hE hO 2 rfl rfl fun H hO=>?_;cbv;refine B2 hE hO 2 rfl ?_;cbv;cases h;exact hK hO (.refl _)
  cbv;refine A8 hE h (fun _ h=>?_) fun _ h=>?_
  ·cbv;refine B8 hE eAm4 h fun x26 h=>?_;cbv;refine D5 hE ?_;cbv;refine B8 hE eAm4 h fun x27 h=>?_;cbv;refine A5 hE h (c310 N x26.Num x27.Num) (.refl _) fun r28 h=>?_;cbv;refine A9 hE hO 2 rfl rfl fun H hO=>?_;cbv;refine B2 hE hO 2 rfl ?_;cbv;cases h;exact hK hO (.refl _)
  cbv;refine A8 hE h (fun _ h=>?_) fun _ h=>?_
  ·cbv;refine B8 hE eAm4 h fun x29 h=>?_;cbv;refine D5 hE ?_;cbv;refine B8 hE eAm4 h fun x30 h=>?_;cbv;refine A5 hE h (c311 N x29.Num x30.Num) (.refl _) fun r31 h=>?_;cbv;refine A9 hE hO 2 rfl rfl fun H hO=>?_;cbv;refine B2 hE hO 2 rfl ?_;cbv;cases h;exact hK hO (.refl _)
  cbv;refine A8 hE h (fun _ h=>?_) fun _ h=>?_
  ·cbv;refine B8 hE eAm4 h fun x32 h=>?_;cbv;refine D5 hE ?_;cbv;refine B8 hE eAm4 h fun x33 h=>?_;cbv;refine A5 hE h (c312 N x32.Num x33.Num) (.refl _) fun r34 h=>?_;cbv;refine A9 hE hO 2 rfl rfl fun H hO=>?_;cbv;refine B2 hE hO 2 rfl ?_;cbv;cases h;exact hK hO (.refl _)
  cbv;refine A8 hE h (fun _ h=>?_) fun _ h=>?_
  ·cbv;refine B8 hE eAm4 h fun x35 h=>?_;cbv;refine D5 hE ?_;cbv;refine B8 hE eAm4 h fun x36 h=>?_;cbv;refine A5 hE h (c313 N x35.Num x36.Num) (.refl _) fun r37 h=>?_;cbv;refine A9 hE hO 2 rfl rfl fun H hO=>?_;cbv;refine B2 hE hO 2 rfl ?_;cbv;cases h;exact hK hO (.refl _)
  cbv;refine A8 hE h (fun _ h=>?_) fun _ h=>?_
  ·cbv;refine B8 hE eAm4 h fun x38 h=>?_;cbv;refine D5 hE ?_;cbv;refine B8 hE eAm4 h fun x39 h=>?_;cbv;refine A5 hE h (c314 N x38.Num x39.Num) (.refl _) fun r40 h=>?_;cbv;refine A9 hE hO 2 rfl rfl fun H hO=>?_;cbv;refine B2 hE hO 2 rfl ?_;cbv;cases h;exact hK hO (.refl _)
  cbv;refine B8 hE eAm4 h fun x41 h=>?_;cbv;refine D5 hE ?_;cbv;refine B8 hE eAm4 h fun x42 h=>?_;cbv;cases h
 rintro e l H ⟨t44,ht44,t45,ht45,rfl,rfl,hO⟩;cbv;refine B2 hE hO 2 rfl ?_;cbv;cases h;exact hK hO (.refl _)
def cf284 :Cf:=⟨[8],[(3000004,0),(3000004,1),(3000004,2),(3000004,4),(3000004,5),(3000004,7),(3000004,8),(3000004,10)],[],[2000004],[],[]⟩
theorem c284 (N aB aR aT aU r)(h:FA N aB aR aT aU=some r):B4 prog 284 [(I0 aB),(DP aR),vi aT,(V7 aU)] (.tup [(C6 r.1),vi r.2]):=by
 unfold FA at h
 refine I4 cf284 func284 call284 ntmps284 ?_;intro E H0 K hE hK hO;cbv;refine C5 hE hO fun b1 H hO=>?_;cbv;refine A5 hE h (c178 N aB) (.refl _) fun r2 h=>?_;cbv;refine A8 hE h (fun _ h=>?_) fun _ h=>?_
 ·cbv;refine A9 hE hO 0 rfl rfl fun H hO=>?_;cbv;refine B2 hE hO 0 rfl ?_;cbv;cases h;exact hK hO (.refl _)
 cbv;obtain⟨s3,hx,h⟩:=bind_some h;refine S3 cf284 hE M3 (fun e l H1=>e= .normal∧l=[(8,.v (.ref b1 0)),fi 9 s3.1]∧C1 Eq H0 [cb b1 (N0 s3.2)] H1) (by kernel_rfl) ?_ ?_
 ·clear h;have h:=hx;clear hx;cbv;refine Xp hE (c297 N () rfl) (.refl _) hO fun m125 H hO=>?_;cbv;refine Zg hE (g:=fun r244=>.tup [(C6 r244.1),vi r244.2]) h (c298 N N (⟨aR,aT,aU,()⟩:P2) aB) (fun _=>.tup2 (.agg rfl) (.int _ _)) (.agg (.le (.refl _) (.le (.refl _) (.le (.refl _) (.le (.refl _) (.le (.refl _) (.le (.refl _) (.le (.refl _) (.fm (hO.get 0 rfl) (.nil))))))))) (.le (.refl _) (.nil))) fun r244 h=>?_;cbv;refine A9 hE hO 1 rfl rfl fun H hO=>?_;cbv;cases h;exact⟨_,⟨rfl,rfl,hO.tail⟩,.e2 .z,rfl⟩
 clear hx;rintro e l H ⟨rfl,rfl,hO⟩;cbv;refine B2 hE hO 0 rfl ?_;cbv;cases h;exact hK hO (.refl _)
def cf265 :Cf:=⟨[],[(2,5)],[],[],[],[]⟩
theorem c265 (N aB aR aT aU r)(h:Cx N aB aR aT aU=some r):B4 prog 265 [(I0 aB),(DP aR),vi aT,(V7 aU)] (.bool r):=by
 unfold Cx at h
 refine I4 cf265 func265 call265 ntmps265 ?_;intro E H0 K hE hK hO;cbv;refine A5 hE h (c284 N aB aR aT aU) (.refl _) fun r1 h=>?_;cbv;refine A8 hE h (fun _ h=>?_) fun _ h=>?_
 ·cbv;refine C9 hE (g:=fun r2=>(C6 r2)) h (c285 N true) (.refl _) fun r2 h=>?_;cbv;cases h;exact hK hO (.refl _)
 cbv;cases h;exact hK hO (.refl _)
def cf266 :Cf:=⟨[6,7,3000041,8000041,9000041],[(6,20)],[],[],[(44,1000007)],[]⟩
theorem c266 (N aK aI bX r) (h:P0 N aK aI bX=some r):B4 prog 266 [.eref (B5 aK) 0,sr eAl8 aI,vi bX] ((DP r)):=by
 unfold P0 at h
 refine I4 cf266 func266 call266 ntmps266 ?_;intro E H0 K hE hK hO;cbv;refine C5 hE hO fun b1 H hO=>?_;cbv;refine Aa5 hE (f:=eAl9) (by decide) hO 1 h fun l3 w2 H hw2 h hO=>?_;have hO:C1 Eq H0 (.blk w2.q.id (.arr 1 (w2.q.pre++lst (Aj eAl9) w2.row++w2.q.rest))::cb b1 [.sl [] .nil]::(Fj w2++[])) H:=hO;cbv;refine C5 hE hO fun b4 H hO=>?_;cbv;refine A9 hE hO 0 rfl rfl fun H hO=>?_;cbv;refine D5 hE ?_;cbv;obtain⟨s7,hx,h⟩:=bind_some h;refine M8 cf266 hE M3 (γ:=Rw A7) (fun s5 g=>[(0,.v (.eref (B5 aK) 0)),fi 2 bX,(6,.v (.ref b1 0)),(7,.v (.ref b4 0)),(12,.v (sr eAl8 aI)),fi 13 (Ar.len aI),fi 14 s5.1]) (fun s5 g H1=>Bl g s5.2∧C1 Eq H0 (cb b4 [.own g.q.id g.q.lo g.q.n]:: .blk g.q.id (.arr 1 (g.q.pre++lst (Aj eAl9) g.row++g.q.rest))::cb b1 [.sl [] .nil]::(Fj g++[])) H1) (fun x e l H1=>∃u1:Rw A7,Bl u1 x∧e= .exit 0∧l=[(6,.v (.ref b1 0)),(7,.v (.ref b4 0))]∧C1 Eq H0 (cb b4 [.own u1.q.id u1.q.lo u1.q.n]:: .blk u1.q.id (.arr 1 (u1.q.pre++lst (Aj eAl9) u1.row++u1.q.rest))::cb b1 [.sl [] .nil]::(Fj u1++[])) H1) (by kernel_rfl) ?_ w2 hx ?_ ?_ ?_
 ·rintro s5 w6 H o ⟨hw6,hO⟩ h;clear hx;cbv;refine A8 hE h (fun _ h=>?_) fun _ h=>?_
  ·cbv;refine B8 hE eAn4 h fun x8 h=>?_;cbv;refine A8 hE h (fun _ h=>?_) fun _ h=>?_
   ·cbv;obtain⟨x9,hxx9,h⟩:=bind_some h
    obtain⟨hjx9,t10,hrx9,hax9⟩:=hw6.at hxx9
    obtain⟨Rx9,hO,hbx9⟩:=hO.rtake (w:=w6) (T1:=[]) (T2:=[]) 3 rfl hrx9;refine Lq hE hO 0 rfl hax9 fun H hO=>?_;cbv;refine B2 hE hO 1 rfl ?_;cbv;refine B2 hE hO 1 rfl ?_;cbv;refine Pg hE (f:=Aj eAl9) hO hw6.ok 2 rfl hjx9 ?_;cbv;refine Ul hE (f:=Aj eAl9) (fun _=>rfl) hO hw6.ok 2 rfl hjx9.1 hrx9 ?_;cbv;refine B8 hE eAm5 h fun x14 h=>?_;cbv;refine IG hE trivial ?_;cbv;refine OP (f:=eAl9) hE Kb (by decide) (l:=x9) (m:=[x14]) (.refl _) (.lstc (.eq (eAm5 x14) (.refl _)) (.lst0)) h fun l15 h=>?_;cbv;refine Ls hE hO 0 rfl fun t11 H hO htt11=>?_;cbv;refine Pg hE (f:=Aj eAl9) hO hw6.ok 2 rfl hjx9 ?_;cbv;refine Ri hE (f:=Aj eAl9) (tz:=1) (x':=(l15,t11)) (fun _=>⟨.sl (lst eAl9 l15) t11,.refl _,rfl,rfl,rfl⟩) (by decide) hO hw6.ok 2 rfl hjx9 fun H hO=>?_;cbv;obtain⟨l13,hu,h⟩:=bind_some h;obtain⟨w12,hqw12,hw12,hO⟩:∃w0:Rw A7,w0.q=w6.q∧Bl w0 l13∧C1 Eq H0 (cb b4 [.own w0.q.id w0.q.lo w0.q.n]:: .blk w0.q.id (.arr 1 (w0.q.pre++lst (Aj eAl9) w0.row++w0.q.rest))::cb b1 [.sl [] .nil]::(Fj w0++[])) H:=⟨(⟨w6.q,w6.row.set (x8.cR).toNat (l15,t11)⟩:Rw A7),rfl,by rw[PK hu];exact hw6.put _ htt11,(by have e:=hbx9 (l15,t11) H [cb b4 [.own w6.q.id w6.q.lo w6.q.n],.blk w6.q.id (.arr 1 (w6.q.pre++lst (Aj eAl9) (w6.row.set (x8.cR).toNat (l15,t11))++w6.q.rest)),cb b1 [.sl [] .nil]] hO;simp only[List.cons_append,List.nil_append,append_nil]at e ⊢;exact e)⟩
    try rw[←hqw12]
    cases h;exact⟨_,w12,rfl,.e rfl (.e2 (.e4 .z)),rfl,hw12,hO⟩
   cbv;cases h;exact⟨_,w6,rfl,.e rfl (.e2 (.e4 .z)),rfl,hw6,hO⟩
  cbv;cases h;exact⟨_,_,rfl,⟨w6,hw6,rfl,rfl,hO⟩,.e2 .z,rfl⟩
 ·exact .e rfl (.e2 (.e4 .z))
 ·exact⟨hw2,hO⟩
 clear hx;rintro e l H ⟨w16,hw16,rfl,rfl,hO⟩;cbv;refine QL hE (e:=eAn9) eAo2 hO hw16 0 1 rfl rfl rfl (by decide) fun H hO=>?_;have hO:C1 Eq H0 [cb b4 [sr eAn9 s7],cb b1 [.sl [] .nil]] H:=hO.rdrop (w:=w16) (T1:=[]) (T2:=[]) 2 rfl;cbv;refine B2 hE hO 0 rfl ?_;cbv;refine A9 hE hO 1 rfl rfl fun H hO=>?_;cbv;refine B2 hE hO 1 rfl ?_;cbv;cases h;exact hK hO (.refl _)
def cf231 :Cf:=⟨[],[(1,13)],[],[],[],[]⟩
theorem c231 (N aK bM aI aT aZ r)(h:G7 N aK bM aI aT aZ=some r):B4 prog 231 [.eref (B5 aK) 0,(I0 bM),sr eAl8 aI,vi aT,vi aZ] (.bool r):=by
 unfold G7 at h
 refine I4 cf231 func231 call231 ntmps231 ?_;intro E H0 K hE hK hO;cbv;refine C9 hE (g:=fun r1=>(DP r1)) h (c266 N aK aI aZ) (.refl _) fun r1 h=>?_;cbv;refine B8 hE eAm5 h fun x2 h=>?_;cbv;refine A5 hE h (c265 N bM r1 aT x2) (.refl _) fun r3 h=>?_;cbv;cases h;exact hK hO (.refl _)
def cf230 :Cf:=⟨[],[(3,28)],[],[],[],[]⟩
theorem c230 (N aJ aM aO aS r) (h:R8 N aJ aM aO aS=some r):FF prog 230 (fun yv=>[yv,.eref [vi aJ] 0,.eref [.eref (B5 aM) 0] 0,.eref (D3 aO) 0,.eref [sr eAl8 aS] 0]) (List.map (fun(x:(List A0))=>[sr eAl8 x]) r) rbN:=by
 unfold R8 at h
 obtain⟨⟨w0,u0⟩,h1,hr⟩:=bind_some h;clear h;have hr:=G2 hr;subst hr;have h:=h1;clear h1;refine N4 cf230 M3 func230 (by rfl) (by kernel_rfl) call230 ntmps230 (by rfl) (fun _=>rfl) ?_;intro yv I D hI hD hy tl F E H K hE hO hK hKD
 have hO:C1 (I (List.map (fun(x:(List A0))=>[sr eAl8 x]) (w0++[])++tl)) F [] H:=by rw[append_nil];exact hO
 cbv;obtain⟨w2,w3,s6,hx,h1,he⟩:=Q0 h;clear h;have h:=h1;clear h1
 rw[he,append_assoc]at hO
 clear he;refine BX cf230 hE M3 (γ:=Unit) (fun s1 g=>[(0,.v (yv)),(2,.v (.eref [.eref (B5 aM) 0] 0)),(3,.v (.eref (D3 aO) 0)),(4,.v (.eref [sr eAl8 aS] 0)),fi 6 s1]) (fun s1 g w H1=>C1 (I (List.map (fun(x:(List A0))=>[sr eAl8 x]) w++tl)) F [] H1) (fun x e l w H1=>e= .exit 0∧l=[]∧C1 (I (List.map (fun(x:(List A0))=>[sr eAl8 x]) w++tl)) F [] H1) (fun e l H1=>(e= .ret∧l=[]∧C1 D F [] H1)) (by kernel_rfl) ?_ (w':=w3++[]) () hx ?_ ?_ ?_ ?_
 ·rintro s1 _ w4 w5 H o hO h;clear hx
  skip
  cbv;refine D5 hE ?_;cbv;refine A8 hE h (fun _ h=>?_) fun _ h=>?_
  ·cbv;refine B8 hE eAm5 h fun x7 h=>?_;cbv;refine A8 hE h (fun _ h=>?_) fun _ h=>?_
   ·cbv;refine C9 hE (g:=fun r8=>.bool r8) h (c231 N aM aO.cN aS aO.Var s1) (.refl _) fun r8 h=>?_;cbv;refine A8 hE h (fun _ h=>?_) fun _ h=>?_
    ·cbv;obtain⟨w9,h1,he⟩:=U8 h;clear h;have h:=h1;clear h1
     rw[he,append_assoc]at hO
     clear he;have hO:C1 (I ([sr eAl8 ([(⟨aO.Var,s1⟩:A0)])]::(List.map (fun(x:(List A0))=>[sr eAl8 x]) (w9++w5)++tl))) F [] _:=hO;refine Du hE hI hD hy hO (.cons (.lit _ (F9 ((eAn4 (⟨aO.Var,s1⟩:A0)).symm) (E6))) (.refl _)) (fun H hO=>?_) (fun H hO=>?_)
     ·cbv;refine Ic hE (nt_eq _) ?_;cbv;obtain⟨hw,rfl⟩:=D0 h
      rw[←hw]at hO
      exact⟨_,(),rfl,.e rfl (.e4 .z),rfl,hO⟩
     clear h;cbv;refine Ib hE (nt_eq _) ?_;cbv;exact .inr ⟨_,⟨rfl,rfl,hO⟩,.z,rfl⟩
    cbv;obtain⟨hw,rfl⟩:=D0 h
    rw[←hw]at hO
    exact⟨_,(),rfl,.e rfl (.e4 .z),rfl,hO⟩
   cbv;obtain⟨hw,rfl⟩:=D0 h
   rw[←hw]at hO
   exact⟨_,(),rfl,.e rfl (.e4 .z),rfl,hO⟩
  cbv;obtain⟨hw,rfl⟩:=D0 h
  rw[←hw]at hO
  exact .inl ⟨_,_,rfl,⟨rfl,rfl,hO⟩,.z,rfl⟩
 ·exact .e rfl (.e4 .z)
 ·exact hO
 ·rintro e l H ⟨rfl,rfl,hO⟩;clear hx;cbv;obtain⟨hw,_⟩:=D0 h
  rw[←hw]at hO
  exact hK _ _ _ hO trivial
 rintro e l H hX;obtain⟨rfl,rfl,hO⟩:=hX;clear h;cbv;exact hKD _ _ _ hO trivial
theorem c190 (N aK aA aN aG r)(h:J5 N aK aA aN aG=some r):Al prog 190 [.eref (B5 aK) 0,(C3 aA),sr eAl8 aN,vi aG] (fun v=>EY prog v (r.map fun(x:(List A0))=>[sr eAl8 x])):=by
 unfold J5 at h
 refine Q7 cf0 M3 func190 (by rfl) (by kernel_rfl) call190 ntmps190 (by rfl) (by rfl) ?_;intro E H0 K hE hK;have hO:C1 Eq H0 [] H0:=.start F4 rfl;cbv;exact hK _ _ _ hO (U6 call230 (c230 N aG aK aA aN r h))
theorem c267 (N aJ r) (h:E3 N aJ=some r):FF prog 267 (fun yv=>[yv,.eref [sr eAm6 aJ] 0]) (List.map (fun(x:(List A0))=>[sr eAl8 x]) r) rbN:=by
 unfold E3 at h
 obtain⟨⟨w0,u0⟩,h1,hr⟩:=bind_some h;clear h;have hr:=G2 hr;subst hr;have h:=h1;clear h1;refine N4 cf0 M3 func267 (by rfl) (by kernel_rfl) call267 ntmps267 (by rfl) (fun _=>rfl) ?_;intro yv I D hI hD hy tl F E H K hE hO hK hKD
 have hO:C1 (I (List.map (fun(x:(List A0))=>[sr eAl8 x]) (w0++[])++tl)) F [] H:=by rw[append_nil];exact hO
 cbv;refine D5 hE ?_;cbv;obtain⟨w2,w3,s6,hx,h1,he⟩:=Q0 h;clear h;have h:=h1;clear h1
 rw[he,append_assoc]at hO
 clear he;refine BX cf0 hE M3 (γ:=Unit) (fun s1 g=>[(0,.v (yv)),(5,.v (sr eAm6 aJ)),fi 6 (Ar.len aJ),fi 7 s1]) (fun s1 g w H1=>C1 (I (List.map (fun(x:(List A0))=>[sr eAl8 x]) w++tl)) F [] H1) (fun x e l w H1=>e= .exit 0∧l=[]∧C1 (I (List.map (fun(x:(List A0))=>[sr eAl8 x]) w++tl)) F [] H1) (fun e l H1=>(e= .ret∧l=[]∧C1 D F [] H1)) (by kernel_rfl) ?_ (w':=w3++[]) () hx ?_ ?_ ?_ ?_
 ·rintro s1 _ w4 w5 H o hO h;clear hx
  skip
  cbv;refine A8 hE h (fun _ h=>?_) fun _ h=>?_
  ·cbv;refine B8 hE eAn5 h fun x7 h=>?_;cbv;obtain⟨w8,h1,he⟩:=U8 h;clear h;have h:=h1;clear h1
   rw[he,append_assoc]at hO
   clear he;have hO:C1 (I ([sr eAl8 x7]::(List.map (fun(x:(List A0))=>[sr eAl8 x]) (w8++w5)++tl))) F [] _:=hO;refine Du hE hI hD hy hO (.refl _) (fun H hO=>?_) (fun H hO=>?_)
   ·cbv;refine Ic hE (nt_eq _) ?_;cbv;obtain⟨hw,rfl⟩:=D0 h
    rw[←hw]at hO
    exact⟨_,(),rfl,.e4 .z,rfl,hO⟩
   clear h;cbv;refine Ib hE (nt_eq _) ?_;cbv;exact .inr ⟨_,⟨rfl,rfl,hO⟩,.z,rfl⟩
  cbv;obtain⟨hw,rfl⟩:=D0 h
  rw[←hw]at hO
  exact .inl ⟨_,_,rfl,⟨rfl,rfl,hO⟩,.z,rfl⟩
 ·exact .e4 .z
 ·exact hO
 ·rintro e l H ⟨rfl,rfl,hO⟩;clear hx;cbv;obtain⟨hw,_⟩:=D0 h
  rw[←hw]at hO
  exact hK _ _ _ hO trivial
 rintro e l H hX;obtain⟨rfl,rfl,hO⟩:=hX;clear h;cbv;exact hKD _ _ _ hO trivial
theorem c232 (N aI r)(h:N6 N aI=some r):Al prog 232 [sr eAm6 aI] (fun v=>EY prog v (r.map fun(x:(List A0))=>[sr eAl8 x])):=by
 unfold N6 at h
 refine Q7 cf0 M3 func232 (by rfl) (by kernel_rfl) call232 ntmps232 (by rfl) (by rfl) ?_;intro E H0 K hE hK;have hO:C1 Eq H0 [] H0:=.start F4 rfl;cbv;exact hK _ _ _ hO (U6 call267 (c267 N aI r h))
theorem c286 {cmp:A0→A0→Option Int}{g:Nat}{C:List V}(eg:∀vals w,(callFunc g vals).run prog w= .ok (.enter g vals) w)(hc:∀y1 y2 r,cmp y1 y2=some r→B4 prog g ([(L8 y1),(L8 y2)]++C) (vi r)){l r:List A0}(h:GL cmp l=some r):
 Px prog 286 (.func (.func g) [] C) 2 (lst eAl8 l) (lst eAl8 r):=KZ Go.Proofs.Tryz.sorts286 call286 (va:=fun x=>(EU x)) eAn4 (fun _=>rfl) eg hc h
theorem c287 (N aP bG r)(h:AU N aP bG=some r):B4 prog 287 [(L8 aP),(L8 bG)] (vi r):=by
 unfold AU at h
 refine I4 cf0 func287 call287 ntmps287 ?_;intro E H0 K hE hK hO;cbv;cases h;exact hK hO (.refl _)
theorem c269 (N aC aD r)(h:K6 N aC aD=some r):B4 prog 269 [sr eAl8 aC,sr eAl8 aD] (sr eAl8 r):=by
 unfold K6 at h
 refine Hs (T:=TT) cf0 M3 func269 (by rfl) (by kernel_rfl) call269 ntmps269 (by rfl) (by rfl) ?_;intro E H0 K hE hK hF;have hO:C1 Eq H0 [] H0:=.start F4 rfl;cbv;refine D5 hE ?_;cbv;refine D5 hE ?_;cbv;refine Aa6 hE (f:=eAl8) (by decide) (z0:=((⟨0,0⟩:A0):A0)) ((.eq (eAn4 _) (.refl _))) hO h fun l2 q1 H hq1 h hO=>?_;cbv;refine FX (f:=eAl8) hE X8 (by decide) hO hq1 0 rfl (m:=aC) (GK (f:=eAl8) hE X8 (.refl _)) h fun l4 q3 H hq3 hO h=>?_;cbv;refine FX (f:=eAl8) hE X8 (by decide) hO hq3 0 rfl (m:=aD) (GK (f:=eAl8) hE X8 (.refl _)) h fun l6 q5 H hq5 hO h=>?_;cbv;refine QN hE hO hq5 0 rfl h (fun l7 hx=>c286 (g:=287) (C:=[]) call287 (fun y1 y2 r hx=>c287 N y1 y2 r hx) hx) fun l7 H hq5 hO h=>?_;cbv;cases h;exact hF q5 _ _ 0 _ _ hO rfl (HM hE hq5) (.refl _)
theorem c270 (N aI r)(h:K3 N aI=some r):B4 prog 270 [sr eAl8 aI] (vi r):=by
 unfold K3 at h
 refine I4 cf0 func270 call270 ntmps270 ?_;intro E H0 K hE hK hO;cbv;refine D5 hE ?_;cbv;refine B8 hE eAn4 h fun x1 h=>?_;cbv;cases h;exact hK hO (.refl _)
theorem c301 (N:Nat) (aI:List A0) (bJ:V) (bH:A0→Option Bool) (bQ:∀y1 q,bH y1=some q→X7 prog bJ [(L8 y1)] (.bool q)) (r:Int) (h:N7 N aI bH=some r):B4 prog 301 [sr eAl8 aI,bJ] (vi r):=by
 unfold N7 at h
 refine I4 cf0 func301 call301 ntmps301 ?_;intro E H0 K hE hK hO;cbv;refine D5 hE ?_;cbv;obtain⟨s2,hx,h⟩:=bind_some h;refine F2 cf0 hE M3 (fun s1=>[(0,.v (sr eAl8 aI)),(1,.v (bJ)),fi 7 (Ar.len aI),fi 8 s1]) (fun s1 H1=>C1 Eq H0 [] H1) (fun x e l H1=>match(generalizing:=false) x with| .inl y=>e= .exit 0∧l=[]∧C1 Eq H0 [] H1| .inr y=>e= .ret∧l=[fi 4 y]∧C1 Eq H0 [] H1) (by kernel_rfl) ?_ hx ?_ hO ?_
 ·intro s1 H o hO h;clear hx;cbv;refine A8 hE h (fun _ h=>?_) fun _ h=>?_
  ·cbv;refine B8 hE eAn4 h fun x3 h=>?_;cbv;refine AX hE (g:=fun r4=>.bool r4) h (fun r4 hx=>bQ x3 r4 hx) (.refl _) fun r4 h=>?_;cbv;refine A8 hE h (fun _ h=>?_) fun _ h=>?_
   ·cbv;cases h;exact⟨_,_,rfl,⟨rfl,rfl,hO⟩,.e rfl .z,rfl⟩
   cbv;cases h;exact⟨_,rfl,.e4 .z,rfl,hO⟩
  cbv;cases h;exact⟨_,_,rfl,⟨rfl,rfl,hO⟩,.z,rfl⟩
 ·exact .e4 .z
 clear hx
 rcases s2 with y5|y6
 ·rintro e l H ⟨rfl,rfl,hO⟩;cbv;cases h;exact hK hO (.refl _)
 rintro e l H ⟨rfl,rfl,hO⟩;cbv;cases h;exact hK hO (.refl _)
theorem c288 (N:Nat)(aI:List A0)(bJ:V)(bH:A0→Option Bool)(bQ:∀y1 q,bH y1=some q→X7 prog bJ [(L8 y1)] (.bool q))(r:Bool)(h:G6 N aI bH=some r):B4 prog 288 [sr eAl8 aI,bJ] (.bool r):=by
 unfold G6 at h
 refine I4 cf0 func288 call288 ntmps288 ?_;intro E H0 K hE hK hO;cbv;refine A5 hE h (c301 N aI bJ bH bQ) (.refl _) fun r1 h=>?_;cbv;cases h;exact hK hO (.refl _)
theorem c290 (N aP aJ r)(h:S7 N aP aJ=some r):B4 prog 290 [(L8 aP),.eref [vi aJ] 0] (.bool r):=by
 unfold S7 at h
 refine I4 cf0 func290 call290 ntmps290 ?_;intro E H0 K hE hK hO;cbv;cases h;exact hK hO (.refl _)
theorem c272 (N aI aZ r)(h:R7 N aI aZ=some r):B4 prog 272 [sr eAl8 aI,vi aZ] (.bool r):=by
 unfold R7 at h
 refine I4 cf0 func272 call272 ntmps272 ?_;intro E H0 K hE hK hO;cbv;refine A5 hE (g:=fun r1=>.bool r1) h (fun r1 hx=>c288 N aI (.func (.func 290) [] [.eref [vi aZ] 0]) (fun y1=>S7 N y1 aZ) (fun y1 r hx=>B4.value (F:=[]) (C:=[.eref [vi aZ] 0]) (c290 N y1 aZ r hx)) r1 hx) (.refl _) fun r1 h=>?_;cbv;cases h;exact hK hO (.refl _)
theorem c289 (N aP aJ r)(h:W4 N aP aJ=some r):B4 prog 289 [(L8 aP),.eref [sr eAl8 aJ] 0] (.bool r):=by
 unfold W4 at h
 refine I4 cf0 func289 call289 ntmps289 ?_;intro E H0 K hE hK hO;cbv;refine A5 hE h (c272 N aJ aP.at_) (.refl _) fun r1 h=>?_;cbv;cases h;exact hK hO (.refl _)
theorem c271 (N aC aD r)(h:Ag N aC aD=some r):B4 prog 271 [sr eAl8 aC,sr eAl8 aD] (.bool r):=by
 unfold Ag at h
 refine I4 cf0 func271 call271 ntmps271 ?_;intro E H0 K hE hK hO;cbv;refine A5 hE (g:=fun r1=>.bool r1) h (fun r1 hx=>c288 N aC (.func (.func 289) [] [.eref [sr eAl8 aD] 0]) (fun y1=>W4 N y1 aD) (fun y1 r hx=>B4.value (F:=[]) (C:=[.eref [sr eAl8 aD] 0]) (c289 N y1 aD r hx)) r1 hx) (.refl _) fun r1 h=>?_;cbv;cases h;exact hK hO (.refl _)
def cf237 :Cf:=⟨[],[(6,11)],[],[],[],[]⟩
theorem c237 (N:Nat):∀n bO bK r,S1 N n bO bK=some r→FF prog 237 (fun yv=>[sr eAn6 bO,sr eAl8 bK,yv]) (List.map (fun(x:(List A0))=>[sr eAl8 x]) r) rbB:=by
 intro n
 induction n with
 |zero=>intro bO bK r h;cases h
 |succ n ih=>
 intro bO bK r h
 unfold S1 at h
 obtain⟨⟨w0,u0⟩,h1,hr⟩:=bind_some h;clear h;have hr:=G2 hr;subst hr;have h:=h1;clear h1;refine N4 cf237 M3 func237 (by rfl) (by kernel_rfl) call237 ntmps237 (by rfl) (fun _=>rfl) ?_;intro yv I D hI hD hy tl F E H K hE hO hK hKD
 have hO:C1 (I (List.map (fun(x:(List A0))=>[sr eAl8 x]) (w0++[])++tl)) F [] H:=by rw[append_nil];exact hO
 cbv;refine D5 hE ?_;cbv;refine A8 hE h (fun _ h=>?_) fun _ h=>?_
 ·cbv;obtain⟨w1,h1,he⟩:=U8 h;clear h;have h:=h1;clear h1
  rw[he,append_assoc]at hO
  clear he;have hO:C1 (I ([sr eAl8 bK]::(List.map (fun(x:(List A0))=>[sr eAl8 x]) (w1++[])++tl))) F [] _:=hO;refine Du hE hI hD hy hO (.refl _) (fun H hO=>?_) (fun H hO=>?_)
  ·cbv;obtain⟨hw,_⟩:=D0 h
   rw[←hw]at hO
   exact hK _ _ _ hO rfl
  clear h;cbv;exact hKD _ _ _ hO rfl
 cbv;refine B8 hE eAo3 h fun x2 h=>?_;cbv;refine D5 hE ?_;cbv;obtain⟨w4,w5,s8,hx,h1,he⟩:=Q0 h;clear h;have h:=h1;clear h1
 rw[he,append_assoc]at hO
 clear he;refine BX cf237 hE M3 (γ:=Unit) (fun s3 g=>[(0,.v (sr eAn6 bO)),(1,.v (sr eAl8 bK)),(2,.v (yv)),(17,.v (sr eAm6 x2)),fi 18 (Ar.len x2),fi 19 s3]) (fun s3 g w H1=>C1 (I (List.map (fun(x:(List A0))=>[sr eAl8 x]) w++tl)) F [] H1) (fun x e l w H1=>e= .exit 0∧l=[]∧C1 (I (List.map (fun(x:(List A0))=>[sr eAl8 x]) w++tl)) F [] H1) (fun e l H1=>(e= .ret∧l=[(6,.b false)]∧C1 D F [] H1)) (by kernel_rfl) ?_ (w':=w5++[]) () hx ?_ ?_ ?_ ?_
 ·rintro s3 _ w6 w7 H o hO h;clear hx
  skip
  cbv;refine A8 hE h (fun _ h=>?_) fun _ h=>?_
  ·cbv;refine B8 hE eAn5 h fun x9 h=>?_;cbv;refine C9 hE (g:=fun r10=>.bool r10) h (c271 N bK x9) (.refl _) fun r10 h=>?_;cbv;refine A8 hE h (fun _ h=>?_) fun _ h=>?_
   ·cbv;refine FW hE (f:=eAn6) Cm h fun l11 t12 h=>?_;cbv;refine C9 hE (g:=fun r13=>sr eAl8 r13) h (c269 N bK x9) (.refl _) fun r13 h=>?_;cbv;obtain⟨l14,hl,h⟩:=bind_some h;obtain⟨w15,h1,he⟩:=U8 h;clear h;have h:=h1;clear h1
    rw[he,append_assoc]at hO
    clear he
    rw[List.map_append,append_assoc]at hO
    refine OO hE hI hD hy (ih l11 r13 l14 hl) hO (.cons (.ro _ _) (.refl _)) (fun v H hb hO=>?_) (fun v H hb hO=>?_)
    ·cases hb;clear hl;cbv;refine Ic hE (nt_eq _) ?_;cbv;obtain⟨hw,rfl⟩:=D0 h
     rw[←hw]at hO
     exact⟨_,(),rfl,.e2 (.e4 .z),rfl,hO⟩
    cases hb;clear h hl;cbv;refine Ib hE (nt_eq _) ?_;cbv;exact .inr ⟨_,⟨rfl,rfl,hO⟩,.b rfl (.z),rfl⟩
   cbv;obtain⟨hw,rfl⟩:=D0 h
   rw[←hw]at hO
   exact⟨_,(),rfl,.e2 (.e4 .z),rfl,hO⟩
  cbv;obtain⟨hw,rfl⟩:=D0 h
  rw[←hw]at hO
  exact .inl ⟨_,_,rfl,⟨rfl,rfl,hO⟩,.z,rfl⟩
 ·exact .e2 (.e4 .z)
 ·exact hO
 ·rintro e l H ⟨rfl,rfl,hO⟩;clear hx;cbv;obtain⟨hw,_⟩:=D0 h
  rw[←hw]at hO
  exact hK _ _ _ hO rfl
 rintro e l H hX;obtain⟨rfl,rfl,hO⟩:=hX;clear h;cbv;exact hKD _ _ _ hO rfl
def cf241 :Cf:=⟨[],[(3,23),(5,13),(10,25)],[],[],[],[]⟩
theorem c241 (N aK aA aN aI r) (h:P6 N aK aA aN aI=some r):B4 prog 241 [.eref (B5 aK) 0,(C3 aA),sr eAl8 aN,sr eAl8 aI] (.bool r):=by
 unfold P6 at h
 refine I4 cf241 func241 call241 ntmps241 ?_;intro E H0 K hE hK hO;cbv;refine A8 hE h (fun _ h=>?_) fun _ h=>?_
 ·cbv;refine C9 hE (g:=fun r1=>vi r1) h (c270 N aI) (.refl _) fun r1 h=>?_;cbv;refine B8 hE eAm5 h fun x2 h=>?_;cbv;refine B8 hE eAn4 h fun x3 h=>?_;cbv;refine B8 hE eAm5 h fun x4 h=>?_;cbv;cases h;exact hK hO (.refl _)
 cbv;refine A8 hE h (fun _ h=>?_) fun _ h=>?_
 ·cbv;refine C9 hE (g:=fun r5=>sr eAl8 r5) h (c269 N aN aI) (.refl _) fun r5 h=>?_;cbv;refine D5 hE ?_;cbv;refine C9 hE (g:=fun r6=>(DP r6)) h (c266 N aK r5 (Ar.len aK.cU)) (.refl _) fun r6 h=>?_;cbv;refine A5 hE h (c265 N aA.cN r6 (-1) (⟨0,0,0,0,[]⟩:A7)) (.cons (.refl _) (.cons (.refl _) (.cons (.refl _) (.cons (.agg (.cons (.refl _) (.cons (.refl _) (.cons (.refl _) (.cons (.refl _) (.cons (.lit _ (E6)) (.refl _))))))) (.refl _))))) fun r7 h=>?_;cbv;cases h;exact hK hO (.refl _)
 cbv;refine A5 hE h (c269 N aN aI) (.refl _) fun r8 h=>?_;cbv;refine B8 hE eAn4 h fun x9 h=>?_;cbv;obtain⟨s11,hx,h⟩:=bind_some h;refine F2 cf241 hE M3 (fun s10=>[(0,.v (.eref (B5 aK) 0)),(3,.v (sr eAl8 aI)),(5,.v (.eref (D3 aA) 0)),(9,.v (sr eAl8 r8)),fi 10 s10]) (fun s10 H1=>C1 Eq H0 [] H1) (fun x e l H1=>match(generalizing:=false) x with| .inl y=>e= .exit 1∧l=[]∧C1 Eq H0 [] H1| .inr y=>e= .ret∧l=[(8,.b false)]∧C1 Eq H0 [] H1) (by kernel_rfl) ?_ hx ?_ hO ?_
 ·intro s10 H o hO h;clear hx;cbv;refine A5 hE h (c270 N aI) (.refl _) fun r12 h=>?_;cbv;refine A8 hE h (fun _ h=>?_) fun _ h=>?_
  ·cbv;refine B8 hE eAm5 h fun x13 h=>?_;cbv;refine A8 hE h (fun _ h=>?_) fun _ h=>?_
   ·cbv;refine C9 hE (g:=fun r14=>.bool r14) h (c272 N aI s10) (.refl _) fun r14 h=>?_;cbv;refine A8 hE h (fun _ h=>?_) fun _ h=>?_
    ·cbv;refine A5 hE h (c231 N aK aA.cN r8 aA.Var s10) (.refl _) fun r15 h=>?_;cbv;refine A8 hE h (fun _ h=>?_) fun _ h=>?_
     ·cbv;cases h;exact⟨_,_,rfl,⟨rfl,rfl,hO⟩,.b rfl (.z),rfl⟩
     cbv;cases h;exact⟨_,rfl,.e rfl (.e4 .z),rfl,hO⟩
    cbv;cases h;exact⟨_,rfl,.e rfl (.e4 .z),rfl,hO⟩
   cbv;cases h;exact⟨_,rfl,.e rfl (.e4 .z),rfl,hO⟩
  cbv;cases h;exact⟨_,_,rfl,⟨rfl,rfl,hO⟩,.z,rfl⟩
 ·exact .e rfl (.e4 .z)
 clear hx
 rcases s11 with y16|y17
 ·rintro e l H ⟨rfl,rfl,hO⟩;cbv;cases h;exact hK hO (.refl _)
 rintro e l H ⟨rfl,rfl,hO⟩;cbv;cases h;exact hK hO (.refl _)
def cf127 :Cf:=⟨[8,9],[(3,3)],[(39,12)],[],[],[]⟩
def Nn (N n:Nat):Prop:=∀(aK:B3) (aA:A1) (aN:List A0) (aG:Int) (r:(List (List A0))),C8 N n aK aA aN aG=some r→B4 prog 127 [.eref (B5 aK) 0,(C3 aA),sr eAl8 aN,vi aG] (sr eAm6 r)
def cf191 :Cf:=⟨[9],[(2,7),(5,8)],[],[],[(400000005,9)],[]⟩
def Ah8 (N n:Nat):Prop:=∀(aK:B3) (aA:A1) (aN:List A0) (aG:Int) (r:(List (List A0))),L4 N n aK aA aN aG=some r→Al prog 191 [.eref (B5 aK) 0,(C3 aA),sr eAl8 aN,vi aG] (fun v=>EY prog v (r.map fun(x:(List A0))=>[sr eAl8 x]))
def Ah7 (N n:Nat):Prop:=∀(aK:B3) (aA:A1) (aN:List A0) (aG:Int) (r:(List (List A0))),L5 N n aK aA aN aG=some r→Al prog 192 [.eref (B5 aK) 0,(C3 aA),sr eAl8 aN,vi aG] (fun v=>EY prog v (r.map fun(x:(List A0))=>[sr eAl8 x]))
def Ah6 (N n:Nat):Prop:=∀(aK:B3) (aA:A1) (aN:List A0) (aG:Int) (r:(List (List A0))),L6 N n aK aA aN aG=some r→Al prog 193 [.eref (B5 aK) 0,(C3 aA),sr eAl8 aN,vi aG] (fun v=>EY prog v (r.map fun(x:(List A0))=>[sr eAl8 x]))
def Ah5 (N n:Nat):Prop:=∀(aK:B3) (aA:A1) (aN:List A0) (aG:Int) (r:(List (List A0))),K5 N n aK aA aN aG=some r→Al prog 194 [.eref (B5 aK) 0,(C3 aA),sr eAl8 aN,vi aG] (fun v=>EY prog v (r.map fun(x:(List A0))=>[sr eAl8 x]))
def Ah4 (N n:Nat):Prop:=∀(aK:B3) (aA:A1) (aN:List A0) (aG:Int) (r:(List (List A0))),E5 N n aK aA aN aG=some r→Al prog 195 [.eref (B5 aK) 0,(C3 aA),sr eAl8 aN,vi aG] (fun v=>EY prog v (r.map fun(x:(List A0))=>[sr eAl8 x]))
def cf233 :Cf:=⟨[1000009],[],[],[],[],[]⟩
def ZO (N n:Nat):Prop:=∀(aK:B3) (aA:A1) (aN:List A0) (aG:Int) (bW:V) (bS:(List A0)→Int→Option (List (List A0))) (cF:∀y1 y2 q,bS y1 y2=some q→X7 prog bW [sr eAl8 y1,vi y2] (sr eAm6 q)) (cH:OneV bW) (r:(List (List A0))),K4 N n aK aA aN aG bS=some r→Al prog 233 [.eref (B5 aK) 0,(C3 aA),sr eAl8 aN,vi aG,bW] (fun v=>EY prog v (r.map fun(x:(List A0))=>[sr eAl8 x]))
def Ah3 (N n:Nat):Prop:=∀(aN:List A0) (aG:Int) (aM:B3) (aO:A1) (r:(List (List A0))),J4 N n aN aG aM aO=some r→B4 prog 234 [sr eAl8 aN,vi aG,.eref [.eref (B5 aM) 0] 0,.eref (D3 aO) 0] (sr eAm6 r)
def Ah2 (N n:Nat):Prop:=∀(aJ:A1) (aM:B3) (aO:List A0) (aS:Int) (r:(List (List A0))),P7 N n aJ aM aO aS=some r→FF prog 235 (fun yv=>[yv,.eref (D3 aJ) 0,.eref [.eref (B5 aM) 0] 0,.eref [sr eAl8 aO] 0,.eref [vi aS] 0]) (List.map (fun(x:(List A0))=>[sr eAl8 x]) r) rbN
def Ah1 (N n:Nat):Prop:=∀(aJ:A1) (aM:B3) (aO:List A0) (aS:Int) (r:(List (List A0))),P8 N n aJ aM aO aS=some r→FF prog 236 (fun yv=>[yv,.eref (D3 aJ) 0,.eref [.eref (B5 aM) 0] 0,.eref [sr eAl8 aO] 0,.eref [vi aS] 0]) (List.map (fun(x:(List A0))=>[sr eAl8 x]) r) rbN
def cf238 :Cf:=⟨[1000005],[(1,10),(6,8)],[],[],[],[]⟩
def Ah0 (N n:Nat):Prop:=∀(aJ:B3) (aM:A1) (aO:List A0) (aS:Int) (r:(List (List A0))),O0 N n aJ aM aO aS=some r→FF prog 238 (fun yv=>[yv,.eref [.eref (B5 aJ) 0] 0,.eref (D3 aM) 0,.eref [sr eAl8 aO] 0,.eref [vi aS] 0]) (List.map (fun(x:(List A0))=>[sr eAl8 x]) r) rbN
def Ag9 (N n:Nat):Prop:=∀(aN:List A0) (aG:Int) (aM:B3) (aO:A1) (r:(List (List A0))),H7 N n aN aG aM aO=some r→B4 prog 239 [sr eAl8 aN,vi aG,.eref [.eref (B5 aM) 0] 0,.eref (D3 aO) 0] (sr eAm6 r)
def cf240 :Cf:=⟨[],[(0,10)],[],[],[],[]⟩
def Ag8 (N n:Nat):Prop:=∀(aJ:B3) (aM:A1) (aO:List A0) (aS:Int) (r:(List (List A0))),N9 N n aJ aM aO aS=some r→FF prog 240 (fun yv=>[yv,.eref [.eref (B5 aJ) 0] 0,.eref (D3 aM) 0,.eref [sr eAl8 aO] 0,.eref [vi aS] 0]) (List.map (fun(x:(List A0))=>[sr eAl8 x]) r) rbN
def cf268 :Cf:=⟨[],[(3,10)],[],[],[],[]⟩
def Ag7 (N n:Nat):Prop:=∀(aJ:B3) (aM:A1) (aO:List A0) (aS:Int) (bU:V) (bV:(List A0)→Int→Option (List (List A0))) (cI:∀y1 y2 q,bV y1 y2=some q→X7 prog bU [sr eAl8 y1,vi y2] (sr eAm6 q)) (r:(List (List A0))),N8 N n aJ aM aO aS bV=some r→FF prog 268 (fun yv=>[yv,.eref [.eref (B5 aJ) 0] 0,.eref (D3 aM) 0,.eref [sr eAl8 aO] 0,.eref [vi aS] 0,.eref [bU] 0]) (List.map (fun(x:(List A0))=>[sr eAl8 x]) r) rbN
theorem k127 (N n:Nat) (ih191:Ah8 N n) (ih192:Ah7 N n) (ih193:Ah6 N n) (ih194:Ah5 N n) (ih195:Ah4 N n):Nn N (n+1):=by
 intro aK aA aN aG r h
 unfold C8 at h
 refine I4 cf127 func127 call127 ntmps127 ?_;intro E H0 K hE hK hO;cbv;refine C5 hE hO fun b1 H hO=>?_;cbv;refine C5 hE hO fun b2 H hO=>?_;cbv;refine Aa7 hE .string V.str V.bool hO fun m3 o4 H ho4 hO=>?_;cbv;refine C9 hE (g:=fun r5=>.agg [.func (.func 190) [] [],.func (.func 191) [] [],.func (.func 192) [] [],.func (.func 193) [] [],.func (.func 194) [] [],.func (.func 195) [] [],.func (.func 195) [] [],.func (.func 195) [] []]) h (c159 N) (.refl _) fun r5 h=>?_;cbv;refine Zh hE (Good:=fun v6 (f7:B3→A1→(List A0)→Int→Option (List (List A0)))=>∀y1 y2 y3 y4 q,f7 y1 y2 y3 y4=some q→Tp prog v6 [.eref (B5 y1) 0,(C3 y2),sr eAl8 y3,vi y4] (fun w=>EY prog w (q.map fun(x:(List A0))=>[sr eAl8 x]))) (xs:=[.func (.func 190) [] [],.func (.func 191) [] [],.func (.func 192) [] [],.func (.func 193) [] [],.func (.func 194) [] [],.func (.func 195) [] [],.func (.func 195) [] [],.func (.func 195) [] []]) (.cons (fun y1 y2 y3 y4 r hx=>Al.value (F:=[]) (C:=[]) (c190 N y1 y2 y3 y4 r hx)) (.cons (fun y1 y2 y3 y4 r hx=>Al.value (F:=[]) (C:=[]) (ih191 y1 y2 y3 y4 r hx)) (.cons (fun y1 y2 y3 y4 r hx=>Al.value (F:=[]) (C:=[]) (ih192 y1 y2 y3 y4 r hx)) (.cons (fun y1 y2 y3 y4 r hx=>Al.value (F:=[]) (C:=[]) (ih193 y1 y2 y3 y4 r hx)) (.cons (fun y1 y2 y3 y4 r hx=>Al.value (F:=[]) (C:=[]) (ih194 y1 y2 y3 y4 r hx)) (.cons (fun y1 y2 y3 y4 r hx=>Al.value (F:=[]) (C:=[]) (ih195 y1 y2 y3 y4 r hx)) (.cons (fun y1 y2 y3 y4 r hx=>Al.value (F:=[]) (C:=[]) (ih195 y1 y2 y3 y4 r hx)) (.cons (fun y1 y2 y3 y4 r hx=>Al.value (F:=[]) (C:=[]) (ih195 y1 y2 y3 y4 r hx)) (.nil))))))))) h fun v6 f7 hv6 h=>?_;cbv;refine Xo hE h (fun r8 hx=>hv6 aK aA aN aG r8 hx) (.refl _) fun r8 v9 hv9 h=>?_;cbv;replace hO:=hO.tl0 (t:=.nil) rfl;obtain⟨o16,hx,h⟩:=bind_some h;replace hO:=hO.cast (L':=[.tl .nil,.blk m3 (.obj o4),cb b2 [.sl (lst eAm6 ([])) .nil],cb b1 [.sl [] .nil]]) (by simp only[ob,cb,sr,←E6]<;>rfl);refine Lr cf127 hE M3 (ι:=Unit) (enc:=fun(x:(List A0))=>[sr eAl8 x]) (fun(s11:(List (ByteArray×Bool))×(List (List A0))) F H=>∃g:D1×Obj,(K8 g.1∧Wb .string V.str V.bool g.2 s11.1)∧C1 Eq F [.tl g.1,.blk m3 (.obj g.2),cb b2 [.sl (lst eAm6 s11.2) g.1],cb b1 [.sl [] .nil]] H) (fun(r:((List (ByteArray×Bool))×(List (List A0)))) e F H=>∃g:D1×Obj,(e= .ret∧K8 g.1∧Wb .string V.str V.bool g.2 r.1)∧C1 Eq F [.tl g.1,.blk m3 (.obj g.2),cb b2 [.sl (lst eAm6 r.2) g.1],cb b1 [.sl [] .nil]] H) (fun i s11 y10=>[(4,.v (.eref [.eref (B5 aK) 0] 0)),(8,.v (.ref b1 0)),(9,.v (.ref b2 0)),(10,.v (.eref [.map m3] 0)),(12,.v (sr eAl8 y10))]) (fun i s11 y10 F H=>∃g:D1×Obj,(K8 g.1∧Wb .string V.str V.bool g.2 s11.1)∧C1 Eq F [.tl g.1,.blk m3 (.obj g.2),cb b2 [.sl (lst eAm6 s11.2) g.1],cb b1 [.sl [] .nil]] H) (fun _=>D7.ex fun _=>C1.stable F4 _) (fun _ _=>D7.ex fun _=>C1.stable F4 _) (fun _ _ _=>D7.ex fun _=>C1.stable F4 _) hv9 hx (⟨⟨.nil,o4⟩,⟨trivial,ho4⟩,hO⟩) (by decide) (fun _=>rfl) (by kernel_rfl) (by kernel_rfl) ?_ ?_ ?_ ?_
 ·rintro E i13 y10 s11 F12 H hE ⟨⟨t14,q15⟩,⟨ht14,hq15⟩,hO⟩;clear hx h;cbv;exact⟨(),⟨⟨t14,q15⟩,⟨ht14,hq15⟩,hO⟩,.e rfl (.e4 .z),rfl⟩
 ·rintro E i13 _ y10 s11 F12 H o hE hF h ⟨⟨t14,q15⟩,⟨ht14,hq15⟩,hO⟩;clear hx;cbv;refine A5 hE h (c160 N y10) (.refl _) fun r17 h=>?_;cbv;refine SF hE (kt:=9) (et:=4) (by kernel_rfl) (by kernel_rfl) QO (false:Bool) (by kernel_rfl) rfl hO hq15 1 rfl h fun r18 h=>?_;cbv;refine A8 hE h (fun _ h=>?_) fun _ h=>?_
  ·cbv;cases h;exact⟨_,rfl,⟨⟨t14,q15⟩,⟨ht14,hq15⟩,hO⟩⟩
  cbv;refine SE hE (kt:=9) (et:=4) (by kernel_rfl) (by kernel_rfl) QO Kk hO hq15 1 rfl h fun l20 o19 H ho19 h hO=>?_;cbv;refine B2 hE hO 2 rfl ?_;cbv;refine AO (f:=eAm6) hE GH (by decide) hO 0 rfl ht14 (l:=s11.2) (m:=[y10]) (.refl _) (.lstc (.eq (eAn5 y10) (.refl _)) (.lst0)) h fun l22 t21 H hO ht21 h=>?_;cbv;refine A9 hE hO 2 rfl rfl fun H hO=>?_;cbv;refine B2 hE hO 2 rfl ?_;cbv;refine D5 hE ?_;cbv;obtain⟨s23,hx,h⟩:=bind_some h;refine S3 cf127 hE M3 (fun e l H1=>e= .normal∧l=[(4,.v (.eref [.eref (B5 aK) 0] 0)),(8,.v (.ref b1 0))]∧C1 Eq F12 [.tl t21,.blk m3 (.obj o19),cb b2 [.sl (lst eAm6 l22) t21],cb b1 [.sl [] .nil]] H1) (by kernel_rfl) ?_ ?_
  ·clear h;have h:=hx;clear hx;cbv;refine A8 hE h (fun _ h=>?_) fun _ h=>?_
   ·cbv;cases h
   cbv;cases h;exact⟨_,⟨rfl,rfl,hO⟩,.e2 .z,rfl⟩
  clear hx;rintro e l H ⟨rfl,rfl,hO⟩;cbv;refine A8 hE h (fun _ h=>?_) fun _ h=>?_
  ·cbv;refine A9 hE hO 3 rfl rfl fun H hO=>?_;cbv;cases h;exact⟨_,rfl,rfl,⟨⟨t21,o19⟩,⟨rfl,⟨ht21,ho19⟩⟩,hO⟩⟩
  cbv;cases h;exact⟨_,rfl,⟨⟨t21,o19⟩,⟨ht21,ho19⟩,hO⟩⟩
 ·rintro d24 s28 H rfl hd ⟨⟨t29,q30⟩,⟨ht29,hq30⟩,hO⟩;have hO:C1 Eq H0 [.tl t29,.blk m3 (.obj q30),cb b2 [.sl (lst eAm6 s28.2) t29],cb b1 [.sl [] .nil],.blk d24 DB] H:=C1.dblk hd hO;clear hd;clear hx;cbv;refine B2 hE hO 2 rfl ?_;cbv;refine A9 hE hO 3 rfl rfl fun H hO=>?_;cbv;refine Jv hE hO 4 rfl fun H hO=>?_;cbv;refine B2 hE hO 3 rfl ?_;cbv;cases h;exact hK hO (.ro _ _)
 rintro d24 y31 e H rfl hd hX;clear hx
 rcases hX with⟨⟨t32,q33⟩,⟨rfl,ht32,hq33⟩,hO⟩
 have hO:C1 Eq H0 [.tl t32,.blk m3 (.obj q33),cb b2 [.sl (lst eAm6 y31.2) t32],cb b1 [.sl [] .nil],.blk d24 DB] H:=C1.dblk hd hO;clear hd;cbv;refine Jv hE hO 4 rfl fun H hO=>?_;cbv;refine B2 hE hO 3 rfl ?_;cbv;cases h;exact hK hO (.lit _ (E6))
theorem k191 (N n:Nat)(ih127:Nn N n)(ih233:ZO N n)(ih234:Ah3 N n):Ah8 N (n+1):=by
 intro aK aA aN aG r h
 unfold L4 at h
 refine Q7 cf191 M3 func191 (by rfl) (by kernel_rfl) call191 ntmps191 (by rfl) (by rfl) ?_;intro E H0 K hE hK;have hO:C1 Eq H0 [] H0:=.start F4 rfl;cbv;refine D5 hE ?_;cbv;refine A8 hE h (fun _ h=>?_) fun _ h=>?_
 ·cbv;refine B8 hE eAm2 h fun x1 h=>?_;cbv;refine A5 hE h (ih127 aK x1 aN aG) (.refl _) fun r2 h=>?_;cbv;refine HP hE h (c232 N r2) (.refl _) fun r3 v4 hv4 h=>?_;cbv;cases h;exact hK _ _ _ hO hv4
 cbv;refine C5 hE hO fun b5 H hO=>?_;cbv;refine A9 hE hO 0 rfl rfl fun H hO=>?_;cbv;refine FW hE (f:=eAm3) GI h fun l6 t7 h=>?_;cbv;refine A9 hE hO 0 rfl rfl fun H hO=>?_;cbv;refine Ae1 hE hO 0 rfl (.cons (.refl _) (.cons (.ro _ _) (.refl _))) fun H hO=>?_;cbv;refine B8 hE eAm2 h fun x8 h=>?_;cbv;refine HP hE h (fun r9 hx=>ih233 aK x8 aN aG (.func (.func 234) [] [.eref [.eref (B5 aK) 0] 0,.eref [vi aA.Op,sr eAm3 l6,vi aA.Typ,vi aA.Var,vi aA.cQ,vi aA.Span,vi aA.cN.Op,sr eAn2 aA.cN.cL,vi aA.cN.Var,vi aA.cN.Field,vi aA.cN.Kind,vi aA.cN.Value.Kind,vi aA.cN.Value.Num,.str aA.cN.Value.Text] 0]) (fun y1 y2=>J4 N n y1 y2 aK ({aA with cL:=l6})) (fun y1 y2 r hx=>B4.value (F:=[]) (C:=[.eref [.eref (B5 aK) 0] 0,.eref [vi aA.Op,sr eAm3 l6,vi aA.Typ,vi aA.Var,vi aA.cQ,vi aA.Span,vi aA.cN.Op,sr eAn2 aA.cN.cL,vi aA.cN.Var,vi aA.cN.Field,vi aA.cN.Kind,vi aA.cN.Value.Kind,vi aA.cN.Value.Num,.str aA.cN.Value.Text] 0]) (ih234 y1 y2 aK ({aA with cL:=l6}) r hx)) ⟨rfl,rfl⟩ r9 hx) (.refl _) fun r9 v10 hv10 h=>?_;cbv;cases h;exact hK _ _ _ hO hv10
theorem k192 (N n:Nat)(ih235:Ah2 N n):Ah7 N (n+1):=by
 intro aK aA aN aG r h
 unfold L5 at h
 refine Q7 cf0 M3 func192 (by rfl) (by kernel_rfl) call192 ntmps192 (by rfl) (by rfl) ?_;intro E H0 K hE hK;have hO:C1 Eq H0 [] H0:=.start F4 rfl;cbv;exact hK _ _ _ hO (U6 call235 (ih235 aA aK aN aG r h))
theorem k193 (N n:Nat)(ih236:Ah1 N n):Ah6 N (n+1):=by
 intro aK aA aN aG r h
 unfold L6 at h
 refine Q7 cf0 M3 func193 (by rfl) (by kernel_rfl) call193 ntmps193 (by rfl) (by rfl) ?_;intro E H0 K hE hK;have hO:C1 Eq H0 [] H0:=.start F4 rfl;cbv;exact hK _ _ _ hO (U6 call236 (ih236 aA aK aN aG r h))
theorem k194 (N n:Nat)(ih238:Ah0 N n):Ah5 N (n+1):=by
 intro aK aA aN aG r h
 unfold K5 at h
 refine Q7 cf0 M3 func194 (by rfl) (by kernel_rfl) call194 ntmps194 (by rfl) (by rfl) ?_;intro E H0 K hE hK;have hO:C1 Eq H0 [] H0:=.start F4 rfl;cbv;exact hK _ _ _ hO (U6 call238 (ih238 aK aA aN aG r h))
theorem k195 (N n:Nat)(ih240:Ag8 N n):Ah4 N (n+1):=by
 intro aK aA aN aG r h
 unfold E5 at h
 refine Q7 cf0 M3 func195 (by rfl) (by kernel_rfl) call195 ntmps195 (by rfl) (by rfl) ?_;intro E H0 K hE hK;have hO:C1 Eq H0 [] H0:=.start F4 rfl;cbv;exact hK _ _ _ hO (U6 call240 (ih240 aK aA aN aG r h))
theorem k233 (N n:Nat)(ih268:Ag7 N n):ZO N (n+1):=by
 intro aK aA aN aG bW bS cF cH r h
 unfold K4 at h
 refine Q7 cf233 M3 func233 (by rfl) (by kernel_rfl) call233 ntmps233 (by rfl) (by rfl) ?_;intro E H0 K hE hK;have hO:C1 Eq H0 [] H0:=.start F4 rfl;cbv;refine IG hE cH ?_;cbv;exact hK _ _ _ hO (U6 call268 (ih268 aK aA aN aG bW bS cF r h))
theorem k234 (N n:Nat)(ih127:Nn N n):Ah3 N (n+1):=by
 intro aN aG aM aO r h
 unfold J4 at h
 refine I4 cf0 func234 call234 ntmps234 ?_;intro E H0 K hE hK hO;cbv;refine A5 hE h (ih127 aM aO aN aG) (.refl _) fun r1 h=>?_;cbv;cases h;exact hK hO (.refl _)
theorem k235 (N n:Nat) (ih127:Nn N n):Ah2 N (n+1):=by
 intro aJ aM aO aS r h
 unfold P7 at h
 obtain⟨⟨w0,u0⟩,h1,hr⟩:=bind_some h;clear h;have hr:=G2 hr;subst hr;have h:=h1;clear h1;refine N4 cf0 M3 func235 (by rfl) (by kernel_rfl) call235 ntmps235 (by rfl) (fun _=>rfl) ?_;intro yv I D hI hD hy tl F E H K hE hO hK hKD
 have hO:C1 (I (List.map (fun(x:(List A0))=>[sr eAl8 x]) (w0++[])++tl)) F [] H:=by rw[append_nil];exact hO
 cbv;refine D5 hE ?_;cbv;obtain⟨w2,w3,s6,hx,h1,he⟩:=Q0 h;clear h;have h:=h1;clear h1
 rw[he,append_assoc]at hO
 clear he;refine BX cf0 hE M3 (γ:=Unit) (fun s1 g=>[(0,.v (yv)),(2,.v (.eref [.eref (B5 aM) 0] 0)),(3,.v (.eref [sr eAl8 aO] 0)),(4,.v (.eref [vi aS] 0)),(11,.v (sr eAm3 aJ.cL)),fi 12 (Ar.len aJ.cL),fi 13 s1]) (fun s1 g w H1=>C1 (I (List.map (fun(x:(List A0))=>[sr eAl8 x]) w++tl)) F [] H1) (fun x e l w H1=>e= .exit 0∧l=[]∧C1 (I (List.map (fun(x:(List A0))=>[sr eAl8 x]) w++tl)) F [] H1) (fun e l H1=>(e= .ret∧l=[]∧C1 D F [] H1)) (by kernel_rfl) ?_ (w':=w3++[]) () hx ?_ ?_ ?_ ?_
 ·rintro s1 _ w4 w5 H o hO h;clear hx
  skip
  cbv;refine A8 hE h (fun _ h=>?_) fun _ h=>?_
  ·cbv;refine B8 hE eAm2 h fun x7 h=>?_;cbv;refine A5 hE h (ih127 aM x7 aO aS) (.refl _) fun r8 h=>?_;cbv;refine D5 hE ?_;cbv;obtain⟨w10,w11,s14,hx,h1,he⟩:=Q0 h;clear h;have h:=h1;clear h1
   rw[he,append_assoc]at hO
   clear he;refine BX cf0 hE M3 (γ:=Unit) (fun s9 g=>[(0,.v (yv)),(2,.v (.eref [.eref (B5 aM) 0] 0)),(3,.v (.eref [sr eAl8 aO] 0)),(4,.v (.eref [vi aS] 0)),(11,.v (sr eAm3 aJ.cL)),fi 12 (Ar.len aJ.cL),fi 13 s1,(21,.v (sr eAm6 r8)),fi 22 (Ar.len r8),fi 23 s9]) (fun s9 g w H1=>C1 (I (List.map (fun(x:(List A0))=>[sr eAl8 x]) w++tl)) F [] H1) (fun x e l w H1=>e= .exit 2∧l=[(0,.v (yv)),(2,.v (.eref [.eref (B5 aM) 0] 0)),(3,.v (.eref [sr eAl8 aO] 0)),(4,.v (.eref [vi aS] 0)),(11,.v (sr eAm3 aJ.cL)),fi 12 (Ar.len aJ.cL),fi 13 s1]∧C1 (I (List.map (fun(x:(List A0))=>[sr eAl8 x]) w++tl)) F [] H1) (fun e l H1=>(e= .ret∧l=[]∧C1 D F [] H1)) (by kernel_rfl) ?_ (w':=w11++w5) () hx ?_ ?_ ?_ ?_
   ·rintro s9 _ w12 w13 H o hO h;clear hx
    skip
    cbv;refine A8 hE h (fun _ h=>?_) fun _ h=>?_
    ·cbv;refine B8 hE eAn5 h fun x15 h=>?_;cbv;obtain⟨w16,h1,he⟩:=U8 h;clear h;have h:=h1;clear h1
     rw[he,append_assoc]at hO
     clear he;have hO:C1 (I ([sr eAl8 x15]::(List.map (fun(x:(List A0))=>[sr eAl8 x]) (w16++w13)++tl))) F [] _:=hO;refine Du hE hI hD hy hO (.refl _) (fun H hO=>?_) (fun H hO=>?_)
     ·cbv;refine Ic hE (nt_eq _) ?_;cbv;obtain⟨hw,rfl⟩:=D0 h
      rw[←hw]at hO
      exact⟨_,(),rfl,.e2 (.e4 (.e4 .z)),rfl,hO⟩
     clear h;cbv;refine Ib hE (nt_eq _) ?_;cbv;exact .inr ⟨_,⟨rfl,rfl,hO⟩,.z,rfl⟩
    cbv;obtain⟨hw,rfl⟩:=D0 h
    rw[←hw]at hO
    exact .inl ⟨_,_,rfl,⟨rfl,rfl,hO⟩,.e rfl (.e2 (.e4 .z)),rfl⟩
   ·exact .e2 (.e4 (.e4 .z))
   ·exact hO
   ·rintro e l H ⟨rfl,rfl,hO⟩;clear hx;cbv;obtain⟨hw,rfl⟩:=D0 h
    rw[←hw]at hO
    exact⟨_,(),rfl,.e rfl (.e2 (.e4 .z)),rfl,hO⟩
   rintro e l H hX;obtain⟨rfl,rfl,hO⟩:=hX;clear h;cbv;exact .inr ⟨_,⟨rfl,rfl,hO⟩,.z,rfl⟩
  cbv;obtain⟨hw,rfl⟩:=D0 h
  rw[←hw]at hO
  exact .inl ⟨_,_,rfl,⟨rfl,rfl,hO⟩,.z,rfl⟩
 ·exact .e rfl (.e2 (.e4 .z))
 ·exact hO
 ·rintro e l H ⟨rfl,rfl,hO⟩;clear hx;cbv;obtain⟨hw,_⟩:=D0 h
  rw[←hw]at hO
  exact hK _ _ _ hO trivial
 rintro e l H hX;obtain⟨rfl,rfl,hO⟩:=hX;clear h;cbv;exact hKD _ _ _ hO trivial
end Go.Ab
