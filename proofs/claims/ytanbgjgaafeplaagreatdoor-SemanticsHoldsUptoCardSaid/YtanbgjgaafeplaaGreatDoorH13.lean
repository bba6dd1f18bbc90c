/- GTCo2 GTCo3 -/
import Derived.Test.YtanbgjgaafeplaaGreatDoorH12
set_option linter.all false
open List (append_assoc append_nil)
open Go.Ab.Ar (an lst nt_eq wr)
namespace Go.Ab
open Go.RowKit Go.Proofs Go.Proofs.Tryz H7
variable [Ar][H7]
set_option maxRecDepth 100000
def cf141 :Cf:=⟨[],[(1,9)],[],[],[],[]⟩
theorem c141 (N aN bH r)(h:W6 N aN bH=some r):B4 prog 141 [(DP aN),(DP bH)] (vi r):=by
 unfold W6 at h
 refine I6 cf141 func141 call141 ntmps141 ?_;intro E H0 K hE hK hO;cbv;refine C9 hE (g:=fun r1=>vi r1) h (c139 N aN.Ref bH.Ref) (.refl _) fun r1 h=>?_;cbv;refine A4 hE h (c143 N aN.Var bH.Var) (.refl _) fun r2 h=>?_;cbv;refine A4 hE h (c142 N ([r1,r2])) (.cons (.lit _ (G0 (rfl) (G0 (rfl) (E8)))) (.refl _)) fun r3 h=>?_;cbv;cases h;exact hK hO (.refl _)
theorem c102 (N aD aF r)(h:N8 N aD aF=some r):B4 prog 102 [(W9 aD),(W9 aF)] (vi r):=by
 unfold N8 at h
 refine I6 cf0 func102 call102 ntmps102 ?_;intro E H0 K hE hK hO;cbv;refine A4 hE (g:=fun r1=>vi r1) h (fun r1 hx=>c140 N aD.cQ aF.cQ (.func (.func 141) [] []) (fun y1 y2=>W6 N y1 y2) (fun y1 y2 r hx=>B4.value (F:=[]) (C:=[]) (c141 N y1 y2 r hx)) r1 hx) (.refl _) fun r1 h=>?_;cbv;cases h;exact hK hO (.refl _)
theorem c156 (N aB r)(h:CU N aB=some r):B4 prog 156 [(W2 aB)] (.bool r):=by
 unfold CU at h
 refine I6 cf0 func156 call156 ntmps156 ?_;intro E H0 K hE hK hO;cbv;cases h;exact hK hO (.refl _)
def cf157 :Cf:=⟨[],[(1,3),(3,14)],[],[],[],[]⟩
theorem c157 (N aD aF r)(h:BC N aD aF=some r):B4 prog 157 [(W2 aD),(W2 aF)] (vi r):=by
 unfold BC at h
 refine I6 cf157 func157 call157 ntmps157 ?_;intro E H0 K hE hK hO;cbv;refine C9 hE (g:=fun r1=>(GQ r1)) h (c96 N aD) (.refl _) fun r1 h=>?_;cbv;refine A4 hE h (c96 N aF) (.refl _) fun r2 h=>?_;cbv;refine A7 hE h (fun _ h=>?_) fun _ h=>?_
 ·cbv;cases h;exact hK hO (.refl _)
 cbv;refine C9 hE (g:=fun r3=>vi r3) h (c143 N aD.Time aF.Time) (.refl _) fun r3 h=>?_;cbv;refine C9 hE (g:=fun r4=>vi r4) h (c143 N aD.Source aF.Source) (.refl _) fun r4 h=>?_;cbv;refine A4 hE h (c143 N aD.Seq aF.Seq) (.refl _) fun r5 h=>?_;cbv;refine A4 hE h (c142 N ([r3,r4,r5])) (.cons (.lit _ (G0 (rfl) (G0 (rfl) (G0 (rfl) (E8))))) (.refl _)) fun r6 h=>?_;cbv;cases h;exact hK hO (.refl _)
def cf158 :Cf:=⟨[2],[],[],[],[],[]⟩
theorem c158 (N aB r)(h:Cy N aB=some r):B4 prog 158 [(W2 aB)] ((Js r)):=by
 unfold Cy at h
 refine I6 cf158 func158 call158 ntmps158 ?_;intro E H0 K hE hK hO;cbv;refine C6 hE hO fun b1 H hO=>?_;cbv;refine B0 hE hO 0 rfl rfl fun H hO=>?_;cbv;refine B2 hE hO 0 rfl ?_;cbv;cases h;exact hK hO (.refl _)
def cf126 :Cf:=⟨[5],[(9,9)],[],[],[],[]⟩
theorem c126 (N aC r) (h:Cd N aC=some r):B4 prog 126 [sr eAp0 aC] (vi r):=by
 unfold Cd at h
 refine I6 cf126 func126 call126 ntmps126 ?_;intro E H0 K hE hK hO;cbv;refine D5 hE ?_;cbv;refine A7 hE h (fun _ h=>?_) fun _ h=>?_
 ·cbv;cases h;exact hK hO (.refl _)
 cbv;refine Ad3 hE Rq eAr1 V.bool hO fun m1 o2 H ho2 hO=>?_;cbv;refine D5 hE ?_;cbv;obtain⟨s5,hx,h⟩:=bind_some h;refine N0 cf126 hE L8 (γ:=Obj) (fun s3 g=>[(0,.v (sr eAp0 aC)),(3,.v (.map m1)),(10,.v (sr eAp0 aC)),fi 11 (Ar.len aC),fi 12 s3.1]) (fun s3 g H1=>Wr Rq eAr1 V.bool g s3.2∧C2 Eq H0 [.blk m1 (.obj g)] H1) (fun x e l H1=>match(generalizing:=false) x with| .inl y=>∃u1:Obj,Wr Rq eAr1 V.bool u1 y∧e= .exit 0∧l=[]∧C2 Eq H0 [.blk m1 (.obj u1)] H1| .inr y=>∃u1:Obj,Wr Rq eAr1 V.bool u1 y.2∧e= .ret∧l=[fi 2 y.1]∧C2 Eq H0 [.blk m1 (.obj u1)] H1) (by kernel_rfl) ?_ o2 hx ?_ ?_ ?_
 ·rintro s3 q4 H o ⟨hq4,hO⟩ h;clear hx;cbv;refine A7 hE h (fun _ h=>?_) fun _ h=>?_
  ·cbv;refine B9 hE eAp7 h fun x6 h=>?_;cbv;refine C6 hE hO fun b7 H hO=>?_;cbv;refine B0 hE hO 0 rfl rfl fun H hO=>?_;cbv;refine B2 hE hO 0 rfl ?_;cbv;refine A4 hE h (c156 N x6) (.refl _) fun r8 h=>?_;cbv;refine A7 hE h (fun _ h=>?_) fun _ h=>?_
   ·cbv;cases h;exact⟨_,_,rfl,⟨q4,hq4,rfl,rfl,hO.tail⟩,.e rfl .z,rfl⟩
   cbv;refine A7 hE h (fun _ h=>?_) fun _ h=>?_
   ·cbv;refine B9 hE eAp7 h fun x9 h=>?_;cbv;refine B2 hE hO 0 rfl ?_;cbv;refine A4 hE h (c157 N x9 x6) (.refl _) fun r10 h=>?_;cbv;refine A7 hE h (fun _ h=>?_) fun _ h=>?_
    ·cbv;cases h;exact⟨_,_,rfl,⟨q4,hq4,rfl,rfl,hO.tail⟩,.e rfl .z,rfl⟩
    cbv;refine B2 hE hO 0 rfl ?_;cbv;refine A4 hE h (c158 N x6) (.refl _) fun r11 h=>?_;cbv;refine XB (eAr2 r11) ?_;refine SV hE (kt:=212) (et:=4) (by kernel_rfl) (by kernel_rfl) Un (false:Bool) (by kernel_rfl) rfl hO hq4 1 rfl h fun r12 h=>?_;cbv;refine A7 hE h (fun _ h=>?_) fun _ h=>?_
    ·cbv;cases h;exact⟨_,_,rfl,⟨q4,hq4,rfl,rfl,hO.tail⟩,.e rfl .z,rfl⟩
    cbv;refine B2 hE hO 0 rfl ?_;cbv;refine A4 hE h (c158 N x6) (.refl _) fun r13 h=>?_;cbv;refine Ui (eAr2 r13) ?_;refine SU hE (kt:=212) (et:=4) (by kernel_rfl) (by kernel_rfl) Un Kt hO hq4 1 rfl h fun l15 o14 H ho14 h hO=>?_;cbv;cases h;exact⟨_,o14,rfl,.e rfl (.e4 .z),rfl,ho14,hO.tail⟩
   cbv;refine B2 hE hO 0 rfl ?_;cbv;refine A4 hE h (c158 N x6) (.refl _) fun r16 h=>?_;cbv;refine XB (eAr2 r16) ?_;refine SV hE (kt:=212) (et:=4) (by kernel_rfl) (by kernel_rfl) Un (false:Bool) (by kernel_rfl) rfl hO hq4 1 rfl h fun r17 h=>?_;cbv;refine A7 hE h (fun _ h=>?_) fun _ h=>?_
   ·cbv;cases h;exact⟨_,_,rfl,⟨q4,hq4,rfl,rfl,hO.tail⟩,.e rfl .z,rfl⟩
   cbv;refine B2 hE hO 0 rfl ?_;cbv;refine A4 hE h (c158 N x6) (.refl _) fun r18 h=>?_;cbv;refine Ui (eAr2 r18) ?_;refine SU hE (kt:=212) (et:=4) (by kernel_rfl) (by kernel_rfl) Un Kt hO hq4 1 rfl h fun l20 o19 H ho19 h hO=>?_;cbv;cases h;exact⟨_,o19,rfl,.e rfl (.e4 .z),rfl,ho19,hO.tail⟩
  cbv;cases h;exact⟨_,_,rfl,⟨q4,hq4,rfl,rfl,hO⟩,.z,rfl⟩
 ·exact .e rfl (.e4 .z)
 ·exact⟨ho2,hO⟩
 clear hx
 rcases s5 with y21|y23
 ·rintro e l H ⟨q22,hq22,rfl,rfl,hO⟩;cbv;cases h;exact hK hO (.refl _)
 rintro e l H ⟨q24,hq24,rfl,rfl,hO⟩;cbv;cases h;exact hK hO (.refl _)
def cf159 :Cf:=⟨[0],[],[],[],[],[]⟩
theorem c159 (N r)(h:AA N=some r):B4 prog 159 [] (.agg [.func (.func 190) [] [],.func (.func 191) [] [],.func (.func 192) [] [],.func (.func 193) [] [],.func (.func 194) [] [],.func (.func 195) [] [],.func (.func 195) [] [],.func (.func 195) [] []]):=by
 unfold AA at h
 refine I6 cf159 func159 call159 ntmps159 ?_;intro E H0 K hE hK hO;cbv;refine C6 hE hO fun b1 H hO=>?_;cbv;refine B0 hE hO 0 rfl rfl fun H hO=>?_;cbv;refine B2 hE hO 0 rfl ?_;cbv;cases h;exact hK hO (.refl _)
theorem c291 (N bB r)(h:Fj N bB=some r):B4 prog 291 [vi bB] (.str r):=RK Go.Proofs.Tryz.laysNm283 call291 h
theorem c273 (N bG bB bE r) (h:V5 N bG bB bE=some r):PN prog 273 [.int .u64 bB,vi bE] 1 (lst (V.int .u8) bG) (lst (V.int .u8) r):=by
 unfold V5 at h
 intro H0 q0 hq0 hk0;refine KF (T:=TT) (F:=upd H0 q0.id none) cf0 L8 func273 (by rfl) (by kernel_rfl) call273 ntmps273 (by rfl) (by rfl) ?_;intro E K hE hK hN;have hO:C2 Eq (upd H0 q0.id none) [ob q0 1 (V.int .u8) bG] H0:=C2.startO hk0;have hq0:EG q0 (Ar.len bG):=Pd hq0;cbv;refine A7 hE h (fun _ h=>?_) fun _ h=>?_
 ·cbv;refine A7 hE h (fun _ h=>?_) fun _ h=>?_
  ·cbv;refine A4 hE h (c291 N (wr .i64 bB)) (.refl _) fun r1 h=>?_;cbv;refine ZB hE (by decide) hO hq0 0 rfl h fun l3 q2 H hq2 hO h=>?_;cbv;cases h;exact hK q2 _ _ (HW hE hq2) (hO)
  cbv;cases h
 cbv;cases h
theorem c242 (N bG bB bE r)(h:Y2 N bG bB bE=some r):PN prog 242 [vi bB,vi bE] 1 (lst (V.int .u8) bG) (lst (V.int .u8) r):=by
 unfold Y2 at h
 intro H0 q0 hq0 hk0;refine KF (T:=TT) (F:=upd H0 q0.id none) cf0 L8 func242 (by rfl) (by kernel_rfl) call242 ntmps242 (by rfl) (by rfl) ?_;intro E K hE hK hN;have hO:C2 Eq (upd H0 q0.id none) [ob q0 1 (V.int .u8) bG] H0:=C2.startO hk0;have hq0:EG q0 (Ar.len bG):=Pd hq0;cbv;refine A7 hE h (fun _ h=>?_) fun _ h=>?_
 ·cbv;refine Gi (f:=(V.int .u8)) hE (fun _=>rfl) (by decide) hO hq0 0 rfl (m:=[45]) (GU (f:=(V.int .u8)) hE (fun _=>rfl) (.lstc (.refl _) (.lst0))) h fun l2 q1 H hq1 hO h=>?_;cbv;refine Hm hE (f:=(V.int .u8)) hO hq1 0 rfl h (c273 N l2 (Ar.neg .u64 (wr .u64 bB)) bE) (.refl _) fun l3 q4 H hq4 hO h=>?_;cbv;cases h;exact hK q4 _ _ (HW hE hq4) (hO)
 cbv;refine Hm hE (f:=(V.int .u8)) hO hq0 0 rfl h (c273 N bG (wr .u64 bB) bE) (.refl _) fun l5 q6 H hq6 hO h=>?_;cbv;cases h;exact hK q6 _ _ (HW hE hq6) (hO)
theorem c196 (N bG bB bE r)(h:G1 N bG bB bE=some r):PN prog 196 [vi bB,vi bE] 1 (lst (V.int .u8) bG) (lst (V.int .u8) r):=by
 unfold G1 at h
 intro H0 q0 hq0 hk0;refine KF (T:=TT) (F:=upd H0 q0.id none) cf0 L8 func196 (by rfl) (by kernel_rfl) call196 ntmps196 (by rfl) (by rfl) ?_;intro E K hE hK hN;have hO:C2 Eq (upd H0 q0.id none) [ob q0 1 (V.int .u8) bG] H0:=C2.startO hk0;have hq0:EG q0 (Ar.len bG):=Pd hq0;cbv;refine Hm hE (f:=(V.int .u8)) hO hq0 0 rfl h (c242 N bG bB bE) (.refl _) fun l1 q2 H hq2 hO h=>?_;cbv;cases h;exact hK q2 _ _ (HW hE hq2) (hO)
def cf160 :Cf:=⟨[6000003],[(3000006,0),(3000006,3),(3000006,4),(3000006,8)],[],[2000006],[],[]⟩
set_option maxHeartbeats 2000000 in
theorem c160 (N aI r) (h:M3 N aI=some r):B4 prog 160 [sr eAo9 aI] (.str r):=by
 unfold M3 at h
 refine I6 cf160 func160 call160 ntmps160 ?_;intro E H0 K hE hK hO;cbv;refine ST hE (f:=(V.int .u8)) hO fun q1 H hq1 hO=>?_;cbv;refine D5 hE ?_;cbv;obtain⟨s4,hx,h⟩:=bind_some h;refine N0 cf160 hE L8 (γ:=OG) (fun s2 g=>[(3,.v (.own g.id g.lo g.n)),(6,.v (sr eAo9 aI)),fi 7 (Ar.len aI),fi 8 s2.1]) (fun s2 g H1=>EG g (Ar.len s2.2)∧C2 Eq H0 [ob g 1 (V.int .u8) s2.2] H1) (fun x e l H1=>∃u1:OG,EG u1 (Ar.len x)∧e= .exit 0∧l=[(3,.v (.own u1.id u1.lo u1.n))]∧C2 Eq H0 [ob u1 1 (V.int .u8) x] H1) (by kernel_rfl) ?_ q1 hx ?_ ?_ ?_
 ·rintro s2 q3 H o ⟨hq3,hO⟩ h;clear hx;cbv;refine A7 hE h (fun _ h=>?_) fun _ h=>?_
  ·cbv;refine B9 hE eAq7 h fun x5 h=>?_;cbv;refine Hm hE (f:=(V.int .u8)) hO hq3 0 rfl h (c196 N s2.2 x5.cU 10) (.refl _) fun l6 q7 H hq7 hO h=>?_;cbv;obtain⟨s8,hx,h⟩:=bind_some h;refine S8 cf160 hE L8 (fun e l H1=>∃u1:OG,EG u1 (Ar.len s8)∧e= .normal∧l=[(3,.v (.own u1.id u1.lo u1.n)),(6,.v (sr eAo9 aI)),fi 7 (Ar.len aI),fi 8 s2.1]∧C2 Eq H0 [ob u1 1 (V.int .u8) s8] H1) (by kernel_rfl) ?_ ?_
   ·clear h;have h:=hx;clear hx;cbv
    repeat' first|refine And.intro ?_ ?_|(refine Gi (f:=(V.int .u8)) hE (fun _=>rfl) (by decide) hO hq7 0 rfl (m:=[64]) (GU (f:=(V.int .u8)) hE (fun _=>rfl) (.lstc (.refl _) (.lst0))) h fun l90 q89 H hq89 hO h=>?_;cbv)|(refine Hm hE (f:=(V.int .u8)) hO hq89 0 rfl h (c196 N l90 x5.at_ 10) (.refl _) fun l209 q210 H hq210 hO h=>?_;cbv)|(refine Gi (f:=(V.int .u8)) hE (fun _=>rfl) (by decide) hO hq210 0 rfl (m:=[32]) (GU (f:=(V.int .u8)) hE (fun _=>rfl) (.lstc (.refl _) (.lst0))) h fun l290 q289 H hq289 hO h=>?_;cbv)|(have h:=G4 h;subst h;exact⟨_,⟨q289,hq289,rfl,rfl,hO⟩,.e4 .z,rfl⟩)
   clear hx;rintro e l H ⟨q409,hq409,rfl,rfl,hO⟩;cbv;cases h;exact⟨_,q409,rfl,.e4 .z,rfl,hq409,hO⟩
  cbv;cases h;exact⟨_,_,rfl,⟨q3,hq3,rfl,rfl,hO⟩,.e rfl .z,rfl⟩
 ·exact .e4 .z
 ·exact⟨hq1,hO⟩
 clear hx;rintro e l H ⟨q410,hq410,rfl,rfl,hO⟩;cbv;refine Ag3 (e:=5) hE (by kernel_rfl) (by kernel_rfl) (by kernel_rfl) hO hq410 0 rfl h fun r411 h=>?_;cbv;cases h;exact hK hO (.refl _)
def cf307 :Cf:=⟨[2],[],[],[],[],[]⟩
theorem c307 (N aY r)(h:P2 N aY=some r):B4 prog 307 [vi aY] ((C7 r)):=by
 unfold P2 at h
 refine I6 cf307 func307 call307 ntmps307 ?_;intro E H0 K hE hK hO;cbv;refine C6 hE hO fun b1 H hO=>?_;cbv;refine B0 hE hO 0 rfl rfl fun H hO=>?_;cbv;refine B2 hE hO 0 rfl ?_;cbv;cases h;exact hK hO (.refl _)
def cf308 :Cf:=⟨[5],[],[],[],[],[]⟩
theorem c308 (N:Nat)(aD:Int)(aF:Int)(cD:V)(aM:Int→Option A5)(cI:∀y1 q,aM y1=some q→W4 prog cD [vi y1] ((C7 q)))(r:A5)(h:AJ N aD aF aM=some r):B4 prog 308 [vi aD,vi aF,.eref [cD] 0] ((C7 r)):=by
 unfold AJ at h
 refine I6 cf308 func308 call308 ntmps308 ?_;intro E H0 K hE hK hO;cbv;refine C6 hE hO fun b1 H hO=>?_;cbv;refine AB hE (g:=fun r2=>(C7 r2)) h (fun r2 hx=>cI (Ar.ar .add .i64 aD aF) r2 hx) (.refl _) fun r2 h=>?_;cbv;refine B0 hE hO 0 rfl rfl fun H hO=>?_;cbv;refine B2 hE hO 0 rfl ?_;cbv;cases h;exact hK hO (.refl _)
def cf309 :Cf:=⟨[5],[],[],[],[],[]⟩
theorem c309 (N:Nat)(aD:Int)(aF:Int)(cD:V)(aM:Int→Option A5)(cI:∀y1 q,aM y1=some q→W4 prog cD [vi y1] ((C7 q)))(r:A5)(h:AI N aD aF aM=some r):B4 prog 309 [vi aD,vi aF,.eref [cD] 0] ((C7 r)):=by
 unfold AI at h
 refine I6 cf309 func309 call309 ntmps309 ?_;intro E H0 K hE hK hO;cbv;refine C6 hE hO fun b1 H hO=>?_;cbv;refine AB hE (g:=fun r2=>(C7 r2)) h (fun r2 hx=>cI (Ar.ar .sub .i64 aD aF) r2 hx) (.refl _) fun r2 h=>?_;cbv;refine B0 hE hO 0 rfl rfl fun H hO=>?_;cbv;refine B2 hE hO 0 rfl ?_;cbv;cases h;exact hK hO (.refl _)
def cf299 :Cf:=⟨[2,3],[],[],[],[],[]⟩
theorem c299 (N aF r)(h:FX N aF=some r):B4 prog 299 [.bool aF] ((C7 r)):=by
 unfold FX at h
 refine I6 cf299 func299 call299 ntmps299 ?_;intro E H0 K hE hK hO;cbv;refine C6 hE hO fun b1 H hO=>?_;cbv;refine C6 hE hO fun b2 H hO=>?_;cbv;refine B0 hE hO 0 rfl rfl fun H hO=>?_;cbv;refine A7 hE h (fun _ h=>?_) fun _ h=>?_
 ·cbv;refine B0 hE hO 0 rfl rfl fun H hO=>?_;cbv;refine B2 hE hO 0 rfl ?_;cbv;refine B0 hE hO 1 rfl rfl fun H hO=>?_;cbv;refine B2 hE hO 1 rfl ?_;cbv;cases h;exact hK hO (.refl _)
 cbv;refine B2 hE hO 0 rfl ?_;cbv;refine B0 hE hO 1 rfl rfl fun H hO=>?_;cbv;refine B2 hE hO 1 rfl ?_;cbv;cases h;exact hK hO (.refl _)
def cf285 :Cf:=⟨[2],[],[],[],[],[]⟩
theorem c285 (N aF r)(h:Z3 N aF=some r):B4 prog 285 [.bool aF] ((C7 r)):=by
 unfold Z3 at h
 refine I6 cf285 func285 call285 ntmps285 ?_;intro E H0 K hE hK hO;cbv;refine C6 hE hO fun b1 H hO=>?_;cbv;refine A4 hE h (c299 N aF) (.refl _) fun r2 h=>?_;cbv;refine B0 hE hO 0 rfl rfl fun H hO=>?_;cbv;refine B2 hE hO 0 rfl ?_;cbv;cases h;exact hK hO (.refl _)
def cf310 :Cf:=⟨[4],[],[],[],[],[]⟩
theorem c310 (N aD aF r)(h:AH N aD aF=some r):B4 prog 310 [vi aD,vi aF] ((C7 r)):=by
 unfold AH at h
 refine I6 cf310 func310 call310 ntmps310 ?_;intro E H0 K hE hK hO;cbv;refine C6 hE hO fun b1 H hO=>?_;cbv;refine A4 hE h (c285 N (Ar.cmp .lss aD aF)) (.refl _) fun r2 h=>?_;cbv;refine B0 hE hO 0 rfl rfl fun H hO=>?_;cbv;refine B2 hE hO 0 rfl ?_;cbv;cases h;exact hK hO (.refl _)
def cf311 :Cf:=⟨[4],[],[],[],[],[]⟩
theorem c311 (N aD aF r)(h:AF N aD aF=some r):B4 prog 311 [vi aD,vi aF] ((C7 r)):=by
 unfold AF at h
 refine I6 cf311 func311 call311 ntmps311 ?_;intro E H0 K hE hK hO;cbv;refine C6 hE hO fun b1 H hO=>?_;cbv;refine A4 hE h (c285 N (Ar.cmp .leq aD aF)) (.refl _) fun r2 h=>?_;cbv;refine B0 hE hO 0 rfl rfl fun H hO=>?_;cbv;refine B2 hE hO 0 rfl ?_;cbv;cases h;exact hK hO (.refl _)
def cf312 :Cf:=⟨[4],[],[],[],[],[]⟩
theorem c312 (N aD aF r)(h:AE N aD aF=some r):B4 prog 312 [vi aD,vi aF] ((C7 r)):=by
 unfold AE at h
 refine I6 cf312 func312 call312 ntmps312 ?_;intro E H0 K hE hK hO;cbv;refine C6 hE hO fun b1 H hO=>?_;cbv;refine A4 hE h (c285 N (an (Ar.cmp .eql aD 1) (Ar.cmp .eql aF 1))) (.refl _) fun r2 h=>?_;cbv;refine B0 hE hO 0 rfl rfl fun H hO=>?_;cbv;refine B2 hE hO 0 rfl ?_;cbv;cases h;exact hK hO (.refl _)
def cf313 :Cf:=⟨[4],[],[],[],[],[]⟩
theorem c313 (N aD aF r)(h:AD N aD aF=some r):B4 prog 313 [vi aD,vi aF] ((C7 r)):=by
 unfold AD at h
 refine I6 cf313 func313 call313 ntmps313 ?_;intro E H0 K hE hK hO;cbv;refine C6 hE hO fun b1 H hO=>?_;cbv;refine A4 hE h (c285 N (Ar.or (Ar.cmp .eql aD 1) (Ar.cmp .eql aF 1))) (.refl _) fun r2 h=>?_;cbv;refine B0 hE hO 0 rfl rfl fun H hO=>?_;cbv;refine B2 hE hO 0 rfl ?_;cbv;cases h;exact hK hO (.refl _)
def cf314 :Cf:=⟨[4],[],[],[],[],[]⟩
theorem c314 (N aD aJ r)(h:AC N aD aJ=some r):B4 prog 314 [vi aD,vi aJ] ((C7 r)):=by
 unfold AC at h
 refine I6 cf314 func314 call314 ntmps314 ?_;intro E H0 K hE hK hO;cbv;refine C6 hE hO fun b1 H hO=>?_;cbv;refine A4 hE h (c285 N (Ar.cmp .neq aD 1)) (.refl _) fun r2 h=>?_;cbv;refine B0 hE hO 0 rfl rfl fun H hO=>?_;cbv;refine B2 hE hO 0 rfl ?_;cbv;cases h;exact hK hO (.refl _)
theorem c297 (N r)(h:GE N=some r):TH prog 297 [] Yf Ye:=by
 unfold GE at h
 refine Ty (T:=TT) cf0 L8 func297 (by rfl) (by kernel_rfl) call297 ntmps297 (by rfl) (by rfl) ?_;intro E H0 K hE hK;have hO:C2 Eq H0 [] H0:=.start F9 rfl;cbv;refine Am7 hE hO fun m1 H hO=>?_;cbv;refine IQ hE (kt:=3) (et:=338) (by kernel_rfl) (by kernel_rfl) hO 0 rfl rfl fun H hO=>?_;cbv;refine IQ hE (kt:=3) (et:=338) (by kernel_rfl) (by kernel_rfl) hO 0 rfl rfl fun H hO=>?_;cbv;refine IQ hE (kt:=3) (et:=338) (by kernel_rfl) (by kernel_rfl) hO 0 rfl rfl fun H hO=>?_;cbv;refine IQ hE (kt:=3) (et:=338) (by kernel_rfl) (by kernel_rfl) hO 0 rfl rfl fun H hO=>?_;cbv;refine IQ hE (kt:=3) (et:=338) (by kernel_rfl) (by kernel_rfl) hO 0 rfl rfl fun H hO=>?_;cbv;refine IQ hE (kt:=3) (et:=338) (by kernel_rfl) (by kernel_rfl) hO 0 rfl rfl fun H hO=>?_;cbv;refine IQ hE (kt:=3) (et:=338) (by kernel_rfl) (by kernel_rfl) hO 0 rfl rfl fun H hO=>?_;cbv;exact hK _ _ 0 _ rfl hO
theorem c327 (N aN aH r)(h:M7 N aN aH=some r):B4 prog 327 [(AY aN),vi aH] (sr eAp0 r):=by
 unfold M7 at h
 refine I6 cf0 func327 call327 ntmps327 ?_;intro E H0 K hE hK hO;cbv;refine D5 hE ?_;cbv;refine A7 hE h (fun _ h=>?_) fun _ h=>?_
 ·cbv;cases h;exact hK hO (.lit _ (E8))
 cbv;refine B9 hE eAr3 h fun x1 h=>?_;cbv;cases h;exact hK hO (.refl _)
def cf329 :Cf:=⟨[4],[],[],[],[],[]⟩
theorem c329 (N aB aX r)(h:Ak N aB aX=some r):B4 prog 329 [(W2 aB),vi aX] (.tup [(C7 r.1),vi r.2]):=by
 unfold Ak at h
 refine I6 cf329 func329 call329 ntmps329 ?_;intro E H0 K hE hK hO;cbv;refine C6 hE hO fun b1 H hO=>?_;cbv;refine D5 hE ?_;cbv;refine A7 hE h (fun _ h=>?_) fun _ h=>?_
 ·cbv;refine B0 hE hO 0 rfl rfl fun H hO=>?_;cbv;refine B2 hE hO 0 rfl ?_;cbv;cases h;exact hK hO (.refl _)
 cbv;refine B9 hE eAp5 h fun x2 h=>?_;cbv;refine B0 hE hO 0 rfl rfl fun H hO=>?_;cbv;refine B2 hE hO 0 rfl ?_;cbv;cases h;exact hK hO (.refl _)
theorem c335 (N aQ r)(h:W7 N aQ=some r):B4 prog 335 [vi aQ] (.bool r):=by
 unfold W7 at h
 refine I6 cf0 func335 call335 ntmps335 ?_;intro E H0 K hE hK hO;cbv;cases h;exact hK hO (.refl _)
theorem c342 (N aQ aH r)(h:T3 N aQ aH=some r):B4 prog 342 [vi aQ,(C7 aH)] (.bool r):=by
 unfold T3 at h
 refine I6 cf0 func342 call342 ntmps342 ?_;intro E H0 K hE hK hO;cbv;cases h;exact hK hO (.refl _)
theorem c336 (N aQ aH r)(h:N1 N aQ aH=some r):B4 prog 336 [vi aQ,(C7 aH)] (vi r):=by
 unfold N1 at h
 refine I6 cf0 func336 call336 ntmps336 ?_;intro E H0 K hE hK hO;cbv;refine A4 hE h (c275 N aH) (.refl _) fun r1 h=>?_;cbv;refine A7 hE h (fun _ h=>?_) fun _ h=>?_
 ·cbv;cases h;exact hK hO (.refl _)
 cbv;refine A4 hE h (c342 N aQ aH) (.refl _) fun r2 h=>?_;cbv;refine A7 hE h (fun _ h=>?_) fun _ h=>?_
 ·cbv;cases h;exact hK hO (.refl _)
 cbv;cases h;exact hK hO (.refl _)
def cf337 :Cf:=⟨[3,6],[],[],[],[],[]⟩
theorem c337 (N:Nat) (cE:C0) (aC:List A5) (cJ:V) (cF:C0→A5→Option C0) (cO:∀y1 y2 q,cF y1 y2=some q→W4 prog cJ [(F3 y1),(C7 y2)] ((F3 q))) (r:C0) (h:G6 N cE aC cF=some r):B4 prog 337 [(F3 cE),sr eAp9 aC,cJ] ((F3 r)):=by
 unfold G6 at h
 refine I6 cf337 func337 call337 ntmps337 ?_;intro E H0 K hE hK hO;cbv;refine C6 hE hO fun b1 H hO=>?_;cbv;refine C6 hE hO fun b2 H hO=>?_;cbv;refine D5 hE ?_;cbv;obtain⟨s4,hx,h⟩:=bind_some h;refine E6 cf337 hE L8 (fun s3=>[(2,.v (cJ)),(3,.v (.ref b1 0)),(6,.v (.ref b2 0)),(9,.v (sr eAp9 aC)),fi 10 (Ar.len aC),fi 11 s3.1]) (fun(s3:Int×C0) H1=>C2 Eq H0 [cb b2 [vi 0,vi 0,vi 0,vi 0,.str (⟨#[]⟩)],cb b1 (Aw s3.2)] H1) (fun x e l H1=>e= .exit 0∧l=[(3,.v (.ref b1 0)),(6,.v (.ref b2 0))]∧C2 Eq H0 [cb b2 [vi 0,vi 0,vi 0,vi 0,.str (⟨#[]⟩)],cb b1 (Aw x)] H1) (by kernel_rfl) ?_ hx ?_ hO ?_
 ·intro s3 H o hO h;clear hx;cbv;refine A7 hE h (fun _ h=>?_) fun _ h=>?_
  ·cbv;refine B9 hE eAp5 h fun x5 h=>?_;cbv;refine B2 hE hO 1 rfl ?_;cbv;refine AB hE (g:=fun r6=>(F3 r6)) h (fun r6 hx=>cO s3.2 x5 r6 hx) (.refl _) fun r6 h=>?_;cbv;refine B0 hE hO 1 rfl rfl fun H hO=>?_;cbv;cases h;exact⟨_,rfl,.e2 (.e4 .z),rfl,hO⟩
  cbv;cases h;exact⟨_,_,rfl,⟨rfl,rfl,hO⟩,.e2 .z,rfl⟩
 ·exact .e2 (.e4 .z)
 clear hx;rintro e l H ⟨rfl,rfl,hO⟩;cbv;refine B2 hE hO 1 rfl ?_;cbv;refine B0 hE hO 0 rfl rfl fun H hO=>?_;cbv;refine B2 hE hO 0 rfl ?_;cbv;cases h;exact hK hO (.refl _)
def cf345 :Cf:=⟨[0],[],[],[],[],[]⟩
theorem c345 (N r)(h:Br N=some r):B4 prog 345 [] ((C7 r)):=by
 unfold Br at h
 refine I6 cf345 func345 call345 ntmps345 ?_;intro E H0 K hE hK hO;cbv;refine C6 hE hO fun b1 H hO=>?_;cbv;refine B0 hE hO 0 rfl rfl fun H hO=>?_;cbv;refine B2 hE hO 0 rfl ?_;cbv;cases h;exact hK hO (.refl _)
def cf346 :Cf:=⟨[2],[],[],[],[],[]⟩
theorem c346 (N bF aJ r)(h:Bq N bF aJ=some r):B4 prog 346 [.eref (N3 bF) 0,.eref (N3 aJ) 0] ((C7 r)):=by
 unfold Bq at h
 refine I6 cf346 func346 call346 ntmps346 ?_;intro E H0 K hE hK hO;cbv;refine C6 hE hO fun b1 H hO=>?_;cbv;refine B0 hE hO 0 rfl rfl fun H hO=>?_;cbv;refine B2 hE hO 0 rfl ?_;cbv;cases h;exact hK hO (.refl _)
def cf347 :Cf:=⟨[2],[],[],[],[],[]⟩
theorem c347 (N bF aJ r)(h:Bp N bF aJ=some r):B4 prog 347 [.eref (N3 bF) 0,.eref (N3 aJ) 0] ((C7 r)):=by
 unfold Bp at h
 refine I6 cf347 func347 call347 ntmps347 ?_;intro E H0 K hE hK hO;cbv;refine C6 hE hO fun b1 H hO=>?_;cbv;refine B0 hE hO 0 rfl rfl fun H hO=>?_;cbv;refine B2 hE hO 0 rfl ?_;cbv;cases h;exact hK hO (.refl _)
def cf348 :Cf:=⟨[2],[],[],[],[],[]⟩
theorem c348 (N bF aJ r)(h:Bo N bF aJ=some r):B4 prog 348 [.eref (N3 bF) 0,.eref (N3 aJ) 0] ((C7 r)):=by
 unfold Bo at h
 refine I6 cf348 func348 call348 ntmps348 ?_;intro E H0 K hE hK hO;cbv;refine C6 hE hO fun b1 H hO=>?_;cbv;refine B0 hE hO 0 rfl rfl fun H hO=>?_;cbv;refine B2 hE hO 0 rfl ?_;cbv;cases h;exact hK hO (.refl _)
def cf349 :Cf:=⟨[1],[],[],[],[],[]⟩
theorem c349 (N bF r)(h:Bn N bF=some r):B4 prog 349 [.eref (N3 bF) 0] ((C7 r)):=by
 unfold Bn at h
 refine I6 cf349 func349 call349 ntmps349 ?_;intro E H0 K hE hK hO;cbv;refine C6 hE hO fun b1 H hO=>?_;cbv;refine B0 hE hO 0 rfl rfl fun H hO=>?_;cbv;refine B2 hE hO 0 rfl ?_;cbv;cases h;exact hK hO (.refl _)
def cf350 :Cf:=⟨[1],[],[],[],[],[]⟩
theorem c350 (N bF r)(h:Bm N bF=some r):B4 prog 350 [.eref (N3 bF) 0] ((C7 r)):=by
 unfold Bm at h
 refine I6 cf350 func350 call350 ntmps350 ?_;intro E H0 K hE hK hO;cbv;refine C6 hE hO fun b1 H hO=>?_;cbv;refine B0 hE hO 0 rfl rfl fun H hO=>?_;cbv;refine B2 hE hO 0 rfl ?_;cbv;cases h;exact hK hO (.refl _)
def cf343 :Cf:=⟨[6],[],[],[],[],[]⟩
theorem c343 (N aQ aD aF r)(h:X7 N aQ aD aF=some r):B4 prog 343 [vi aQ,(C7 aD),(C7 aF)] ((C7 r)):=by
 unfold X7 at h
 refine I6 cf343 func343 call343 ntmps343 ?_;intro E H0 K hE hK hO;cbv;refine C6 hE hO fun b1 H hO=>?_;cbv;refine ZG hE [0,1,2,3,4,5] (by rfl) ?_;cbv;refine A7 hE h (fun _ h=>?_) fun _ h=>?_
 ·cbv;refine A4 hE h (c345 N) (.refl _) fun r2 h=>?_;cbv;refine B0 hE hO 0 rfl rfl fun H hO=>?_;cbv;refine B2 hE hO 0 rfl ?_;cbv;cases h;exact hK hO (.refl _)
 cbv;refine A7 hE h (fun _ h=>?_) fun _ h=>?_
 ·cbv;refine AB hE (g:=fun r3=>(C7 r3)) h (fun r3 hx=>B4.value (F:=[]) (C:=[.eref (N3 aD) 0,.eref (N3 aF) 0]) (c346 N aD aF r3 hx)) (.refl _) fun r3 h=>?_;cbv;refine B0 hE hO 0 rfl rfl fun H hO=>?_;cbv;refine B2 hE hO 0 rfl ?_;cbv;cases h;exact hK hO (.refl _)
 cbv;refine A7 hE h (fun _ h=>?_) fun _ h=>?_
 ·cbv;refine AB hE (g:=fun r4=>(C7 r4)) h (fun r4 hx=>B4.value (F:=[]) (C:=[.eref (N3 aD) 0,.eref (N3 aF) 0]) (c347 N aD aF r4 hx)) (.refl _) fun r4 h=>?_;cbv;refine B0 hE hO 0 rfl rfl fun H hO=>?_;cbv;refine B2 hE hO 0 rfl ?_;cbv;cases h;exact hK hO (.refl _)
 cbv;refine A7 hE h (fun _ h=>?_) fun _ h=>?_
 ·cbv;refine AB hE (g:=fun r5=>(C7 r5)) h (fun r5 hx=>B4.value (F:=[]) (C:=[.eref (N3 aD) 0,.eref (N3 aF) 0]) (c348 N aD aF r5 hx)) (.refl _) fun r5 h=>?_;cbv;refine B0 hE hO 0 rfl rfl fun H hO=>?_;cbv;refine B2 hE hO 0 rfl ?_;cbv;cases h;exact hK hO (.refl _)
 cbv;refine A7 hE h (fun _ h=>?_) fun _ h=>?_
 ·cbv;refine AB hE (g:=fun r6=>(C7 r6)) h (fun r6 hx=>B4.value (F:=[]) (C:=[.eref (N3 aD) 0]) (c349 N aD r6 hx)) (.refl _) fun r6 h=>?_;cbv;refine B0 hE hO 0 rfl rfl fun H hO=>?_;cbv;refine B2 hE hO 0 rfl ?_;cbv;cases h;exact hK hO (.refl _)
 cbv;refine A7 hE h (fun _ h=>?_) fun _ h=>?_
 ·cbv;refine AB hE (g:=fun r7=>(C7 r7)) h (fun r7 hx=>B4.value (F:=[]) (C:=[.eref (N3 aF) 0]) (c350 N aF r7 hx)) (.refl _) fun r7 h=>?_;cbv;refine B0 hE hO 0 rfl rfl fun H hO=>?_;cbv;refine B2 hE hO 0 rfl ?_;cbv;cases h;exact hK hO (.refl _)
 cbv;cases h
def cf339 :Cf:=⟨[4],[(5,14)],[],[],[],[]⟩
theorem c339 (N aD aF r)(h:Bi N aD aF=some r):B4 prog 339 [(F3 aD),(F3 aF)] ((F3 r)):=by
 unfold Bi at h
 refine I6 cf339 func339 call339 ntmps339 ?_;intro E H0 K hE hK hO;cbv;refine C6 hE hO fun b1 H hO=>?_;cbv;refine A7 hE h (fun _ h=>?_) fun _ h=>?_
 ·cbv;refine B0 hE hO 0 rfl rfl fun H hO=>?_;cbv;refine B2 hE hO 0 rfl ?_;cbv;cases h;exact hK hO (.refl _)
 cbv;refine A7 hE h (fun _ h=>?_) fun _ h=>?_
 ·cbv;refine B0 hE hO 0 rfl rfl fun H hO=>?_;cbv;refine B2 hE hO 0 rfl ?_;cbv;cases h;exact hK hO (.refl _)
 cbv;refine C9 hE (g:=fun r2=>(C7 r2)) h (c343 N aD.Kind aD.Value aF.Value) (.refl _) fun r2 h=>?_;cbv;refine B0 hE hO 0 rfl rfl fun H hO=>?_;cbv;refine B2 hE hO 0 rfl ?_;cbv;cases h;exact hK hO (.refl _)
def cf340 :Cf:=⟨[4],[],[],[],[],[]⟩
theorem c340 (N aQ aH r)(h:Z4 N aQ aH=some r):B4 prog 340 [vi aQ,(C7 aH)] ((C7 r)):=by
 unfold Z4 at h
 refine I6 cf340 func340 call340 ntmps340 ?_;intro E H0 K hE hK hO;cbv;refine C6 hE hO fun b1 H hO=>?_;cbv;refine A7 hE h (fun _ h=>?_) fun _ h=>?_
 ·cbv;refine B0 hE hO 0 rfl rfl fun H hO=>?_;cbv;refine B2 hE hO 0 rfl ?_;cbv;cases h;exact hK hO (.refl _)
 cbv;refine B0 hE hO 0 rfl rfl fun H hO=>?_;cbv;refine B2 hE hO 0 rfl ?_;cbv;cases h;exact hK hO (.refl _)
def cf338 :Cf:=⟨[5],[(1,6)],[],[],[],[]⟩
theorem c338 (N aD aH aM r)(h:M9 N aD aH aM=some r):B4 prog 338 [(F3 aD),(C7 aH),.eref [vi aM] 0] ((F3 r)):=by
 unfold M9 at h
 refine I6 cf338 func338 call338 ntmps338 ?_;intro E H0 K hE hK hO;cbv;refine C6 hE hO fun b1 H hO=>?_;cbv;refine C9 hE (g:=fun r2=>(C7 r2)) h (c340 N aM aH) (.refl _) fun r2 h=>?_;cbv;refine A4 hE h (c339 N aD (⟨aM,1,r2⟩:C0)) (.refl _) fun r3 h=>?_;cbv;refine B0 hE hO 0 rfl rfl fun H hO=>?_;cbv;refine B2 hE hO 0 rfl ?_;cbv;cases h;exact hK hO (.refl _)
theorem c344 (N aD r) (h:Au N aD=some r):B4 prog 344 [(F3 aD)] (vi r):=by
 unfold Au at h
 refine I6 cf0 func344 call344 ntmps344 ?_;intro E H0 K hE hK hO;cbv;refine A4 hE h (c335 N aD.Kind) (.refl _) fun r1 h=>?_;cbv;refine A7 hE h (fun _ h=>?_) fun _ h=>?_
 ·cbv;cases h;exact hK hO (.refl _)
 cbv;refine A7 hE h (fun _ h=>?_) fun _ h=>?_
 ·cbv;cases h;exact hK hO (.refl _)
 cbv;refine A7 hE h (fun _ h=>?_) fun _ h=>?_
 ·cbv;refine A7 hE h (fun _ h=>?_) fun _ h=>?_
  ·cbv;cases h;exact hK hO (.refl _)
  cbv;cases h;exact hK hO (.refl _)
 cbv;refine A7 hE h (fun _ h=>?_) fun _ h=>?_
 ·cbv;refine A7 hE h (fun _ h=>?_) fun _ h=>?_
  ·cbv;cases h;exact hK hO (.refl _)
  cbv;cases h;exact hK hO (.refl _)
 cbv;refine A4 hE h (c275 N aD.Value) (.refl _) fun r2 h=>?_;cbv;refine A7 hE h (fun _ h=>?_) fun _ h=>?_
 ·cbv;refine A4 hE h (c342 N aD.Kind aD.Value) (.refl _) fun r3 h=>?_;cbv;refine A7 hE h (fun _ h=>?_) fun _ h=>?_
  ·cbv;cases h;exact hK hO (.refl _)
  cbv;cases h;exact hK hO (.refl _)
 cbv;cases h;exact hK hO (.refl _)
def cf341 :Cf:=⟨[4],[],[],[],[],[]⟩
theorem c341 (N aD aZ r)(h:Bj N aD aZ=some r):B4 prog 341 [(F3 aD),(C7 aZ)] (.tup [(C7 r.1),vi r.2]):=by
 unfold Bj at h
 refine I6 cf341 func341 call341 ntmps341 ?_;intro E H0 K hE hK hO;cbv;refine C6 hE hO fun b1 H hO=>?_;cbv;refine A4 hE h (c344 N aD) (.refl _) fun r2 h=>?_;cbv;refine A7 hE h (fun _ h=>?_) fun _ h=>?_
 ·cbv;refine B0 hE hO 0 rfl rfl fun H hO=>?_;cbv;refine B2 hE hO 0 rfl ?_;cbv;cases h;exact hK hO (.refl _)
 cbv;refine A4 hE h (c336 N aD.Kind aZ) (.refl _) fun r3 h=>?_;cbv;refine A7 hE h (fun _ h=>?_) fun _ h=>?_
 ·cbv;refine B0 hE hO 0 rfl rfl fun H hO=>?_;cbv;refine B2 hE hO 0 rfl ?_;cbv;cases h;exact hK hO (.refl _)
 cbv;refine A7 hE h (fun _ h=>?_) fun _ h=>?_
 ·cbv;refine B0 hE hO 0 rfl rfl fun H hO=>?_;cbv;refine B2 hE hO 0 rfl ?_;cbv;cases h;exact hK hO (.refl _)
 cbv;refine A7 hE h (fun _ h=>?_) fun _ h=>?_
 ·cbv;refine B0 hE hO 0 rfl rfl fun H hO=>?_;cbv;refine B2 hE hO 0 rfl ?_;cbv;cases h;exact hK hO (.refl _)
 cbv;refine B0 hE hO 0 rfl rfl fun H hO=>?_;cbv;refine B2 hE hO 0 rfl ?_;cbv;cases h;exact hK hO (.refl _)
def cf333 :Cf:=⟨[6],[],[],[],[],[]⟩
theorem c333 (N aQ aC aZ r) (h:Cr N aQ aC aZ=some r):B4 prog 333 [vi aQ,sr eAp9 aC,(C7 aZ)] (.tup [(C7 r.1),vi r.2]):=by
 unfold Cr at h
 refine I6 cf333 func333 call333 ntmps333 ?_;intro E H0 K hE hK hO;cbv;refine C6 hE hO fun b1 H hO=>?_;cbv;refine A4 hE h (c335 N aQ) (.refl _) fun r2 h=>?_;cbv;refine A7 hE h (fun _ h=>?_) fun _ h=>?_
 ·cbv;refine B0 hE hO 0 rfl rfl fun H hO=>?_;cbv;refine B2 hE hO 0 rfl ?_;cbv;cases h;exact hK hO (.refl _)
 cbv;refine D5 hE ?_;cbv;refine A7 hE h (fun _ h=>?_) fun _ h=>?_
 ·cbv;refine B0 hE hO 0 rfl rfl fun H hO=>?_;cbv;refine B2 hE hO 0 rfl ?_;cbv;cases h;exact hK hO (.refl _)
 cbv;refine D5 hE ?_;cbv;obtain⟨s4,hx,h⟩:=bind_some h;refine E6 cf333 hE L8 (fun s3=>[(1,.v (sr eAp9 aC)),(3,.v (.eref [vi aQ] 0)),(5,.v (.eref (N3 aZ) 0)),(6,.v (.ref b1 0)),(22,.v (sr eAp9 aC)),fi 23 (Ar.len aC),fi 24 s3]) (fun s3 H1=>C2 Eq H0 [cb b1 [vi 0,vi 0,.str (⟨#[]⟩)]] H1) (fun x e l H1=>match(generalizing:=false) x with| .inl y=>e= .exit 1∧l=[(1,.v (sr eAp9 aC)),(3,.v (.eref [vi aQ] 0)),(5,.v (.eref (N3 aZ) 0)),(6,.v (.ref b1 0))]∧C2 Eq H0 [cb b1 [vi 0,vi 0,.str (⟨#[]⟩)]] H1| .inr y=>e= .ret∧l=[(6,.v (.ref b1 0)),fi 7 y]∧C2 Eq H0 [cb b1 [vi 0,vi 0,.str (⟨#[]⟩)]] H1) (by kernel_rfl) ?_ hx ?_ hO ?_
 ·intro s3 H o hO h;clear hx;cbv;refine A7 hE h (fun _ h=>?_) fun _ h=>?_
  ·cbv;refine B9 hE eAp5 h fun x5 h=>?_;cbv;refine A4 hE h (c336 N aQ x5) (.refl _) fun r6 h=>?_;cbv;refine A7 hE h (fun _ h=>?_) fun _ h=>?_
   ·cbv;refine B0 hE hO 0 rfl rfl fun H hO=>?_;cbv;cases h;exact⟨_,_,rfl,⟨rfl,rfl,hO⟩,.e2 .z,rfl⟩
   cbv;cases h;exact⟨_,rfl,.e rfl (.e2 (.e4 .z)),rfl,hO⟩
  cbv;cases h;exact⟨_,_,rfl,⟨rfl,rfl,hO⟩,.e4 .z,rfl⟩
 ·exact .e rfl (.e2 (.e4 .z))
 clear hx
 rcases s4 with y7|y10
 ·rintro e l H ⟨rfl,rfl,hO⟩;cbv;refine A4 hE (g:=fun r8=>(F3 r8)) h (fun r8 hx=>c337 N (⟨aQ,0,(⟨0,0,⟨#[]⟩⟩:A5)⟩:C0) aC (.func (.func 338) [] [.eref [vi aQ] 0]) (fun y1 y2=>M9 N y1 y2 aQ) (fun y1 y2 r hx=>B4.value (F:=[]) (C:=[.eref [vi aQ] 0]) (c338 N y1 y2 aQ r hx)) r8 hx) (.refl _) fun r8 h=>?_;cbv;refine A4 hE h (c341 N r8 aZ) (.refl _) fun r9 h=>?_;cbv;refine B0 hE hO 0 rfl rfl fun H hO=>?_;cbv;refine B2 hE hO 0 rfl ?_;cbv;cases h;exact hK hO (.refl _)
 rintro e l H ⟨rfl,rfl,hO⟩;cbv;refine B2 hE hO 0 rfl ?_;cbv;cases h;exact hK hO (.refl _)
def cf328 :Cf:=⟨[4],[],[],[],[],[]⟩
theorem c328 (N aN aB r) (h:S0 N aN aB=some r):B4 prog 328 [(AY aN),(I5 aB)] (.tup [(C7 r.1),vi r.2]):=by
 unfold S0 at h
 refine I6 cf328 func328 call328 ntmps328 ?_;intro E H0 K hE hK hO;cbv;refine C6 hE hO fun b1 H hO=>?_;cbv;refine A4 hE h (c327 N aN aB.Var) (.refl _) fun r2 h=>?_;cbv;refine D5 hE ?_;cbv;replace hO:=hO.tl0 (t:=.nil) rfl;obtain⟨s5,hx,h⟩:=bind_some h;refine N0 cf328 hE L8 (γ:=D3) (fun s3 g=>[(3,.v (.eref (Am aB) 0)),(4,.v (.ref b1 0)),(6,.v (.sl (lst eAp9 s3.1) g)),(14,.v (sr eAp0 r2)),fi 15 (Ar.len r2),fi 16 s3.2]) (fun s3 g H1=>L6 g∧C2 Eq H0 [.tl g,cb b1 [vi 0,vi 0,.str (⟨#[]⟩)]] H1) (fun x e l H1=>match(generalizing:=false) x with| .inl y=>∃u1:D3,L6 u1∧e= .exit 0∧l=[(3,.v (.eref (Am aB) 0)),(4,.v (.ref b1 0)),(6,.v (.sl (lst eAp9 y) u1))]∧C2 Eq H0 [.tl u1,cb b1 [vi 0,vi 0,.str (⟨#[]⟩)]] H1| .inr y=>∃u1:D3,L6 u1∧e= .ret∧l=[(4,.v (.ref b1 0)),fi 5 y]∧C2 Eq H0 [.tl u1,cb b1 [vi 0,vi 0,.str (⟨#[]⟩)]] H1) (by kernel_rfl) ?_ .nil hx ?_ ?_ ?_
 ·rintro s3 t4 H o ⟨ht4,hO⟩ h;clear hx;cbv;refine A7 hE h (fun _ h=>?_) fun _ h=>?_
  ·cbv;refine B9 hE eAp7 h fun x6 h=>?_;cbv;refine A4 hE h (c329 N x6 aB.Field) (.refl _) fun r7 h=>?_;cbv;refine A7 hE h (fun _ h=>?_) fun _ h=>?_
   ·cbv;refine B0 hE hO 1 rfl rfl fun H hO=>?_;cbv;cases h;exact⟨_,_,rfl,⟨t4,ht4,rfl,rfl,hO⟩,.e2 .z,rfl⟩
   cbv;refine AT (f:=eAp9) hE HM (by decide) hO 0 rfl ht4 (l:=s3.1) (m:=[r7.1]) (.refl _) (.lstc (.eq (eAp5 r7.1) (.refl _)) (.lst0)) h fun l9 t8 H hO ht8 h=>?_;cbv;cases h;exact⟨_,t8,rfl,.e2 (.e4 .z),rfl,ht8,hO⟩
  cbv;cases h;exact⟨_,_,rfl,⟨t4,ht4,rfl,rfl,hO⟩,.e rfl (.e2 .z),rfl⟩
 ·exact .e2 (.v (.slt _ (.lst0)) (.e rfl (.e rfl (.e rfl (.z)))))
 ·exact⟨trivial,hO⟩
 clear hx
 rcases s5 with y10|y13
 ·rintro e l H ⟨t11,ht11,rfl,rfl,hO⟩;cbv;refine A4 hE h (c333 N aB.Kind y10 aB.Value) (.cons (.refl _) (.cons (.ro _ _) (.refl _))) fun r12 h=>?_;cbv;refine B0 hE hO 1 rfl rfl fun H hO=>?_;cbv;refine B2 hE hO 1 rfl ?_;cbv;cases h;exact hK hO (.refl _)
 rintro e l H ⟨t14,ht14,rfl,rfl,hO⟩;cbv;refine B2 hE hO 1 rfl ?_;cbv;cases h;exact hK hO (.refl _)
def cf315 :Cf:=⟨[4,7],[],[(38,12),(63,19)],[],[],[]⟩
theorem c315 (N aN aB r) (h:T7 N aN aB=some r):B4 prog 315 [(AY aN),(I5 aB)] (.tup [(C7 r.1),vi r.2]):=by
 unfold T7 at h
 refine I6 cf315 func315 call315 ntmps315 ?_;intro E H0 K hE hK hO;cbv;refine C6 hE hO fun b1 H hO=>?_;cbv;refine A4 hE h (c327 N aN aB.Var) (.refl _) fun r2 h=>?_;cbv;refine A7 hE h (fun _ h=>?_) fun _ h=>?_
 ·cbv;refine B0 hE hO 0 rfl rfl fun H hO=>?_;cbv;refine B2 hE hO 0 rfl ?_;cbv;cases h;exact hK hO (.refl _)
 cbv;refine A7 hE h (fun _ h=>?_) fun _ h=>?_
 ·cbv;refine D5 hE ?_;cbv;refine B0 hE hO 0 rfl rfl fun H hO=>?_;cbv;refine B2 hE hO 0 rfl ?_;cbv;cases h;exact hK hO (.refl _)
 cbv;refine A7 hE h (fun _ h=>?_) fun _ h=>?_
 ·cbv;refine A4 hE h (c328 N aN aB) (.refl _) fun r3 h=>?_;cbv;refine B0 hE hO 0 rfl rfl fun H hO=>?_;cbv;refine B2 hE hO 0 rfl ?_;cbv;cases h;exact hK hO (.refl _)
 cbv;refine C6 hE hO fun b4 H hO=>?_;cbv;refine B0 hE hO 0 rfl rfl fun H hO=>?_;cbv;obtain⟨s5,hx,h⟩:=bind_some h;refine S8 cf315 hE L8 (fun e l H1=>match(generalizing:=false) s5 with| .inl y=>e= .normal∧l=[(3,.v (.eref (Am aB) 0)),(4,.v (.ref b1 0)),(7,.v (.ref b4 0))]∧C2 Eq H0 [cb b4 (JV y),cb b1 [vi 0,vi 0,.str (⟨#[]⟩)]] H1| .inr y=>e= .ret∧l=[(4,.v (.ref b1 0)),fi 5 10]∧C2 Eq H0 [cb b4 (JV aN.event),cb b1 [vi 0,vi 0,.str (⟨#[]⟩)]] H1) (by kernel_rfl) ?_ ?_
 ·clear h;have h:=hx;clear hx;cbv;refine A7 hE h (fun _ h=>?_) fun _ h=>?_
  ·cbv;refine D5 hE ?_;cbv;refine A7 hE h (fun _ h=>?_) fun _ h=>?_
   ·cbv;refine B0 hE hO 1 rfl rfl fun H hO=>?_;cbv;cases h;exact⟨_,⟨rfl,rfl,hO⟩,.e2 .z,rfl⟩
   cbv;refine D5 hE ?_;cbv;refine B9 hE eAp7 h fun x6 h=>?_;cbv;refine B0 hE hO 0 rfl rfl fun H hO=>?_;cbv;cases h;exact⟨_,⟨rfl,rfl,hO⟩,.e rfl (.e2 .z),rfl⟩
  cbv;cases h;exact⟨_,⟨rfl,rfl,hO⟩,.e rfl (.e2 .z),rfl⟩
 clear hx
 rcases s5 with y7|y11
 ·rintro e l H ⟨rfl,rfl,hO⟩;cbv;refine A7 hE h (fun _ h=>?_) fun _ h=>?_
  ·cbv;refine B2 hE hO 0 rfl ?_;cbv;refine B0 hE hO 1 rfl rfl fun H hO=>?_;cbv;refine B2 hE hO 1 rfl ?_;cbv;cases h;exact hK hO (.refl _)
  cbv;refine B2 hE hO 0 rfl ?_;cbv;refine A4 hE h (c329 N y7 aB.Field) (.refl _) fun r8 h=>?_;cbv;obtain⟨s9,hx,h⟩:=bind_some h;refine S8 cf315 hE L8 (fun e l H1=>e= .normal∧l=[(4,.v (.ref b1 0)),(8,.v (.eref (N3 r8.1) 0)),fi 9 s9]∧C2 Eq H0 [cb b4 (JV y7),cb b1 [vi 0,vi 0,.str (⟨#[]⟩)]] H1) (by kernel_rfl) ?_ ?_
  ·clear h;have h:=hx;clear hx;cbv;refine A7 hE h (fun _ h=>?_) fun _ h=>?_
   ·cbv;refine A4 hE h (c275 N r8.1) (.refl _) fun r10 h=>?_;cbv;cases h;exact⟨_,⟨rfl,rfl,hO⟩,.e rfl (.e2 .z),rfl⟩
   cbv;cases h;exact⟨_,⟨rfl,rfl,hO⟩,.e rfl (.e2 .z),rfl⟩
  clear hx;rintro e l H ⟨rfl,rfl,hO⟩;cbv;refine A7 hE h (fun _ h=>?_) fun _ h=>?_
  ·cbv;refine B0 hE hO 1 rfl rfl fun H hO=>?_;cbv;refine B2 hE hO 1 rfl ?_;cbv;cases h;exact hK hO (.refl _)
  cbv;refine B0 hE hO 1 rfl rfl fun H hO=>?_;cbv;refine B2 hE hO 1 rfl ?_;cbv;cases h;exact hK hO (.refl _)
 rintro e l H ⟨rfl,rfl,hO⟩;cbv;refine B2 hE hO 1 rfl ?_;cbv;cases h;exact hK hO (.refl _)
def cf316 :Cf:=⟨[],[],[(15,8),(22,13)],[],[],[]⟩
theorem c316 (N aL bC r) (h:BB N aL bC=some r):B4 prog 316 [vi aL,sr (V.int .i64) bC] (vi r):=by
 unfold BB at h
 refine I6 cf316 func316 call316 ntmps316 ?_;intro E H0 K hE hK hO;cbv;refine D5 hE ?_;cbv;obtain⟨s2,hx,h⟩:=bind_some h;refine E6 cf316 hE L8 (fun s1=>[fi 0 aL,(1,.v (sr (V.int .i64) bC)),(8,.v (sr (V.int .i64) bC)),fi 9 (Ar.len bC),fi 10 s1]) (fun s1 H1=>C2 Eq H0 [] H1) (fun x e l H1=>match(generalizing:=false) x with| .inl y=>e= .exit 0∧l=[]∧C2 Eq H0 [] H1| .inr y=>e= .ret∧l=[fi 4 9]∧C2 Eq H0 [] H1) (by kernel_rfl) ?_ hx ?_ hO ?_
 ·intro s1 H o hO h;clear hx;cbv;refine A7 hE h (fun _ h=>?_) fun _ h=>?_
  ·cbv;refine B9 hE (fun _=>rfl) h fun x3 h=>?_;cbv;obtain⟨s4,hx,h⟩:=bind_some h;refine S8 cf316 hE L8 (fun e l H1=>e= .normal∧l=[fi 0 aL,(1,.v (sr (V.int .i64) bC)),fi 6 x3,(7,.b true),(8,.v (sr (V.int .i64) bC)),fi 9 (Ar.len bC),fi 10 s1,fi 14 aL,(15,.v (.bool s4))]∧C2 Eq H0 [] H1) (by kernel_rfl) ?_ ?_
   ·clear h;have h:=hx;clear hx;cbv;refine A7 hE h (fun _ h=>?_) fun _ h=>?_
    ·cbv;cases h;exact⟨_,⟨rfl,rfl,hO⟩,.e rfl (.e2 (.b rfl (.e rfl (.e rfl (.e rfl (.e rfl (.e rfl (.z)))))))),rfl⟩
    cbv;refine A7 hE h (fun _ h=>?_) fun _ h=>?_
    ·cbv;cases h;exact⟨_,⟨rfl,rfl,hO⟩,.e rfl (.e2 (.b rfl (.e rfl (.e rfl (.e rfl (.e rfl (.e rfl (.z)))))))),rfl⟩
    cbv;refine A7 hE h (fun _ h=>?_) fun _ h=>?_
    ·cbv;cases h;exact⟨_,⟨rfl,rfl,hO⟩,.e rfl (.e2 (.b rfl (.e rfl (.e rfl (.e rfl (.e rfl (.e rfl (.z)))))))),rfl⟩
    cbv;cases h;exact⟨_,⟨rfl,rfl,hO⟩,.e rfl (.e2 (.b rfl (.e rfl (.e rfl (.e rfl (.e rfl (.e rfl (.z)))))))),rfl⟩
   clear hx;rintro e l H ⟨rfl,rfl,hO⟩;cbv;refine A7 hE h (fun _ h=>?_) fun _ h=>?_
   ·cbv;refine A7 hE h (fun _ h=>?_) fun _ h=>?_
    ·cbv;cases h;exact⟨_,_,rfl,⟨rfl,rfl,hO⟩,.e rfl .z,rfl⟩
    cbv;cases h;exact⟨_,rfl,.e rfl (.e4 .z),rfl,hO⟩
   cbv;obtain⟨s5,hx,h⟩:=bind_some h;refine S8 cf316 hE L8 (fun e l H1=>e= .normal∧l=[fi 0 aL,(1,.v (sr (V.int .i64) bC)),fi 6 x3,(7,.b true),(8,.v (sr (V.int .i64) bC)),fi 9 (Ar.len bC),fi 10 s1,fi 14 aL,(22,.v (.bool s5))]∧C2 Eq H0 [] H1) (by kernel_rfl) ?_ ?_
   ·clear h;have h:=hx;clear hx;cbv;refine A7 hE h (fun _ h=>?_) fun _ h=>?_
    ·cbv;cases h;exact⟨_,⟨rfl,rfl,hO⟩,.e rfl (.e2 (.b rfl (.e rfl (.e rfl (.e rfl (.e rfl (.e rfl (.z)))))))),rfl⟩
    cbv;refine A7 hE h (fun _ h=>?_) fun _ h=>?_
    ·cbv;cases h;exact⟨_,⟨rfl,rfl,hO⟩,.e rfl (.e2 (.b rfl (.e rfl (.e rfl (.e rfl (.e rfl (.e rfl (.z)))))))),rfl⟩
    cbv;cases h;exact⟨_,⟨rfl,rfl,hO⟩,.e rfl (.e2 (.b rfl (.e rfl (.e rfl (.e rfl (.e rfl (.e rfl (.z)))))))),rfl⟩
   clear hx;rintro e l H ⟨rfl,rfl,hO⟩;cbv;refine A7 hE h (fun _ h=>?_) fun _ h=>?_
   ·cbv;refine A7 hE h (fun _ h=>?_) fun _ h=>?_
    ·cbv;cases h;exact⟨_,_,rfl,⟨rfl,rfl,hO⟩,.e rfl .z,rfl⟩
    cbv;cases h;exact⟨_,rfl,.e rfl (.e4 .z),rfl,hO⟩
   cbv;refine A7 hE h (fun _ h=>?_) fun _ h=>?_
   ·cbv;refine B9 hE (fun _=>rfl) h fun x6 h=>?_;cbv;refine A7 hE h (fun _ h=>?_) fun _ h=>?_
    ·cbv;cases h;exact⟨_,_,rfl,⟨rfl,rfl,hO⟩,.e rfl .z,rfl⟩
    cbv;cases h;exact⟨_,rfl,.e rfl (.e4 .z),rfl,hO⟩
   cbv;cases h;exact⟨_,rfl,.e rfl (.e4 .z),rfl,hO⟩
  cbv;cases h;exact⟨_,_,rfl,⟨rfl,rfl,hO⟩,.z,rfl⟩
 ·exact .e rfl (.e4 .z)
 clear hx
 rcases s2 with y7|y8
 ·rintro e l H ⟨rfl,rfl,hO⟩;cbv;cases h;exact hK hO (.refl _)
 rintro e l H ⟨rfl,rfl,hO⟩;cbv;cases h;exact hK hO (.refl _)
end Go.Ab
namespace Go.Ab
open Go.RowKit Go.Proofs Go.Proofs.Tryz H7
variable [Ar][H7]
set_option maxRecDepth 100000
def cf298 :Cf:=⟨[4,3000042,8000042,9000042],[(11,8),(17,6),(18,16)],[],[],[],[]⟩
theorem c298 (N:Nat):∀n aN aB r,I8 N n aN aB=some r→B4 prog 298 [(AY aN),(I5 aB)] (.tup [(C7 r.1),vi r.2]):=by
 intro n
 induction n with
 |zero=>intro aN aB r h;cases h
 |succ n ih=>
 intro aN aB r h
 unfold I8 at h
 refine I6 cf298 func298 call298 ntmps298 ?_;intro E H0 K hE hK hO;cbv;refine C6 hE hO fun b1 H hO=>?_;cbv;refine D5 hE ?_;cbv;refine A7 hE h (fun _ h=>?_) fun _ h=>?_
 ·cbv;refine A4 hE h (c315 N aN aB) (.refl _) fun r2 h=>?_;cbv;refine B0 hE hO 0 rfl rfl fun H hO=>?_;cbv;refine B2 hE hO 0 rfl ?_;cbv;cases h;exact hK hO (.refl _)
 cbv;refine D5 hE ?_;cbv;replace hO:=hO.tl0 (t:=.nil) rfl;replace hO:=hO.tl0 (t:=.nil) rfl;obtain⟨s6,hx,h⟩:=bind_some h;refine N0 cf298 hE L8 (γ:=D3×D3) (fun s3 g=>[(2,.v (.eref (CM aN) 0)),(3,.v (.eref (Am aB) 0)),(4,.v (.ref b1 0)),(6,.v (.sl (lst eAp9 s3.1) g.2)),(7,.v (.sl (lst (V.int .i64) s3.2.1) g.1)),(23,.v (sr eAq3 aB.cP)),fi 24 (Ar.len aB.cP),fi 25 s3.2.2]) (fun s3 g H1=>L6 g.1∧L6 g.2∧C2 Eq H0 [.tl g.1,.tl g.2,cb b1 [vi 0,vi 0,.str (⟨#[]⟩)]] H1) (fun x e l H1=>match(generalizing:=false) x with| .inl y=>∃u1:D3,L6 u1∧∃u2:D3,L6 u2∧e= .exit 0∧l=[(2,.v (.eref (CM aN) 0)),(3,.v (.eref (Am aB) 0)),(4,.v (.ref b1 0)),(6,.v (.sl (lst eAp9 y.1) u2)),(7,.v (.sl (lst (V.int .i64) y.2) u1))]∧C2 Eq H0 [.tl u1,.tl u2,cb b1 [vi 0,vi 0,.str (⟨#[]⟩)]] H1| .inr y=>∃u1:D3,L6 u1∧∃u2:D3,L6 u2∧e= .ret∧l=[(4,.v (.ref b1 0)),fi 5 y]∧C2 Eq H0 [.tl u1,.tl u2,cb b1 [vi 0,vi 0,.str (⟨#[]⟩)]] H1) (by kernel_rfl) ?_ (⟨.nil,.nil⟩) hx ?_ ?_ ?_
 ·rintro s3 ⟨t4,t5⟩ H o ⟨ht4,ht5,hO⟩ h;clear hx;cbv;refine A7 hE h (fun _ h=>?_) fun _ h=>?_
  ·cbv;refine B9 hE eAq4 h fun x7 h=>?_;cbv;refine A4 hE h (ih aN x7) (.refl _) fun r8 h=>?_;cbv;refine A7 hE h (fun _ h=>?_) fun _ h=>?_
   ·cbv;refine B0 hE hO 2 rfl rfl fun H hO=>?_;cbv;cases h;exact⟨_,_,rfl,⟨t4,ht4,t5,ht5,rfl,rfl,hO⟩,.e2 .z,rfl⟩
   cbv;refine LC hE hO 1 rfl ht5 fun H hO=>?_;cbv;refine IP hE trivial ?_;cbv;refine Pg (f:=eAp9) hE HM (by decide) (l:=s3.1) (m:=[r8.1]) (.refl _) (.lstc (.eq (eAp5 r8.1) (.refl _)) (.lst0)) h fun l9 h=>?_;cbv;refine LE hE hO 1 rfl fun t10 H hO ht10=>?_;cbv;refine AT (f:=(V.int .i64)) hE (fun _=>rfl) (by decide) hO 0 rfl ht4 (l:=s3.2.1) (m:=[r8.1.Kind]) (.refl _) (.lstc (.refl _) (.lst0)) h fun l12 t11 H hO ht11 h=>?_;cbv;cases h;exact⟨_,⟨t11,t10⟩,rfl,.e4 (.e4 .z),rfl,ht11,ht10,hO⟩
  cbv;cases h;exact⟨_,_,rfl,⟨t4,ht4,t5,ht5,rfl,rfl,hO⟩,.e rfl (.e4 .z),rfl⟩
 ·exact .e rfl (.e2 (.v (.slt _ (.lst0)) (.v (.slt _ (.lst0)) (.e rfl (.e rfl (.e rfl (.z)))))))
 ·exact⟨trivial,trivial,hO⟩
 clear hx
 rcases s6 with y13|y43
 ·rintro e l H ⟨t14,ht14,t15,ht15,rfl,rfl,hO⟩;cbv;refine A4 hE h (c316 N aB.Op y13.2) (.cons (.refl _) (.cons (.ro _ _) (.refl _))) fun r16 h=>?_;cbv;refine A7 hE h (fun _ h=>?_) fun _ h=>?_
  ·cbv;refine B0 hE hO 2 rfl rfl fun H hO=>?_;cbv;refine B2 hE hO 2 rfl ?_;cbv;cases h;exact hK hO (.refl _)
  cbv;refine A7 hE h (fun _ h=>?_) fun _ h=>?_
  ·cbv;refine B9 hE eAp5 h fun x17 h=>?_;cbv;refine B9 hE eAp5 h fun x18 h=>?_;cbv;refine A4 hE h (c285 N (an (Ar.cmp .eql x17.Kind x18.Kind) (an (Ar.cmp .eql x17.Num x18.Num) (an (Ar.scmp .eql x17.Text x18.Text) true)))) (.refl _) fun r19 h=>?_;cbv;refine B0 hE hO 2 rfl rfl fun H hO=>?_;cbv;refine B2 hE hO 2 rfl ?_;cbv;cases h;exact hK hO (.refl _)
  cbv;refine Ag8 hE (kt:=3) (et:=338) (z:=.nilf) (by kernel_rfl) (by kernel_rfl) (by kernel_rfl) rfl ?_;cbv;refine A7 hE h (fun _ h=>?_) fun _ h=>?_
  ·cbv;refine B9 hE eAp5 h fun x20 h=>?_;cbv;refine D5 hE ?_;cbv;refine B9 hE eAp5 h fun x21 h=>?_;cbv;refine AB hE (g:=fun r22=>(C7 r22)) h (fun r22 hx=>B4.value (F:=[]) (C:=[.eref [.func (.func 307) [] []] 0]) (c308 N x20.Num x21.Num (.func (.func 307) [] []) (fun y1=>P2 N y1) (fun y1 r hx=>B4.value (F:=[]) (C:=[]) (c307 N y1 r hx)) r22 hx)) (.refl _) fun r22 h=>?_;cbv;refine B0 hE hO 2 rfl rfl fun H hO=>?_;cbv;refine B2 hE hO 2 rfl ?_;cbv;cases h;exact hK hO (.refl _)
  cbv;refine A7 hE h (fun _ h=>?_) fun _ h=>?_
  ·cbv;refine B9 hE eAp5 h fun x23 h=>?_;cbv;refine D5 hE ?_;cbv;refine B9 hE eAp5 h fun x24 h=>?_;cbv;refine AB hE (g:=fun r25=>(C7 r25)) h (fun r25 hx=>B4.value (F:=[]) (C:=[.eref [.func (.func 307) [] []] 0]) (c309 N x23.Num x24.Num (.func (.func 307) [] []) (fun y1=>P2 N y1) (fun y1 r hx=>B4.value (F:=[]) (C:=[]) (c307 N y1 r hx)) r25 hx)) (.refl _) fun r25 h=>?_;cbv;refine B0 hE hO 2 rfl rfl fun H hO=>?_;cbv;refine B2 hE hO 2 rfl ?_;cbv;cases h;exact hK hO (.refl _)
  cbv;refine A7 hE h (fun _ h=>?_) fun _ h=>?_
  ·cbv;refine B9 hE eAp5 h fun x26 h=>?_;cbv;refine D5 hE ?_;cbv;refine B9 hE eAp5 h fun x27 h=>?_;cbv;refine A4 hE h (c310 N x26.Num x27.Num) (.refl _) fun r28 h=>?_;cbv;refine B0 hE hO 2 rfl rfl fun H hO=>?_;cbv;refine B2 hE hO 2 rfl ?_;cbv;cases h;exact hK hO (.refl _)
  cbv;refine A7 hE h (fun _ h=>?_) fun _ h=>?_
  ·cbv;refine B9 hE eAp5 h fun x29 h=>?_;cbv;refine D5 hE ?_;cbv;refine B9 hE eAp5 h fun x30 h=>?_;cbv;refine A4 hE h (c311 N x29.Num x30.Num) (.refl _) fun r31 h=>?_;cbv;refine B0 hE hO 2 rfl rfl fun H hO=>?_;cbv;refine B2 hE hO 2 rfl ?_;cbv;cases h;exact hK hO (.refl _)
  cbv;refine A7 hE h (fun _ h=>?_) fun _ h=>?_
  ·cbv;refine B9 hE eAp5 h fun x32 h=>?_;cbv;refine D5 hE ?_;cbv;refine B9 hE eAp5 h fun x33 h=>?_;cbv;refine A4 hE h (c312 N x32.Num x33.Num) (.refl _) fun r34 h=>?_;cbv;refine B0 hE hO 2 rfl rfl fun H hO=>?_;cbv;refine B2 hE hO 2 rfl ?_;cbv;cases h;exact hK hO (.refl _)
  cbv;refine A7 hE h (fun _ h=>?_) fun _ h=>?_
  ·cbv;refine B9 hE eAp5 h fun x35 h=>?_;cbv;refine D5 hE ?_;cbv;refine B9 hE eAp5 h fun x36 h=>?_;cbv;refine A4 hE h (c313 N x35.Num x36.Num) (.refl _) fun r37 h=>?_;cbv;refine B0 hE hO 2 rfl rfl fun H hO=>?_;cbv;refine B2 hE hO 2 rfl ?_;cbv;cases h;exact hK hO (.refl _)
  cbv;refine A7 hE h (fun _ h=>?_) fun _ h=>?_
  ·cbv;refine B9 hE eAp5 h fun x38 h=>?_;cbv;refine D5 hE ?_;cbv;refine B9 hE eAp5 h fun x39 h=>?_;cbv;refine A4 hE h (c314 N x38.Num x39.Num) (.refl _) fun r40 h=>?_;cbv;refine B0 hE hO 2 rfl rfl fun H hO=>?_;cbv;refine B2 hE hO 2 rfl ?_;cbv;cases h;exact hK hO (.refl _)
  cbv;refine B9 hE eAp5 h fun x41 h=>?_;cbv;refine D5 hE ?_;cbv;refine B9 hE eAp5 h fun x42 h=>?_;cbv;cases h
 rintro e l H ⟨t44,ht44,t45,ht45,rfl,rfl,hO⟩;cbv;refine B2 hE hO 2 rfl ?_;cbv;cases h;exact hK hO (.refl _)
def cf284 :Cf:=⟨[8],[(3000004,0),(3000004,1),(3000004,2),(3000004,4),(3000004,5),(3000004,7),(3000004,8),(3000004,10)],[],[2000004],[],[]⟩
theorem c284 (N aB aR aU aV r)(h:FL N aB aR aU aV=some r):B4 prog 284 [(I5 aB),(Ed aR),vi aU,(W2 aV)] (.tup [(C7 r.1),vi r.2]):=by
 unfold FL at h
 refine I6 cf284 func284 call284 ntmps284 ?_;intro E H0 K hE hK hO;cbv;refine C6 hE hO fun b1 H hO=>?_;cbv;refine A4 hE h (c178 N aB) (.refl _) fun r2 h=>?_;cbv;refine A7 hE h (fun _ h=>?_) fun _ h=>?_
 ·cbv;refine B0 hE hO 0 rfl rfl fun H hO=>?_;cbv;refine B2 hE hO 0 rfl ?_;cbv;cases h;exact hK hO (.refl _)
 cbv;obtain⟨s3,hx,h⟩:=bind_some h;refine S8 cf284 hE L8 (fun e l H1=>e= .normal∧l=[(8,.v (.ref b1 0)),fi 9 s3.1]∧C2 Eq H0 [cb b1 (N3 s3.2)] H1) (by kernel_rfl) ?_ ?_
 ·clear h;have h:=hx;clear hx;cbv;refine XE hE (c297 N () rfl) (.refl _) hO fun m125 H hO=>?_;cbv;refine ZE hE (g:=fun r244=>.tup [(C7 r244.1),vi r244.2]) h (c298 N N (⟨aR,aU,aV,()⟩:P8) aB) (fun _=>.tup2 (.agg rfl) (.int _ _)) (.agg (.le (.refl _) (.le (.refl _) (.le (.refl _) (.le (.refl _) (.le (.refl _) (.le (.refl _) (.le (.refl _) (.fm (hO.get 0 rfl) (.nil))))))))) (.le (.refl _) (.nil))) fun r244 h=>?_;cbv;refine B0 hE hO 1 rfl rfl fun H hO=>?_;cbv;cases h;exact⟨_,⟨rfl,rfl,hO.tail⟩,.e2 .z,rfl⟩
 clear hx;rintro e l H ⟨rfl,rfl,hO⟩;cbv;refine B2 hE hO 0 rfl ?_;cbv;cases h;exact hK hO (.refl _)
def cf265 :Cf:=⟨[],[(2,5)],[],[],[],[]⟩
theorem c265 (N aB aR aU aV r)(h:CH N aB aR aU aV=some r):B4 prog 265 [(I5 aB),(Ed aR),vi aU,(W2 aV)] (.bool r):=by
 unfold CH at h
 refine I6 cf265 func265 call265 ntmps265 ?_;intro E H0 K hE hK hO;cbv;refine A4 hE h (c284 N aB aR aU aV) (.refl _) fun r1 h=>?_;cbv;refine A7 hE h (fun _ h=>?_) fun _ h=>?_
 ·cbv;refine C9 hE (g:=fun r2=>(C7 r2)) h (c285 N true) (.refl _) fun r2 h=>?_;cbv;cases h;exact hK hO (.refl _)
 cbv;cases h;exact hK hO (.refl _)
def cf266 :Cf:=⟨[6,7,3000041,8000041,9000041],[(6,20)],[],[],[(44,1000007)],[]⟩
theorem c266 (N aK aI cC r) (h:P6 N aK aI cC=some r):B4 prog 266 [.eref (B5 aK) 0,sr eAo9 aI,vi cC] ((Ed r)):=by
 unfold P6 at h
 refine I6 cf266 func266 call266 ntmps266 ?_;intro E H0 K hE hK hO;cbv;refine C6 hE hO fun b1 H hO=>?_;cbv;refine Ad1 hE (f:=eAp0) (by decide) hO 1 h fun l3 w2 H hw2 h hO=>?_;have hO:C2 Eq H0 (.blk w2.q.id (.arr 1 (w2.q.pre++lst (As eAp0) w2.row++w2.q.rest))::cb b1 [.sl [] .nil]::(Fy w2++[])) H:=hO;cbv;refine C6 hE hO fun b4 H hO=>?_;cbv;refine B0 hE hO 0 rfl rfl fun H hO=>?_;cbv;refine D5 hE ?_;cbv;obtain⟨s7,hx,h⟩:=bind_some h;refine N0 cf266 hE L8 (γ:=Rw A8) (fun s5 g=>[(0,.v (.eref (B5 aK) 0)),fi 2 cC,(6,.v (.ref b1 0)),(7,.v (.ref b4 0)),(12,.v (sr eAo9 aI)),fi 13 (Ar.len aI),fi 14 s5.1]) (fun s5 g H1=>Bs g s5.2∧C2 Eq H0 (cb b4 [.own g.q.id g.q.lo g.q.n]:: .blk g.q.id (.arr 1 (g.q.pre++lst (As eAp0) g.row++g.q.rest))::cb b1 [.sl [] .nil]::(Fy g++[])) H1) (fun x e l H1=>∃u1:Rw A8,Bs u1 x∧e= .exit 0∧l=[(6,.v (.ref b1 0)),(7,.v (.ref b4 0))]∧C2 Eq H0 (cb b4 [.own u1.q.id u1.q.lo u1.q.n]:: .blk u1.q.id (.arr 1 (u1.q.pre++lst (As eAp0) u1.row++u1.q.rest))::cb b1 [.sl [] .nil]::(Fy u1++[])) H1) (by kernel_rfl) ?_ w2 hx ?_ ?_ ?_
 ·rintro s5 w6 H o ⟨hw6,hO⟩ h;clear hx;cbv;refine A7 hE h (fun _ h=>?_) fun _ h=>?_
  ·cbv;refine B9 hE eAq7 h fun x8 h=>?_;cbv;refine A7 hE h (fun _ h=>?_) fun _ h=>?_
   ·cbv;obtain⟨x9,hxx9,h⟩:=bind_some h
    obtain⟨hjx9,t10,hrx9,hax9⟩:=hw6.at hxx9
    obtain⟨Rx9,hO,hbx9⟩:=hO.rtake (w:=w6) (T1:=[]) (T2:=[]) 3 rfl hrx9;refine LC hE hO 0 rfl hax9 fun H hO=>?_;cbv;refine B2 hE hO 1 rfl ?_;cbv;refine B2 hE hO 1 rfl ?_;cbv;refine Py hE (f:=As eAp0) hO hw6.ok 2 rfl hjx9 ?_;cbv;refine UA hE (f:=As eAp0) (fun _=>rfl) hO hw6.ok 2 rfl hjx9.1 hrx9 ?_;cbv;refine B9 hE eAp7 h fun x14 h=>?_;cbv;refine IP hE trivial ?_;cbv;refine Pg (f:=eAp0) hE Kk (by decide) (l:=x9) (m:=[x14]) (.refl _) (.lstc (.eq (eAp7 x14) (.refl _)) (.lst0)) h fun l15 h=>?_;cbv;refine LE hE hO 0 rfl fun t11 H hO htt11=>?_;cbv;refine Py hE (f:=As eAp0) hO hw6.ok 2 rfl hjx9 ?_;cbv;refine Rz hE (f:=As eAp0) (tz:=1) (x':=(l15,t11)) (fun _=>⟨.sl (lst eAp0 l15) t11,.refl _,rfl,rfl,rfl⟩) (by decide) hO hw6.ok 2 rfl hjx9 fun H hO=>?_;cbv;obtain⟨l13,hu,h⟩:=bind_some h;obtain⟨w12,hqw12,hw12,hO⟩:∃w0:Rw A8,w0.q=w6.q∧Bs w0 l13∧C2 Eq H0 (cb b4 [.own w0.q.id w0.q.lo w0.q.n]:: .blk w0.q.id (.arr 1 (w0.q.pre++lst (As eAp0) w0.row++w0.q.rest))::cb b1 [.sl [] .nil]::(Fy w0++[])) H:=⟨(⟨w6.q,w6.row.set (x8.cU).toNat (l15,t11)⟩:Rw A8),rfl,by rw[Qc hu];exact hw6.put _ htt11,(by have e:=hbx9 (l15,t11) H [cb b4 [.own w6.q.id w6.q.lo w6.q.n],.blk w6.q.id (.arr 1 (w6.q.pre++lst (As eAp0) (w6.row.set (x8.cU).toNat (l15,t11))++w6.q.rest)),cb b1 [.sl [] .nil]] hO;simp only[List.cons_append,List.nil_append,append_nil]at e ⊢;exact e)⟩
    try rw[←hqw12]
    cases h;exact⟨_,w12,rfl,.e rfl (.e2 (.e4 .z)),rfl,hw12,hO⟩
   cbv;cases h;exact⟨_,w6,rfl,.e rfl (.e2 (.e4 .z)),rfl,hw6,hO⟩
  cbv;cases h;exact⟨_,_,rfl,⟨w6,hw6,rfl,rfl,hO⟩,.e2 .z,rfl⟩
 ·exact .e rfl (.e2 (.e4 .z))
 ·exact⟨hw2,hO⟩
 clear hx;rintro e l H ⟨w16,hw16,rfl,rfl,hO⟩;cbv;refine Rb hE (e:=eAr0) eAr3 hO hw16 0 1 rfl rfl rfl (by decide) fun H hO=>?_;have hO:C2 Eq H0 [cb b4 [sr eAr0 s7],cb b1 [.sl [] .nil]] H:=hO.rdrop (w:=w16) (T1:=[]) (T2:=[]) 2 rfl;cbv;refine B2 hE hO 0 rfl ?_;cbv;refine B0 hE hO 1 rfl rfl fun H hO=>?_;cbv;refine B2 hE hO 1 rfl ?_;cbv;cases h;exact hK hO (.refl _)
def cf231 :Cf:=⟨[],[(1,13)],[],[],[],[]⟩
theorem c231 (N aK bP aI aU bA r)(h:G9 N aK bP aI aU bA=some r):B4 prog 231 [.eref (B5 aK) 0,(I5 bP),sr eAo9 aI,vi aU,vi bA] (.bool r):=by
 unfold G9 at h
 refine I6 cf231 func231 call231 ntmps231 ?_;intro E H0 K hE hK hO;cbv;refine C9 hE (g:=fun r1=>(Ed r1)) h (c266 N aK aI bA) (.refl _) fun r1 h=>?_;cbv;refine B9 hE eAp7 h fun x2 h=>?_;cbv;refine A4 hE h (c265 N bP r1 aU x2) (.refl _) fun r3 h=>?_;cbv;cases h;exact hK hO (.refl _)
def cf230 :Cf:=⟨[],[(3,28)],[],[],[],[]⟩
theorem c230 (N aJ aM aP aS r) (h:S3 N aJ aM aP aS=some r):FQ prog 230 (fun yv=>[yv,.eref [vi aJ] 0,.eref [.eref (B5 aM) 0] 0,.eref (D6 aP) 0,.eref [sr eAo9 aS] 0]) (List.map (fun(x:(List A0))=>[sr eAo9 x]) r) rbN:=by
 unfold S3 at h
 obtain⟨⟨w0,u0⟩,h1,hr⟩:=bind_some h;clear h;have hr:=G4 hr;subst hr;have h:=h1;clear h1;refine N9 cf230 L8 func230 (by rfl) (by kernel_rfl) call230 ntmps230 (by rfl) (fun _=>rfl) ?_;intro yv I D hI hD hy tl F E H K hE hO hK hKD
 have hO:C2 (I (List.map (fun(x:(List A0))=>[sr eAo9 x]) (w0++[])++tl)) F [] H:=by rw[append_nil];exact hO
 cbv;obtain⟨w2,w3,s6,hx,h1,he⟩:=Q6 h;clear h;have h:=h1;clear h1
 rw[he,append_assoc]at hO
 clear he;refine Ci cf230 hE L8 (γ:=Unit) (fun s1 g=>[(0,.v (yv)),(2,.v (.eref [.eref (B5 aM) 0] 0)),(3,.v (.eref (D6 aP) 0)),(4,.v (.eref [sr eAo9 aS] 0)),fi 6 s1]) (fun s1 g w H1=>C2 (I (List.map (fun(x:(List A0))=>[sr eAo9 x]) w++tl)) F [] H1) (fun x e l w H1=>e= .exit 0∧l=[]∧C2 (I (List.map (fun(x:(List A0))=>[sr eAo9 x]) w++tl)) F [] H1) (fun e l H1=>(e= .ret∧l=[]∧C2 D F [] H1)) (by kernel_rfl) ?_ (w':=w3++[]) () hx ?_ ?_ ?_ ?_
 ·rintro s1 _ w4 w5 H o hO h;clear hx
  skip
  cbv;refine D5 hE ?_;cbv;refine A7 hE h (fun _ h=>?_) fun _ h=>?_
  ·cbv;refine B9 hE eAp7 h fun x7 h=>?_;cbv;refine A7 hE h (fun _ h=>?_) fun _ h=>?_
   ·cbv;refine C9 hE (g:=fun r8=>.bool r8) h (c231 N aM aP.cR aS aP.Var s1) (.refl _) fun r8 h=>?_;cbv;refine A7 hE h (fun _ h=>?_) fun _ h=>?_
    ·cbv;obtain⟨w9,h1,he⟩:=V3 h;clear h;have h:=h1;clear h1
     rw[he,append_assoc]at hO
     clear he;have hO:C2 (I ([sr eAo9 ([(⟨aP.Var,s1⟩:A0)])]::(List.map (fun(x:(List A0))=>[sr eAo9 x]) (w9++w5)++tl))) F [] _:=hO;refine DJ hE hI hD hy hO (.cons (.lit _ (G0 ((eAq7 (⟨aP.Var,s1⟩:A0)).symm) (E8))) (.refl _)) (fun H hO=>?_) (fun H hO=>?_)
     ·cbv;refine Il hE (nt_eq _) ?_;cbv;obtain⟨hw,rfl⟩:=D2 h
      rw[←hw]at hO
      exact⟨_,(),rfl,.e rfl (.e4 .z),rfl,hO⟩
     clear h;cbv;refine Ik hE (nt_eq _) ?_;cbv;exact .inr ⟨_,⟨rfl,rfl,hO⟩,.z,rfl⟩
    cbv;obtain⟨hw,rfl⟩:=D2 h
    rw[←hw]at hO
    exact⟨_,(),rfl,.e rfl (.e4 .z),rfl,hO⟩
   cbv;obtain⟨hw,rfl⟩:=D2 h
   rw[←hw]at hO
   exact⟨_,(),rfl,.e rfl (.e4 .z),rfl,hO⟩
  cbv;obtain⟨hw,rfl⟩:=D2 h
  rw[←hw]at hO
  exact .inl ⟨_,_,rfl,⟨rfl,rfl,hO⟩,.z,rfl⟩
 ·exact .e rfl (.e4 .z)
 ·exact hO
 ·rintro e l H ⟨rfl,rfl,hO⟩;clear hx;cbv;obtain⟨hw,_⟩:=D2 h
  rw[←hw]at hO
  exact hK _ _ _ hO trivial
 rintro e l H hX;obtain⟨rfl,rfl,hO⟩:=hX;clear h;cbv;exact hKD _ _ _ hO trivial
theorem c190 (N aK aA aO aG r)(h:K0 N aK aA aO aG=some r):Av prog 190 [.eref (B5 aK) 0,(C3 aA),sr eAo9 aO,vi aG] (fun v=>Fi prog v (r.map fun(x:(List A0))=>[sr eAo9 x])):=by
 unfold K0 at h
 refine R4 cf0 L8 func190 (by rfl) (by kernel_rfl) call190 ntmps190 (by rfl) (by rfl) ?_;intro E H0 K hE hK;have hO:C2 Eq H0 [] H0:=.start F9 rfl;cbv;exact hK _ _ _ hO (V1 call230 (c230 N aG aK aA aO r h))
theorem c267 (N aJ r) (h:E5 N aJ=some r):FQ prog 267 (fun yv=>[yv,.eref [sr eAp8 aJ] 0]) (List.map (fun(x:(List A0))=>[sr eAo9 x]) r) rbN:=by
 unfold E5 at h
 obtain⟨⟨w0,u0⟩,h1,hr⟩:=bind_some h;clear h;have hr:=G4 hr;subst hr;have h:=h1;clear h1;refine N9 cf0 L8 func267 (by rfl) (by kernel_rfl) call267 ntmps267 (by rfl) (fun _=>rfl) ?_;intro yv I D hI hD hy tl F E H K hE hO hK hKD
 have hO:C2 (I (List.map (fun(x:(List A0))=>[sr eAo9 x]) (w0++[])++tl)) F [] H:=by rw[append_nil];exact hO
 cbv;refine D5 hE ?_;cbv;obtain⟨w2,w3,s6,hx,h1,he⟩:=Q6 h;clear h;have h:=h1;clear h1
 rw[he,append_assoc]at hO
 clear he;refine Ci cf0 hE L8 (γ:=Unit) (fun s1 g=>[(0,.v (yv)),(5,.v (sr eAp8 aJ)),fi 6 (Ar.len aJ),fi 7 s1]) (fun s1 g w H1=>C2 (I (List.map (fun(x:(List A0))=>[sr eAo9 x]) w++tl)) F [] H1) (fun x e l w H1=>e= .exit 0∧l=[]∧C2 (I (List.map (fun(x:(List A0))=>[sr eAo9 x]) w++tl)) F [] H1) (fun e l H1=>(e= .ret∧l=[]∧C2 D F [] H1)) (by kernel_rfl) ?_ (w':=w3++[]) () hx ?_ ?_ ?_ ?_
 ·rintro s1 _ w4 w5 H o hO h;clear hx
  skip
  cbv;refine A7 hE h (fun _ h=>?_) fun _ h=>?_
  ·cbv;refine B9 hE eAq8 h fun x7 h=>?_;cbv;obtain⟨w8,h1,he⟩:=V3 h;clear h;have h:=h1;clear h1
   rw[he,append_assoc]at hO
   clear he;have hO:C2 (I ([sr eAo9 x7]::(List.map (fun(x:(List A0))=>[sr eAo9 x]) (w8++w5)++tl))) F [] _:=hO;refine DJ hE hI hD hy hO (.refl _) (fun H hO=>?_) (fun H hO=>?_)
   ·cbv;refine Il hE (nt_eq _) ?_;cbv;obtain⟨hw,rfl⟩:=D2 h
    rw[←hw]at hO
    exact⟨_,(),rfl,.e4 .z,rfl,hO⟩
   clear h;cbv;refine Ik hE (nt_eq _) ?_;cbv;exact .inr ⟨_,⟨rfl,rfl,hO⟩,.z,rfl⟩
  cbv;obtain⟨hw,rfl⟩:=D2 h
  rw[←hw]at hO
  exact .inl ⟨_,_,rfl,⟨rfl,rfl,hO⟩,.z,rfl⟩
 ·exact .e4 .z
 ·exact hO
 ·rintro e l H ⟨rfl,rfl,hO⟩;clear hx;cbv;obtain⟨hw,_⟩:=D2 h
  rw[←hw]at hO
  exact hK _ _ _ hO trivial
 rintro e l H hX;obtain⟨rfl,rfl,hO⟩:=hX;clear h;cbv;exact hKD _ _ _ hO trivial
theorem c232 (N aI r)(h:O1 N aI=some r):Av prog 232 [sr eAp8 aI] (fun v=>Fi prog v (r.map fun(x:(List A0))=>[sr eAo9 x])):=by
 unfold O1 at h
 refine R4 cf0 L8 func232 (by rfl) (by kernel_rfl) call232 ntmps232 (by rfl) (by rfl) ?_;intro E H0 K hE hK;have hO:C2 Eq H0 [] H0:=.start F9 rfl;cbv;exact hK _ _ _ hO (V1 call267 (c267 N aI r h))
theorem c286 {cmp:A0→A0→Option Int}{g:Nat}{C:List V}(eg:∀vals w,(callFunc g vals).run prog w= .ok (.enter g vals) w)(hc:∀y1 y2 r,cmp y1 y2=some r→B4 prog g ([(M2 y1),(M2 y2)]++C) (vi r)){l r:List A0}(h:GV cmp l=some r):
 PM prog 286 (.func (.func g) [] C) 2 (lst eAo9 l) (lst eAo9 r):=Lk Go.Proofs.Tryz.sorts286 call286 (va:=fun x=>(Ff x)) eAq7 (fun _=>rfl) eg hc h
theorem c287 (N aN bH r)(h:AZ N aN bH=some r):B4 prog 287 [(M2 aN),(M2 bH)] (vi r):=by
 unfold AZ at h
 refine I6 cf0 func287 call287 ntmps287 ?_;intro E H0 K hE hK hO;cbv;cases h;exact hK hO (.refl _)
theorem c269 (N aD aF r)(h:L4 N aD aF=some r):B4 prog 269 [sr eAo9 aD,sr eAo9 aF] (sr eAo9 r):=by
 unfold L4 at h
 refine HD (T:=TT) cf0 L8 func269 (by rfl) (by kernel_rfl) call269 ntmps269 (by rfl) (by rfl) ?_;intro E H0 K hE hK hF;have hO:C2 Eq H0 [] H0:=.start F9 rfl;cbv;refine D5 hE ?_;cbv;refine D5 hE ?_;cbv;refine Ad2 hE (f:=eAo9) (by decide) (z0:=((⟨0,0⟩:A0):A0)) ((.eq (eAq7 _) (.refl _))) hO h fun l2 q1 H hq1 h hO=>?_;cbv;refine Gi (f:=eAo9) hE Y1 (by decide) hO hq1 0 rfl (m:=aD) (GU (f:=eAo9) hE Y1 (.refl _)) h fun l4 q3 H hq3 hO h=>?_;cbv;refine Gi (f:=eAo9) hE Y1 (by decide) hO hq3 0 rfl (m:=aF) (GU (f:=eAo9) hE Y1 (.refl _)) h fun l6 q5 H hq5 hO h=>?_;cbv;refine Re hE hO hq5 0 rfl h (fun l7 hx=>c286 (g:=287) (C:=[]) call287 (fun y1 y2 r hx=>c287 N y1 y2 r hx) hx) fun l7 H hq5 hO h=>?_;cbv;cases h;exact hF q5 _ _ 0 _ _ hO rfl (HW hE hq5) (.refl _)
theorem c270 (N aI r)(h:K7 N aI=some r):B4 prog 270 [sr eAo9 aI] (vi r):=by
 unfold K7 at h
 refine I6 cf0 func270 call270 ntmps270 ?_;intro E H0 K hE hK hO;cbv;refine D5 hE ?_;cbv;refine B9 hE eAq7 h fun x1 h=>?_;cbv;cases h;exact hK hO (.refl _)
theorem c301 (N:Nat) (aI:List A0) (bL:V) (bI:A0→Option Bool) (bU:∀y1 q,bI y1=some q→W4 prog bL [(M2 y1)] (.bool q)) (r:Int) (h:O2 N aI bI=some r):B4 prog 301 [sr eAo9 aI,bL] (vi r):=by
 unfold O2 at h
 refine I6 cf0 func301 call301 ntmps301 ?_;intro E H0 K hE hK hO;cbv;refine D5 hE ?_;cbv;obtain⟨s2,hx,h⟩:=bind_some h;refine E6 cf0 hE L8 (fun s1=>[(0,.v (sr eAo9 aI)),(1,.v (bL)),fi 7 (Ar.len aI),fi 8 s1]) (fun s1 H1=>C2 Eq H0 [] H1) (fun x e l H1=>match(generalizing:=false) x with| .inl y=>e= .exit 0∧l=[]∧C2 Eq H0 [] H1| .inr y=>e= .ret∧l=[fi 4 y]∧C2 Eq H0 [] H1) (by kernel_rfl) ?_ hx ?_ hO ?_
 ·intro s1 H o hO h;clear hx;cbv;refine A7 hE h (fun _ h=>?_) fun _ h=>?_
  ·cbv;refine B9 hE eAq7 h fun x3 h=>?_;cbv;refine AB hE (g:=fun r4=>.bool r4) h (fun r4 hx=>bU x3 r4 hx) (.refl _) fun r4 h=>?_;cbv;refine A7 hE h (fun _ h=>?_) fun _ h=>?_
   ·cbv;cases h;exact⟨_,_,rfl,⟨rfl,rfl,hO⟩,.e rfl .z,rfl⟩
   cbv;cases h;exact⟨_,rfl,.e4 .z,rfl,hO⟩
  cbv;cases h;exact⟨_,_,rfl,⟨rfl,rfl,hO⟩,.z,rfl⟩
 ·exact .e4 .z
 clear hx
 rcases s2 with y5|y6
 ·rintro e l H ⟨rfl,rfl,hO⟩;cbv;cases h;exact hK hO (.refl _)
 rintro e l H ⟨rfl,rfl,hO⟩;cbv;cases h;exact hK hO (.refl _)
theorem c288 (N:Nat)(aI:List A0)(bL:V)(bI:A0→Option Bool)(bU:∀y1 q,bI y1=some q→W4 prog bL [(M2 y1)] (.bool q))(r:Bool)(h:G8 N aI bI=some r):B4 prog 288 [sr eAo9 aI,bL] (.bool r):=by
 unfold G8 at h
 refine I6 cf0 func288 call288 ntmps288 ?_;intro E H0 K hE hK hO;cbv;refine A4 hE h (c301 N aI bL bI bU) (.refl _) fun r1 h=>?_;cbv;cases h;exact hK hO (.refl _)
theorem c290 (N aN aJ r)(h:T5 N aN aJ=some r):B4 prog 290 [(M2 aN),.eref [vi aJ] 0] (.bool r):=by
 unfold T5 at h
 refine I6 cf0 func290 call290 ntmps290 ?_;intro E H0 K hE hK hO;cbv;cases h;exact hK hO (.refl _)
theorem c272 (N aI bA r)(h:S2 N aI bA=some r):B4 prog 272 [sr eAo9 aI,vi bA] (.bool r):=by
 unfold S2 at h
 refine I6 cf0 func272 call272 ntmps272 ?_;intro E H0 K hE hK hO;cbv;refine A4 hE (g:=fun r1=>.bool r1) h (fun r1 hx=>c288 N aI (.func (.func 290) [] [.eref [vi bA] 0]) (fun y1=>T5 N y1 bA) (fun y1 r hx=>B4.value (F:=[]) (C:=[.eref [vi bA] 0]) (c290 N y1 bA r hx)) r1 hx) (.refl _) fun r1 h=>?_;cbv;cases h;exact hK hO (.refl _)
theorem c289 (N aN aJ r)(h:X1 N aN aJ=some r):B4 prog 289 [(M2 aN),.eref [sr eAo9 aJ] 0] (.bool r):=by
 unfold X1 at h
 refine I6 cf0 func289 call289 ntmps289 ?_;intro E H0 K hE hK hO;cbv;refine A4 hE h (c272 N aJ aN.at_) (.refl _) fun r1 h=>?_;cbv;cases h;exact hK hO (.refl _)
theorem c271 (N aD aF r)(h:Ao N aD aF=some r):B4 prog 271 [sr eAo9 aD,sr eAo9 aF] (.bool r):=by
 unfold Ao at h
 refine I6 cf0 func271 call271 ntmps271 ?_;intro E H0 K hE hK hO;cbv;refine A4 hE (g:=fun r1=>.bool r1) h (fun r1 hx=>c288 N aD (.func (.func 289) [] [.eref [sr eAo9 aF] 0]) (fun y1=>X1 N y1 aF) (fun y1 r hx=>B4.value (F:=[]) (C:=[.eref [sr eAo9 aF] 0]) (c289 N y1 aF r hx)) r1 hx) (.refl _) fun r1 h=>?_;cbv;cases h;exact hK hO (.refl _)
def cf237 :Cf:=⟨[],[(6,11)],[],[],[],[]⟩
theorem c237 (N:Nat):∀n bQ bM r,S6 N n bQ bM=some r→FQ prog 237 (fun yv=>[sr eAq9 bQ,sr eAo9 bM,yv]) (List.map (fun(x:(List A0))=>[sr eAo9 x]) r) rbB:=by
 intro n
 induction n with
 |zero=>intro bQ bM r h;cases h
 |succ n ih=>
 intro bQ bM r h
 unfold S6 at h
 obtain⟨⟨w0,u0⟩,h1,hr⟩:=bind_some h;clear h;have hr:=G4 hr;subst hr;have h:=h1;clear h1;refine N9 cf237 L8 func237 (by rfl) (by kernel_rfl) call237 ntmps237 (by rfl) (fun _=>rfl) ?_;intro yv I D hI hD hy tl F E H K hE hO hK hKD
 have hO:C2 (I (List.map (fun(x:(List A0))=>[sr eAo9 x]) (w0++[])++tl)) F [] H:=by rw[append_nil];exact hO
 cbv;refine D5 hE ?_;cbv;refine A7 hE h (fun _ h=>?_) fun _ h=>?_
 ·cbv;obtain⟨w1,h1,he⟩:=V3 h;clear h;have h:=h1;clear h1
  rw[he,append_assoc]at hO
  clear he;have hO:C2 (I ([sr eAo9 bM]::(List.map (fun(x:(List A0))=>[sr eAo9 x]) (w1++[])++tl))) F [] _:=hO;refine DJ hE hI hD hy hO (.refl _) (fun H hO=>?_) (fun H hO=>?_)
  ·cbv;obtain⟨hw,_⟩:=D2 h
   rw[←hw]at hO
   exact hK _ _ _ hO rfl
  clear h;cbv;exact hKD _ _ _ hO rfl
 cbv;refine B9 hE eAr4 h fun x2 h=>?_;cbv;refine D5 hE ?_;cbv;obtain⟨w4,w5,s8,hx,h1,he⟩:=Q6 h;clear h;have h:=h1;clear h1
 rw[he,append_assoc]at hO
 clear he;refine Ci cf237 hE L8 (γ:=Unit) (fun s3 g=>[(0,.v (sr eAq9 bQ)),(1,.v (sr eAo9 bM)),(2,.v (yv)),(17,.v (sr eAp8 x2)),fi 18 (Ar.len x2),fi 19 s3]) (fun s3 g w H1=>C2 (I (List.map (fun(x:(List A0))=>[sr eAo9 x]) w++tl)) F [] H1) (fun x e l w H1=>e= .exit 0∧l=[]∧C2 (I (List.map (fun(x:(List A0))=>[sr eAo9 x]) w++tl)) F [] H1) (fun e l H1=>(e= .ret∧l=[(6,.b false)]∧C2 D F [] H1)) (by kernel_rfl) ?_ (w':=w5++[]) () hx ?_ ?_ ?_ ?_
 ·rintro s3 _ w6 w7 H o hO h;clear hx
  skip
  cbv;refine A7 hE h (fun _ h=>?_) fun _ h=>?_
  ·cbv;refine B9 hE eAq8 h fun x9 h=>?_;cbv;refine C9 hE (g:=fun r10=>.bool r10) h (c271 N bM x9) (.refl _) fun r10 h=>?_;cbv;refine A7 hE h (fun _ h=>?_) fun _ h=>?_
   ·cbv;refine Gg hE (f:=eAq9) Cv h fun l11 t12 h=>?_;cbv;refine C9 hE (g:=fun r13=>sr eAo9 r13) h (c269 N bM x9) (.refl _) fun r13 h=>?_;cbv;obtain⟨l14,hl,h⟩:=bind_some h;obtain⟨w15,h1,he⟩:=V3 h;clear h;have h:=h1;clear h1
    rw[he,append_assoc]at hO
    clear he
    rw[List.map_append,append_assoc]at hO
    refine Pf hE hI hD hy (ih l11 r13 l14 hl) hO (.cons (.ro _ _) (.refl _)) (fun v H hb hO=>?_) (fun v H hb hO=>?_)
    ·cases hb;clear hl;cbv;refine Il hE (nt_eq _) ?_;cbv;obtain⟨hw,rfl⟩:=D2 h
     rw[←hw]at hO
     exact⟨_,(),rfl,.e2 (.e4 .z),rfl,hO⟩
    cases hb;clear h hl;cbv;refine Ik hE (nt_eq _) ?_;cbv;exact .inr ⟨_,⟨rfl,rfl,hO⟩,.b rfl (.z),rfl⟩
   cbv;obtain⟨hw,rfl⟩:=D2 h
   rw[←hw]at hO
   exact⟨_,(),rfl,.e2 (.e4 .z),rfl,hO⟩
  cbv;obtain⟨hw,rfl⟩:=D2 h
  rw[←hw]at hO
  exact .inl ⟨_,_,rfl,⟨rfl,rfl,hO⟩,.z,rfl⟩
 ·exact .e2 (.e4 .z)
 ·exact hO
 ·rintro e l H ⟨rfl,rfl,hO⟩;clear hx;cbv;obtain⟨hw,_⟩:=D2 h
  rw[←hw]at hO
  exact hK _ _ _ hO rfl
 rintro e l H hX;obtain⟨rfl,rfl,hO⟩:=hX;clear h;cbv;exact hKD _ _ _ hO rfl
def cf241 :Cf:=⟨[],[(3,23),(5,13),(10,25)],[],[],[],[]⟩
theorem c241 (N aK aA aO aI r) (h:Q3 N aK aA aO aI=some r):B4 prog 241 [.eref (B5 aK) 0,(C3 aA),sr eAo9 aO,sr eAo9 aI] (.bool r):=by
 unfold Q3 at h
 refine I6 cf241 func241 call241 ntmps241 ?_;intro E H0 K hE hK hO;cbv;refine A7 hE h (fun _ h=>?_) fun _ h=>?_
 ·cbv;refine C9 hE (g:=fun r1=>vi r1) h (c270 N aI) (.refl _) fun r1 h=>?_;cbv;refine B9 hE eAp7 h fun x2 h=>?_;cbv;refine B9 hE eAq7 h fun x3 h=>?_;cbv;refine B9 hE eAp7 h fun x4 h=>?_;cbv;cases h;exact hK hO (.refl _)
 cbv;refine A7 hE h (fun _ h=>?_) fun _ h=>?_
 ·cbv;refine C9 hE (g:=fun r5=>sr eAo9 r5) h (c269 N aO aI) (.refl _) fun r5 h=>?_;cbv;refine D5 hE ?_;cbv;refine C9 hE (g:=fun r6=>(Ed r6)) h (c266 N aK r5 (Ar.len aK.cY)) (.refl _) fun r6 h=>?_;cbv;refine A4 hE h (c265 N aA.cR r6 (-1) (⟨0,0,0,0,[]⟩:A8)) (.cons (.refl _) (.cons (.refl _) (.cons (.refl _) (.cons (.agg (.cons (.refl _) (.cons (.refl _) (.cons (.refl _) (.cons (.refl _) (.cons (.lit _ (E8)) (.refl _))))))) (.refl _))))) fun r7 h=>?_;cbv;cases h;exact hK hO (.refl _)
 cbv;refine A4 hE h (c269 N aO aI) (.refl _) fun r8 h=>?_;cbv;refine B9 hE eAq7 h fun x9 h=>?_;cbv;obtain⟨s11,hx,h⟩:=bind_some h;refine E6 cf241 hE L8 (fun s10=>[(0,.v (.eref (B5 aK) 0)),(3,.v (sr eAo9 aI)),(5,.v (.eref (D6 aA) 0)),(9,.v (sr eAo9 r8)),fi 10 s10]) (fun s10 H1=>C2 Eq H0 [] H1) (fun x e l H1=>match(generalizing:=false) x with| .inl y=>e= .exit 1∧l=[]∧C2 Eq H0 [] H1| .inr y=>e= .ret∧l=[(8,.b false)]∧C2 Eq H0 [] H1) (by kernel_rfl) ?_ hx ?_ hO ?_
 ·intro s10 H o hO h;clear hx;cbv;refine A4 hE h (c270 N aI) (.refl _) fun r12 h=>?_;cbv;refine A7 hE h (fun _ h=>?_) fun _ h=>?_
  ·cbv;refine B9 hE eAp7 h fun x13 h=>?_;cbv;refine A7 hE h (fun _ h=>?_) fun _ h=>?_
   ·cbv;refine C9 hE (g:=fun r14=>.bool r14) h (c272 N aI s10) (.refl _) fun r14 h=>?_;cbv;refine A7 hE h (fun _ h=>?_) fun _ h=>?_
    ·cbv;refine A4 hE h (c231 N aK aA.cR r8 aA.Var s10) (.refl _) fun r15 h=>?_;cbv;refine A7 hE h (fun _ h=>?_) fun _ h=>?_
     ·cbv;cases h;exact⟨_,_,rfl,⟨rfl,rfl,hO⟩,.b rfl (.z),rfl⟩
     cbv;cases h;exact⟨_,rfl,.e rfl (.e4 .z),rfl,hO⟩
    cbv;cases h;exact⟨_,rfl,.e rfl (.e4 .z),rfl,hO⟩
   cbv;cases h;exact⟨_,rfl,.e rfl (.e4 .z),rfl,hO⟩
  cbv;cases h;exact⟨_,_,rfl,⟨rfl,rfl,hO⟩,.z,rfl⟩
 ·exact .e rfl (.e4 .z)
 clear hx
 rcases s11 with y16|y17
 ·rintro e l H ⟨rfl,rfl,hO⟩;cbv;cases h;exact hK hO (.refl _)
 rintro e l H ⟨rfl,rfl,hO⟩;cbv;cases h;exact hK hO (.refl _)
def cf127 :Cf:=⟨[8,9],[(3,3)],[(39,12)],[],[],[]⟩
def NC (N n:Nat):Prop:=∀(aK:B3) (aA:A1) (aO:List A0) (aG:Int) (r:(List (List A0))),C8 N n aK aA aO aG=some r→B4 prog 127 [.eref (B5 aK) 0,(C3 aA),sr eAo9 aO,vi aG] (sr eAp8 r)
def cf191 :Cf:=⟨[9],[(2,7),(5,8)],[],[],[(400000005,9)],[]⟩
def Ak7 (N n:Nat):Prop:=∀(aK:B3) (aA:A1) (aO:List A0) (aG:Int) (r:(List (List A0))),L9 N n aK aA aO aG=some r→Av prog 191 [.eref (B5 aK) 0,(C3 aA),sr eAo9 aO,vi aG] (fun v=>Fi prog v (r.map fun(x:(List A0))=>[sr eAo9 x]))
def Ak6 (N n:Nat):Prop:=∀(aK:B3) (aA:A1) (aO:List A0) (aG:Int) (r:(List (List A0))),M0 N n aK aA aO aG=some r→Av prog 192 [.eref (B5 aK) 0,(C3 aA),sr eAo9 aO,vi aG] (fun v=>Fi prog v (r.map fun(x:(List A0))=>[sr eAo9 x]))
def Ak5 (N n:Nat):Prop:=∀(aK:B3) (aA:A1) (aO:List A0) (aG:Int) (r:(List (List A0))),M1 N n aK aA aO aG=some r→Av prog 193 [.eref (B5 aK) 0,(C3 aA),sr eAo9 aO,vi aG] (fun v=>Fi prog v (r.map fun(x:(List A0))=>[sr eAo9 x]))
def Ak4 (N n:Nat):Prop:=∀(aK:B3) (aA:A1) (aO:List A0) (aG:Int) (r:(List (List A0))),K9 N n aK aA aO aG=some r→Av prog 194 [.eref (B5 aK) 0,(C3 aA),sr eAo9 aO,vi aG] (fun v=>Fi prog v (r.map fun(x:(List A0))=>[sr eAo9 x]))
def Ak3 (N n:Nat):Prop:=∀(aK:B3) (aA:A1) (aO:List A0) (aG:Int) (r:(List (List A0))),E7 N n aK aA aO aG=some r→Av prog 195 [.eref (B5 aK) 0,(C3 aA),sr eAo9 aO,vi aG] (fun v=>Fi prog v (r.map fun(x:(List A0))=>[sr eAo9 x]))
def cf233 :Cf:=⟨[1000009],[],[],[],[],[]⟩
def Ab4 (N n:Nat):Prop:=∀(aK:B3) (aA:A1) (aO:List A0) (aG:Int) (cB:V) (bX:(List A0)→Int→Option (List (List A0))) (cK:∀y1 y2 q,bX y1 y2=some q→W4 prog cB [sr eAo9 y1,vi y2] (sr eAp8 q)) (cL:OneV cB) (r:(List (List A0))),K8 N n aK aA aO aG bX=some r→Av prog 233 [.eref (B5 aK) 0,(C3 aA),sr eAo9 aO,vi aG,cB] (fun v=>Fi prog v (r.map fun(x:(List A0))=>[sr eAo9 x]))
def Ak2 (N n:Nat):Prop:=∀(aO:List A0) (aG:Int) (aM:B3) (aP:A1) (r:(List (List A0))),J9 N n aO aG aM aP=some r→B4 prog 234 [sr eAo9 aO,vi aG,.eref [.eref (B5 aM) 0] 0,.eref (D6 aP) 0] (sr eAp8 r)
def Ak1 (N n:Nat):Prop:=∀(aJ:A1) (aM:B3) (aP:List A0) (aS:Int) (r:(List (List A0))),Q4 N n aJ aM aP aS=some r→FQ prog 235 (fun yv=>[yv,.eref (D6 aJ) 0,.eref [.eref (B5 aM) 0] 0,.eref [sr eAo9 aP] 0,.eref [vi aS] 0]) (List.map (fun(x:(List A0))=>[sr eAo9 x]) r) rbN
def Ak0 (N n:Nat):Prop:=∀(aJ:A1) (aM:B3) (aP:List A0) (aS:Int) (r:(List (List A0))),Q5 N n aJ aM aP aS=some r→FQ prog 236 (fun yv=>[yv,.eref (D6 aJ) 0,.eref [.eref (B5 aM) 0] 0,.eref [sr eAo9 aP] 0,.eref [vi aS] 0]) (List.map (fun(x:(List A0))=>[sr eAo9 x]) r) rbN
def cf238 :Cf:=⟨[1000005],[(1,10),(6,8)],[],[],[],[]⟩
def Aj9 (N n:Nat):Prop:=∀(aJ:B3) (aM:A1) (aP:List A0) (aS:Int) (r:(List (List A0))),O5 N n aJ aM aP aS=some r→FQ prog 238 (fun yv=>[yv,.eref [.eref (B5 aJ) 0] 0,.eref (D6 aM) 0,.eref [sr eAo9 aP] 0,.eref [vi aS] 0]) (List.map (fun(x:(List A0))=>[sr eAo9 x]) r) rbN
def Aj8 (N n:Nat):Prop:=∀(aO:List A0) (aG:Int) (aM:B3) (aP:A1) (r:(List (List A0))),I1 N n aO aG aM aP=some r→B4 prog 239 [sr eAo9 aO,vi aG,.eref [.eref (B5 aM) 0] 0,.eref (D6 aP) 0] (sr eAp8 r)
def cf240 :Cf:=⟨[],[(0,10)],[],[],[],[]⟩
def Aj7 (N n:Nat):Prop:=∀(aJ:B3) (aM:A1) (aP:List A0) (aS:Int) (r:(List (List A0))),O4 N n aJ aM aP aS=some r→FQ prog 240 (fun yv=>[yv,.eref [.eref (B5 aJ) 0] 0,.eref (D6 aM) 0,.eref [sr eAo9 aP] 0,.eref [vi aS] 0]) (List.map (fun(x:(List A0))=>[sr eAo9 x]) r) rbN
def cf268 :Cf:=⟨[],[(3,10)],[],[],[],[]⟩
def Aj6 (N n:Nat):Prop:=∀(aJ:B3) (aM:A1) (aP:List A0) (aS:Int) (bZ:V) (cA:(List A0)→Int→Option (List (List A0))) (cN:∀y1 y2 q,cA y1 y2=some q→W4 prog bZ [sr eAo9 y1,vi y2] (sr eAp8 q)) (r:(List (List A0))),O3 N n aJ aM aP aS cA=some r→FQ prog 268 (fun yv=>[yv,.eref [.eref (B5 aJ) 0] 0,.eref (D6 aM) 0,.eref [sr eAo9 aP] 0,.eref [vi aS] 0,.eref [bZ] 0]) (List.map (fun(x:(List A0))=>[sr eAo9 x]) r) rbN
theorem k127 (N n:Nat) (ih191:Ak7 N n) (ih192:Ak6 N n) (ih193:Ak5 N n) (ih194:Ak4 N n) (ih195:Ak3 N n):NC N (n+1):=by
 intro aK aA aO aG r h
 unfold C8 at h
 refine I6 cf127 func127 call127 ntmps127 ?_;intro E H0 K hE hK hO;cbv;refine C6 hE hO fun b1 H hO=>?_;cbv;refine C6 hE hO fun b2 H hO=>?_;cbv;refine Ad3 hE .string V.str V.bool hO fun m3 o4 H ho4 hO=>?_;cbv;refine C9 hE (g:=fun r5=>.agg [.func (.func 190) [] [],.func (.func 191) [] [],.func (.func 192) [] [],.func (.func 193) [] [],.func (.func 194) [] [],.func (.func 195) [] [],.func (.func 195) [] [],.func (.func 195) [] []]) h (c159 N) (.refl _) fun r5 h=>?_;cbv;refine ZF hE (Good:=fun v6 (f7:B3→A1→(List A0)→Int→Option (List (List A0)))=>∀y1 y2 y3 y4 q,f7 y1 y2 y3 y4=some q→TG prog v6 [.eref (B5 y1) 0,(C3 y2),sr eAo9 y3,vi y4] (fun w=>Fi prog w (q.map fun(x:(List A0))=>[sr eAo9 x]))) (xs:=[.func (.func 190) [] [],.func (.func 191) [] [],.func (.func 192) [] [],.func (.func 193) [] [],.func (.func 194) [] [],.func (.func 195) [] [],.func (.func 195) [] [],.func (.func 195) [] []]) (.cons (fun y1 y2 y3 y4 r hx=>Av.value (F:=[]) (C:=[]) (c190 N y1 y2 y3 y4 r hx)) (.cons (fun y1 y2 y3 y4 r hx=>Av.value (F:=[]) (C:=[]) (ih191 y1 y2 y3 y4 r hx)) (.cons (fun y1 y2 y3 y4 r hx=>Av.value (F:=[]) (C:=[]) (ih192 y1 y2 y3 y4 r hx)) (.cons (fun y1 y2 y3 y4 r hx=>Av.value (F:=[]) (C:=[]) (ih193 y1 y2 y3 y4 r hx)) (.cons (fun y1 y2 y3 y4 r hx=>Av.value (F:=[]) (C:=[]) (ih194 y1 y2 y3 y4 r hx)) (.cons (fun y1 y2 y3 y4 r hx=>Av.value (F:=[]) (C:=[]) (ih195 y1 y2 y3 y4 r hx)) (.cons (fun y1 y2 y3 y4 r hx=>Av.value (F:=[]) (C:=[]) (ih195 y1 y2 y3 y4 r hx)) (.cons (fun y1 y2 y3 y4 r hx=>Av.value (F:=[]) (C:=[]) (ih195 y1 y2 y3 y4 r hx)) (.nil))))))))) h fun v6 f7 hv6 h=>?_;cbv;refine XD hE h (fun r8 hx=>hv6 aK aA aO aG r8 hx) (.refl _) fun r8 v9 hv9 h=>?_;cbv;replace hO:=hO.tl0 (t:=.nil) rfl;obtain⟨o16,hx,h⟩:=bind_some h;replace hO:=hO.cast (L':=[.tl .nil,.blk m3 (.obj o4),cb b2 [.sl (lst eAp8 ([])) .nil],cb b1 [.sl [] .nil]]) (by simp only[ob,cb,sr,←E8]<;>rfl);refine LD cf127 hE L8 (ι:=Unit) (enc:=fun(x:(List A0))=>[sr eAo9 x]) (fun(s11:(List (ByteArray×Bool))×(List (List A0))) F H=>∃g:D3×Obj,(L6 g.1∧Wr .string V.str V.bool g.2 s11.1)∧C2 Eq F [.tl g.1,.blk m3 (.obj g.2),cb b2 [.sl (lst eAp8 s11.2) g.1],cb b1 [.sl [] .nil]] H) (fun(r:((List (ByteArray×Bool))×(List (List A0)))) e F H=>∃g:D3×Obj,(e= .ret∧L6 g.1∧Wr .string V.str V.bool g.2 r.1)∧C2 Eq F [.tl g.1,.blk m3 (.obj g.2),cb b2 [.sl (lst eAp8 r.2) g.1],cb b1 [.sl [] .nil]] H) (fun i s11 y10=>[(4,.v (.eref [.eref (B5 aK) 0] 0)),(8,.v (.ref b1 0)),(9,.v (.ref b2 0)),(10,.v (.eref [.map m3] 0)),(12,.v (sr eAo9 y10))]) (fun i s11 y10 F H=>∃g:D3×Obj,(L6 g.1∧Wr .string V.str V.bool g.2 s11.1)∧C2 Eq F [.tl g.1,.blk m3 (.obj g.2),cb b2 [.sl (lst eAp8 s11.2) g.1],cb b1 [.sl [] .nil]] H) (fun _=>D9.ex fun _=>C2.stable F9 _) (fun _ _=>D9.ex fun _=>C2.stable F9 _) (fun _ _ _=>D9.ex fun _=>C2.stable F9 _) hv9 hx (⟨⟨.nil,o4⟩,⟨trivial,ho4⟩,hO⟩) (by decide) (fun _=>rfl) (by kernel_rfl) (by kernel_rfl) ?_ ?_ ?_ ?_
 ·rintro E i13 y10 s11 F12 H hE ⟨⟨t14,q15⟩,⟨ht14,hq15⟩,hO⟩;clear hx h;cbv;exact⟨(),⟨⟨t14,q15⟩,⟨ht14,hq15⟩,hO⟩,.e rfl (.e4 .z),rfl⟩
 ·rintro E i13 _ y10 s11 F12 H o hE hF h ⟨⟨t14,q15⟩,⟨ht14,hq15⟩,hO⟩;clear hx;cbv;refine A4 hE h (c160 N y10) (.refl _) fun r17 h=>?_;cbv;refine SV hE (kt:=9) (et:=4) (by kernel_rfl) (by kernel_rfl) Rf (false:Bool) (by kernel_rfl) rfl hO hq15 1 rfl h fun r18 h=>?_;cbv;refine A7 hE h (fun _ h=>?_) fun _ h=>?_
  ·cbv;cases h;exact⟨_,rfl,⟨⟨t14,q15⟩,⟨ht14,hq15⟩,hO⟩⟩
  cbv;refine SU hE (kt:=9) (et:=4) (by kernel_rfl) (by kernel_rfl) Rf Kt hO hq15 1 rfl h fun l20 o19 H ho19 h hO=>?_;cbv;refine B2 hE hO 2 rfl ?_;cbv;refine AT (f:=eAp8) hE GR (by decide) hO 0 rfl ht14 (l:=s11.2) (m:=[y10]) (.refl _) (.lstc (.eq (eAq8 y10) (.refl _)) (.lst0)) h fun l22 t21 H hO ht21 h=>?_;cbv;refine B0 hE hO 2 rfl rfl fun H hO=>?_;cbv;refine B2 hE hO 2 rfl ?_;cbv;refine D5 hE ?_;cbv;obtain⟨s23,hx,h⟩:=bind_some h;refine S8 cf127 hE L8 (fun e l H1=>e= .normal∧l=[(4,.v (.eref [.eref (B5 aK) 0] 0)),(8,.v (.ref b1 0))]∧C2 Eq F12 [.tl t21,.blk m3 (.obj o19),cb b2 [.sl (lst eAp8 l22) t21],cb b1 [.sl [] .nil]] H1) (by kernel_rfl) ?_ ?_
  ·clear h;have h:=hx;clear hx;cbv;refine A7 hE h (fun _ h=>?_) fun _ h=>?_
   ·cbv;cases h
   cbv;cases h;exact⟨_,⟨rfl,rfl,hO⟩,.e2 .z,rfl⟩
  clear hx;rintro e l H ⟨rfl,rfl,hO⟩;cbv;refine A7 hE h (fun _ h=>?_) fun _ h=>?_
  ·cbv;refine B0 hE hO 3 rfl rfl fun H hO=>?_;cbv;cases h;exact⟨_,rfl,rfl,⟨⟨t21,o19⟩,⟨rfl,⟨ht21,ho19⟩⟩,hO⟩⟩
  cbv;cases h;exact⟨_,rfl,⟨⟨t21,o19⟩,⟨ht21,ho19⟩,hO⟩⟩
 ·rintro d24 s28 H rfl hd ⟨⟨t29,q30⟩,⟨ht29,hq30⟩,hO⟩;have hO:C2 Eq H0 [.tl t29,.blk m3 (.obj q30),cb b2 [.sl (lst eAp8 s28.2) t29],cb b1 [.sl [] .nil],.blk d24 DB] H:=C2.dblk hd hO;clear hd;clear hx;cbv;refine B2 hE hO 2 rfl ?_;cbv;refine B0 hE hO 3 rfl rfl fun H hO=>?_;cbv;refine JE hE hO 4 rfl fun H hO=>?_;cbv;refine B2 hE hO 3 rfl ?_;cbv;cases h;exact hK hO (.ro _ _)
 rintro d24 y31 e H rfl hd hX;clear hx
 rcases hX with⟨⟨t32,q33⟩,⟨rfl,ht32,hq33⟩,hO⟩
 have hO:C2 Eq H0 [.tl t32,.blk m3 (.obj q33),cb b2 [.sl (lst eAp8 y31.2) t32],cb b1 [.sl [] .nil],.blk d24 DB] H:=C2.dblk hd hO;clear hd;cbv;refine JE hE hO 4 rfl fun H hO=>?_;cbv;refine B2 hE hO 3 rfl ?_;cbv;cases h;exact hK hO (.lit _ (E8))
theorem k191 (N n:Nat)(ih127:NC N n)(ih233:Ab4 N n)(ih234:Ak2 N n):Ak7 N (n+1):=by
 intro aK aA aO aG r h
 unfold L9 at h
 refine R4 cf191 L8 func191 (by rfl) (by kernel_rfl) call191 ntmps191 (by rfl) (by rfl) ?_;intro E H0 K hE hK;have hO:C2 Eq H0 [] H0:=.start F9 rfl;cbv;refine D5 hE ?_;cbv;refine A7 hE h (fun _ h=>?_) fun _ h=>?_
 ·cbv;refine B9 hE eAp3 h fun x1 h=>?_;cbv;refine A4 hE h (ih127 aK x1 aO aG) (.refl _) fun r2 h=>?_;cbv;refine HY hE h (c232 N r2) (.refl _) fun r3 v4 hv4 h=>?_;cbv;cases h;exact hK _ _ _ hO hv4
 cbv;refine C6 hE hO fun b5 H hO=>?_;cbv;refine B0 hE hO 0 rfl rfl fun H hO=>?_;cbv;refine Gg hE (f:=eAp4) GS h fun l6 t7 h=>?_;cbv;refine B0 hE hO 0 rfl rfl fun H hO=>?_;cbv;refine Ag7 hE hO 0 rfl (.cons (.refl _) (.cons (.ro _ _) (.refl _))) fun H hO=>?_;cbv;refine B9 hE eAp3 h fun x8 h=>?_;cbv;refine HY hE h (fun r9 hx=>ih233 aK x8 aO aG (.func (.func 234) [] [.eref [.eref (B5 aK) 0] 0,.eref [vi aA.Op,sr eAp4 l6,vi aA.Typ,vi aA.Var,vi aA.cT,vi aA.Span,vi aA.cR.Op,sr eAq3 aA.cR.cP,vi aA.cR.Var,vi aA.cR.Field,vi aA.cR.Kind,vi aA.cR.Value.Kind,vi aA.cR.Value.Num,.str aA.cR.Value.Text] 0]) (fun y1 y2=>J9 N n y1 y2 aK ({aA with cP:=l6})) (fun y1 y2 r hx=>B4.value (F:=[]) (C:=[.eref [.eref (B5 aK) 0] 0,.eref [vi aA.Op,sr eAp4 l6,vi aA.Typ,vi aA.Var,vi aA.cT,vi aA.Span,vi aA.cR.Op,sr eAq3 aA.cR.cP,vi aA.cR.Var,vi aA.cR.Field,vi aA.cR.Kind,vi aA.cR.Value.Kind,vi aA.cR.Value.Num,.str aA.cR.Value.Text] 0]) (ih234 y1 y2 aK ({aA with cP:=l6}) r hx)) ⟨rfl,rfl⟩ r9 hx) (.refl _) fun r9 v10 hv10 h=>?_;cbv;cases h;exact hK _ _ _ hO hv10
theorem k192 (N n:Nat)(ih235:Ak1 N n):Ak6 N (n+1):=by
 intro aK aA aO aG r h
 unfold M0 at h
 refine R4 cf0 L8 func192 (by rfl) (by kernel_rfl) call192 ntmps192 (by rfl) (by rfl) ?_;intro E H0 K hE hK;have hO:C2 Eq H0 [] H0:=.start F9 rfl;cbv;exact hK _ _ _ hO (V1 call235 (ih235 aA aK aO aG r h))
theorem k193 (N n:Nat)(ih236:Ak0 N n):Ak5 N (n+1):=by
 intro aK aA aO aG r h
 unfold M1 at h
 refine R4 cf0 L8 func193 (by rfl) (by kernel_rfl) call193 ntmps193 (by rfl) (by rfl) ?_;intro E H0 K hE hK;have hO:C2 Eq H0 [] H0:=.start F9 rfl;cbv;exact hK _ _ _ hO (V1 call236 (ih236 aA aK aO aG r h))
theorem k194 (N n:Nat)(ih238:Aj9 N n):Ak4 N (n+1):=by
 intro aK aA aO aG r h
 unfold K9 at h
 refine R4 cf0 L8 func194 (by rfl) (by kernel_rfl) call194 ntmps194 (by rfl) (by rfl) ?_;intro E H0 K hE hK;have hO:C2 Eq H0 [] H0:=.start F9 rfl;cbv;exact hK _ _ _ hO (V1 call238 (ih238 aK aA aO aG r h))
theorem k195 (N n:Nat)(ih240:Aj7 N n):Ak3 N (n+1):=by
 intro aK aA aO aG r h
 unfold E7 at h
 refine R4 cf0 L8 func195 (by rfl) (by kernel_rfl) call195 ntmps195 (by rfl) (by rfl) ?_;intro E H0 K hE hK;have hO:C2 Eq H0 [] H0:=.start F9 rfl;cbv;exact hK _ _ _ hO (V1 call240 (ih240 aK aA aO aG r h))
theorem k233 (N n:Nat)(ih268:Aj6 N n):Ab4 N (n+1):=by
 intro aK aA aO aG cB bX cK cL r h
 unfold K8 at h
 refine R4 cf233 L8 func233 (by rfl) (by kernel_rfl) call233 ntmps233 (by rfl) (by rfl) ?_;intro E H0 K hE hK;have hO:C2 Eq H0 [] H0:=.start F9 rfl;cbv;refine IP hE cL ?_;cbv;exact hK _ _ _ hO (V1 call268 (ih268 aK aA aO aG cB bX cK r h))
theorem k234 (N n:Nat)(ih127:NC N n):Ak2 N (n+1):=by
 intro aO aG aM aP r h
 unfold J9 at h
 refine I6 cf0 func234 call234 ntmps234 ?_;intro E H0 K hE hK hO;cbv;refine A4 hE h (ih127 aM aP aO aG) (.refl _) fun r1 h=>?_;cbv;cases h;exact hK hO (.refl _)
theorem k235 (N n:Nat) (ih127:NC N n):Ak1 N (n+1):=by
 intro aJ aM aP aS r h
 unfold Q4 at h
 obtain⟨⟨w0,u0⟩,h1,hr⟩:=bind_some h;clear h;have hr:=G4 hr;subst hr;have h:=h1;clear h1;refine N9 cf0 L8 func235 (by rfl) (by kernel_rfl) call235 ntmps235 (by rfl) (fun _=>rfl) ?_;intro yv I D hI hD hy tl F E H K hE hO hK hKD
 have hO:C2 (I (List.map (fun(x:(List A0))=>[sr eAo9 x]) (w0++[])++tl)) F [] H:=by rw[append_nil];exact hO
 cbv;refine D5 hE ?_;cbv;obtain⟨w2,w3,s6,hx,h1,he⟩:=Q6 h;clear h;have h:=h1;clear h1
 rw[he,append_assoc]at hO
 clear he;refine Ci cf0 hE L8 (γ:=Unit) (fun s1 g=>[(0,.v (yv)),(2,.v (.eref [.eref (B5 aM) 0] 0)),(3,.v (.eref [sr eAo9 aP] 0)),(4,.v (.eref [vi aS] 0)),(11,.v (sr eAp4 aJ.cP)),fi 12 (Ar.len aJ.cP),fi 13 s1]) (fun s1 g w H1=>C2 (I (List.map (fun(x:(List A0))=>[sr eAo9 x]) w++tl)) F [] H1) (fun x e l w H1=>e= .exit 0∧l=[]∧C2 (I (List.map (fun(x:(List A0))=>[sr eAo9 x]) w++tl)) F [] H1) (fun e l H1=>(e= .ret∧l=[]∧C2 D F [] H1)) (by kernel_rfl) ?_ (w':=w3++[]) () hx ?_ ?_ ?_ ?_
 ·rintro s1 _ w4 w5 H o hO h;clear hx
  skip
  cbv;refine A7 hE h (fun _ h=>?_) fun _ h=>?_
  ·cbv;refine B9 hE eAp3 h fun x7 h=>?_;cbv;refine A4 hE h (ih127 aM x7 aP aS) (.refl _) fun r8 h=>?_;cbv;refine D5 hE ?_;cbv;obtain⟨w10,w11,s14,hx,h1,he⟩:=Q6 h;clear h;have h:=h1;clear h1
   rw[he,append_assoc]at hO
   clear he;refine Ci cf0 hE L8 (γ:=Unit) (fun s9 g=>[(0,.v (yv)),(2,.v (.eref [.eref (B5 aM) 0] 0)),(3,.v (.eref [sr eAo9 aP] 0)),(4,.v (.eref [vi aS] 0)),(11,.v (sr eAp4 aJ.cP)),fi 12 (Ar.len aJ.cP),fi 13 s1,(21,.v (sr eAp8 r8)),fi 22 (Ar.len r8),fi 23 s9]) (fun s9 g w H1=>C2 (I (List.map (fun(x:(List A0))=>[sr eAo9 x]) w++tl)) F [] H1) (fun x e l w H1=>e= .exit 2∧l=[(0,.v (yv)),(2,.v (.eref [.eref (B5 aM) 0] 0)),(3,.v (.eref [sr eAo9 aP] 0)),(4,.v (.eref [vi aS] 0)),(11,.v (sr eAp4 aJ.cP)),fi 12 (Ar.len aJ.cP),fi 13 s1]∧C2 (I (List.map (fun(x:(List A0))=>[sr eAo9 x]) w++tl)) F [] H1) (fun e l H1=>(e= .ret∧l=[]∧C2 D F [] H1)) (by kernel_rfl) ?_ (w':=w11++w5) () hx ?_ ?_ ?_ ?_
   ·rintro s9 _ w12 w13 H o hO h;clear hx
    skip
    cbv;refine A7 hE h (fun _ h=>?_) fun _ h=>?_
    ·cbv;refine B9 hE eAq8 h fun x15 h=>?_;cbv;obtain⟨w16,h1,he⟩:=V3 h;clear h;have h:=h1;clear h1
     rw[he,append_assoc]at hO
     clear he;have hO:C2 (I ([sr eAo9 x15]::(List.map (fun(x:(List A0))=>[sr eAo9 x]) (w16++w13)++tl))) F [] _:=hO;refine DJ hE hI hD hy hO (.refl _) (fun H hO=>?_) (fun H hO=>?_)
     ·cbv;refine Il hE (nt_eq _) ?_;cbv;obtain⟨hw,rfl⟩:=D2 h
      rw[←hw]at hO
      exact⟨_,(),rfl,.e2 (.e4 (.e4 .z)),rfl,hO⟩
     clear h;cbv;refine Ik hE (nt_eq _) ?_;cbv;exact .inr ⟨_,⟨rfl,rfl,hO⟩,.z,rfl⟩
    cbv;obtain⟨hw,rfl⟩:=D2 h
    rw[←hw]at hO
    exact .inl ⟨_,_,rfl,⟨rfl,rfl,hO⟩,.e rfl (.e2 (.e4 .z)),rfl⟩
   ·exact .e2 (.e4 (.e4 .z))
   ·exact hO
   ·rintro e l H ⟨rfl,rfl,hO⟩;clear hx;cbv;obtain⟨hw,rfl⟩:=D2 h
    rw[←hw]at hO
    exact⟨_,(),rfl,.e rfl (.e2 (.e4 .z)),rfl,hO⟩
   rintro e l H hX;obtain⟨rfl,rfl,hO⟩:=hX;clear h;cbv;exact .inr ⟨_,⟨rfl,rfl,hO⟩,.z,rfl⟩
  cbv;obtain⟨hw,rfl⟩:=D2 h
  rw[←hw]at hO
  exact .inl ⟨_,_,rfl,⟨rfl,rfl,hO⟩,.z,rfl⟩
 ·exact .e rfl (.e2 (.e4 .z))
 ·exact hO
 ·rintro e l H ⟨rfl,rfl,hO⟩;clear hx;cbv;obtain⟨hw,_⟩:=D2 h
  rw[←hw]at hO
  exact hK _ _ _ hO trivial
 rintro e l H hX;obtain⟨rfl,rfl,hO⟩:=hX;clear h;cbv;exact hKD _ _ _ hO trivial
end Go.Ab
