/- GTCo2 GTCo3 -/
import Derived.Test.YtanbgjgaafeplaaGreatDoorI12
set_option linter.all false
open List (append_assoc append_nil)
open Go.Ab.Ar (an lst nt_eq wr)
namespace Go.Ab
open Go.RowKit Go.Proofs Go.Proofs.Tryz H6
variable [Ar][H6]
set_option maxRecDepth 100000
def cf141 :Cf:=⟨[],[(1,9)],[],[],[],[]⟩
theorem c141 (N aI aN r)(h:W9 N aI aN=some r):B3 prog 141 [(DK aI),(DK aN)] (vi r):=by
 unfold W9 at h
 refine I8 cf141 func141 call141 ntmps141 ?_;intro E H0 K hE hK hO;cbv;refine D5 hE (g:=fun r1=>vi r1) h (c139 N aI.Ref aN.Ref) (.refl _) fun r1 h=>?_;cbv;refine A4 hE h (c143 N aI.Var aN.Var) (.refl _) fun r2 h=>?_;cbv;refine A4 hE h (c142 N ([r1,r2])) (.cons (.lit _ (D6 (rfl) (D6 (rfl) (C2)))) (.refl _)) fun r3 h=>?_;cbv;cases h;exact hK hO (.refl _)
theorem c102 (N aC aD r)(h:Au N aC aD=some r):B3 prog 102 [(BE aC),(BE aD)] (vi r):=by
 unfold Au at h
 refine I8 cf0 func102 call102 ntmps102 ?_;intro E H0 K hE hK hO;cbv;refine A4 hE (g:=fun r1=>vi r1) h (fun r1 hx=>c140 N aC.cQ aD.cQ (.func (.func 141) [] []) (fun y1 y2=>W9 N y1 y2) (fun y1 y2 r hx=>B3.value (F:=[]) (C:=[]) (c141 N y1 y2 r hx)) r1 hx) (.refl _) fun r1 h=>?_;cbv;cases h;exact hK hO (.refl _)
theorem c156 (N aB r)(h:CQ N aB=some r):B3 prog 156 [(BF aB)] (.bool r):=by
 unfold CQ at h
 refine I8 cf0 func156 call156 ntmps156 ?_;intro E H0 K hE hK hO;cbv;cases h;exact hK hO (.refl _)
def cf157 :Cf:=⟨[],[(1,3),(3,14)],[],[],[],[]⟩
theorem c157 (N aC aD r)(h:BA N aC aD=some r):B3 prog 157 [(BF aC),(BF aD)] (vi r):=by
 unfold BA at h
 refine I8 cf157 func157 call157 ntmps157 ?_;intro E H0 K hE hK hO;cbv;refine D5 hE (g:=fun r1=>(IW r1)) h (c96 N aC) (.refl _) fun r1 h=>?_;cbv;refine A4 hE h (c96 N aD) (.refl _) fun r2 h=>?_;cbv;refine A8 hE h (fun _ h=>?_) fun _ h=>?_
 ·cbv;cases h;exact hK hO (.refl _)
 cbv;refine D5 hE (g:=fun r3=>vi r3) h (c143 N aC.Time aD.Time) (.refl _) fun r3 h=>?_;cbv;refine D5 hE (g:=fun r4=>vi r4) h (c143 N aC.Source aD.Source) (.refl _) fun r4 h=>?_;cbv;refine A4 hE h (c143 N aC.Seq aD.Seq) (.refl _) fun r5 h=>?_;cbv;refine A4 hE h (c142 N ([r3,r4,r5])) (.cons (.lit _ (D6 (rfl) (D6 (rfl) (D6 (rfl) (C2))))) (.refl _)) fun r6 h=>?_;cbv;cases h;exact hK hO (.refl _)
def cf158 :Cf:=⟨[2],[],[],[],[],[]⟩
theorem c158 (N aB r)(h:CA N aB=some r):B3 prog 158 [(BF aB)] ((IV r)):=by
 unfold CA at h
 refine I8 cf158 func158 call158 ntmps158 ?_;intro E H0 K hE hK hO;cbv;refine C3 hE hO fun b1 H hO=>?_;cbv;refine A9 hE hO 0 rfl rfl fun H hO=>?_;cbv;refine B1 hE hO 0 rfl ?_;cbv;cases h;exact hK hO (.refl _)
def cf126 :Cf:=⟨[5],[(9,9)],[],[],[],[]⟩
theorem c126 (N aF r) (h:BX N aF=some r):B3 prog 126 [sr eAr6 aF] (vi r):=by
 unfold BX at h
 refine I8 cf126 func126 call126 ntmps126 ?_;intro E H0 K hE hK hO;cbv;refine D4 hE ?_;cbv;refine A8 hE h (fun _ h=>?_) fun _ h=>?_
 ·cbv;cases h;exact hK hO (.refl _)
 cbv;refine Ae9 hE Rt eAs9 V.bool hO fun m1 o2 H ho2 hO=>?_;cbv;refine D4 hE ?_;cbv;obtain⟨s5,hx,h⟩:=bind_some h;refine W3 cf126 hE M4 (γ:=Obj) (fun s3 g=>[(0,.v (sr eAr6 aF)),(3,.v (.map m1)),(10,.v (sr eAr6 aF)),fi 11 (Ar.len aF),fi 12 s3.1]) (fun s3 g H1=>WD Rt eAs9 V.bool g s3.2∧B8 Eq H0 [.blk m1 (.obj g)] H1) (fun x e l H1=>match(generalizing:=false) x with| .inl y=>∃u1:Obj,WD Rt eAs9 V.bool u1 y∧e= .exit 0∧l=[]∧B8 Eq H0 [.blk m1 (.obj u1)] H1| .inr y=>∃u1:Obj,WD Rt eAs9 V.bool u1 y.2∧e= .ret∧l=[fi 2 y.1]∧B8 Eq H0 [.blk m1 (.obj u1)] H1) (by kernel_rfl) ?_ o2 hx ?_ ?_ ?_
 ·rintro s3 q4 H o ⟨hq4,hO⟩ h;clear hx;cbv;refine A8 hE h (fun _ h=>?_) fun _ h=>?_
  ·cbv;refine B9 hE eAs0 h fun x6 h=>?_;cbv;refine C3 hE hO fun b7 H hO=>?_;cbv;refine A9 hE hO 0 rfl rfl fun H hO=>?_;cbv;refine B1 hE hO 0 rfl ?_;cbv;refine A4 hE h (c156 N x6) (.refl _) fun r8 h=>?_;cbv;refine A8 hE h (fun _ h=>?_) fun _ h=>?_
   ·cbv;cases h;exact⟨_,_,rfl,⟨q4,hq4,rfl,rfl,hO.tail⟩,.e rfl .z,rfl⟩
   cbv;refine A8 hE h (fun _ h=>?_) fun _ h=>?_
   ·cbv;refine B9 hE eAs0 h fun x9 h=>?_;cbv;refine B1 hE hO 0 rfl ?_;cbv;refine A4 hE h (c157 N x9 x6) (.refl _) fun r10 h=>?_;cbv;refine A8 hE h (fun _ h=>?_) fun _ h=>?_
    ·cbv;cases h;exact⟨_,_,rfl,⟨q4,hq4,rfl,rfl,hO.tail⟩,.e rfl .z,rfl⟩
    cbv;refine B1 hE hO 0 rfl ?_;cbv;refine A4 hE h (c158 N x6) (.refl _) fun r11 h=>?_;cbv;refine XP (eAt1 r11) ?_;refine Tf hE (kt:=212) (et:=4) (by kernel_rfl) (by kernel_rfl) Uw (false:Bool) (by kernel_rfl) rfl hO hq4 1 rfl h fun r12 h=>?_;cbv;refine A8 hE h (fun _ h=>?_) fun _ h=>?_
    ·cbv;cases h;exact⟨_,_,rfl,⟨q4,hq4,rfl,rfl,hO.tail⟩,.e rfl .z,rfl⟩
    cbv;refine B1 hE hO 0 rfl ?_;cbv;refine A4 hE h (c158 N x6) (.refl _) fun r13 h=>?_;cbv;refine Uu (eAt1 r13) ?_;refine Te hE (kt:=212) (et:=4) (by kernel_rfl) (by kernel_rfl) Uw Kd hO hq4 1 rfl h fun l15 o14 H ho14 h hO=>?_;cbv;cases h;exact⟨_,o14,rfl,.e rfl (.e4 .z),rfl,ho14,hO.tail⟩
   cbv;refine B1 hE hO 0 rfl ?_;cbv;refine A4 hE h (c158 N x6) (.refl _) fun r16 h=>?_;cbv;refine XP (eAt1 r16) ?_;refine Tf hE (kt:=212) (et:=4) (by kernel_rfl) (by kernel_rfl) Uw (false:Bool) (by kernel_rfl) rfl hO hq4 1 rfl h fun r17 h=>?_;cbv;refine A8 hE h (fun _ h=>?_) fun _ h=>?_
   ·cbv;cases h;exact⟨_,_,rfl,⟨q4,hq4,rfl,rfl,hO.tail⟩,.e rfl .z,rfl⟩
   cbv;refine B1 hE hO 0 rfl ?_;cbv;refine A4 hE h (c158 N x6) (.refl _) fun r18 h=>?_;cbv;refine Uu (eAt1 r18) ?_;refine Te hE (kt:=212) (et:=4) (by kernel_rfl) (by kernel_rfl) Uw Kd hO hq4 1 rfl h fun l20 o19 H ho19 h hO=>?_;cbv;cases h;exact⟨_,o19,rfl,.e rfl (.e4 .z),rfl,ho19,hO.tail⟩
  cbv;cases h;exact⟨_,_,rfl,⟨q4,hq4,rfl,rfl,hO⟩,.z,rfl⟩
 ·exact .e rfl (.e4 .z)
 ·exact⟨ho2,hO⟩
 clear hx
 rcases s5 with y21|y23
 ·rintro e l H ⟨q22,hq22,rfl,rfl,hO⟩;cbv;cases h;exact hK hO (.refl _)
 rintro e l H ⟨q24,hq24,rfl,rfl,hO⟩;cbv;cases h;exact hK hO (.refl _)
def cf159 :Cf:=⟨[0],[],[],[],[],[]⟩
theorem c159 (N r)(h:Ay N=some r):B3 prog 159 [] (.agg [.func (.func 190) [] [],.func (.func 191) [] [],.func (.func 192) [] [],.func (.func 193) [] [],.func (.func 194) [] [],.func (.func 195) [] [],.func (.func 195) [] [],.func (.func 195) [] []]):=by
 unfold Ay at h
 refine I8 cf159 func159 call159 ntmps159 ?_;intro E H0 K hE hK hO;cbv;refine C3 hE hO fun b1 H hO=>?_;cbv;refine A9 hE hO 0 rfl rfl fun H hO=>?_;cbv;refine B1 hE hO 0 rfl ?_;cbv;cases h;exact hK hO (.refl _)
theorem c291 (N aX r)(h:EQ N aX=some r):B3 prog 291 [vi aX] (.str r):=RO Go.Proofs.Tryz.laysNm283 call291 h
theorem c273 (N bB aX aZ r) (h:V6 N bB aX aZ=some r):PS prog 273 [.int .u64 aX,vi aZ] 1 (lst (V.int .u8) bB) (lst (V.int .u8) r):=by
 unfold V6 at h
 intro H0 q0 hq0 hk0;refine Ko (T:=TT) (F:=upd H0 q0.id none) cf0 M4 func273 (by rfl) (by kernel_rfl) call273 ntmps273 (by rfl) (by rfl) ?_;intro E K hE hK hN;have hO:B8 Eq (upd H0 q0.id none) [ob q0 1 (V.int .u8) bB] H0:=B8.startO hk0;have hq0:Cr q0 (Ar.len bB):=Jh hq0;cbv;refine A8 hE h (fun _ h=>?_) fun _ h=>?_
 ·cbv;refine A8 hE h (fun _ h=>?_) fun _ h=>?_
  ·cbv;refine A4 hE h (c291 N (wr .i64 aX)) (.refl _) fun r1 h=>?_;cbv;refine ZQ hE (by decide) hO hq0 0 rfl h fun l3 q2 H hq2 hO h=>?_;cbv;cases h;exact hK q2 _ _ (Jg hE hq2) (hO)
  cbv;cases h
 cbv;cases h
theorem c242 (N bB aX aZ r)(h:Y4 N bB aX aZ=some r):PS prog 242 [vi aX,vi aZ] 1 (lst (V.int .u8) bB) (lst (V.int .u8) r):=by
 unfold Y4 at h
 intro H0 q0 hq0 hk0;refine Ko (T:=TT) (F:=upd H0 q0.id none) cf0 M4 func242 (by rfl) (by kernel_rfl) call242 ntmps242 (by rfl) (by rfl) ?_;intro E K hE hK hN;have hO:B8 Eq (upd H0 q0.id none) [ob q0 1 (V.int .u8) bB] H0:=B8.startO hk0;have hq0:Cr q0 (Ar.len bB):=Jh hq0;cbv;refine A8 hE h (fun _ h=>?_) fun _ h=>?_
 ·cbv;refine Ix (f:=(V.int .u8)) hE (fun _=>rfl) (by decide) hO hq0 0 rfl (m:=[45]) (Ik (f:=(V.int .u8)) hE (fun _=>rfl) (.lstc (.refl _) (.lst0))) h fun l2 q1 H hq1 hO h=>?_;cbv;refine GW hE (f:=(V.int .u8)) hO hq1 0 rfl h (c273 N l2 (Ar.neg .u64 (wr .u64 aX)) aZ) (.refl _) fun l3 q4 H hq4 hO h=>?_;cbv;cases h;exact hK q4 _ _ (Jg hE hq4) (hO)
 cbv;refine GW hE (f:=(V.int .u8)) hO hq0 0 rfl h (c273 N bB (wr .u64 aX) aZ) (.refl _) fun l5 q6 H hq6 hO h=>?_;cbv;cases h;exact hK q6 _ _ (Jg hE hq6) (hO)
theorem c196 (N bB aX aZ r)(h:G1 N bB aX aZ=some r):PS prog 196 [vi aX,vi aZ] 1 (lst (V.int .u8) bB) (lst (V.int .u8) r):=by
 unfold G1 at h
 intro H0 q0 hq0 hk0;refine Ko (T:=TT) (F:=upd H0 q0.id none) cf0 M4 func196 (by rfl) (by kernel_rfl) call196 ntmps196 (by rfl) (by rfl) ?_;intro E K hE hK hN;have hO:B8 Eq (upd H0 q0.id none) [ob q0 1 (V.int .u8) bB] H0:=B8.startO hk0;have hq0:Cr q0 (Ar.len bB):=Jh hq0;cbv;refine GW hE (f:=(V.int .u8)) hO hq0 0 rfl h (c242 N bB aX aZ) (.refl _) fun l1 q2 H hq2 hO h=>?_;cbv;cases h;exact hK q2 _ _ (Jg hE hq2) (hO)
def cf160 :Cf:=⟨[6000003],[(3000006,0),(3000006,3),(3000006,4),(3000006,8)],[],[2000006],[],[]⟩
set_option maxHeartbeats 2000000 in
theorem c160 (N aG r) (h:M1 N aG=some r):B3 prog 160 [sr eAr2 aG] (.str r):=by
 unfold M1 at h
 refine I8 cf160 func160 call160 ntmps160 ?_;intro E H0 K hE hK hO;cbv;refine XN hE (f:=(V.int .u8)) hO fun q1 H hq1 hO=>?_;cbv;refine D4 hE ?_;cbv;obtain⟨s4,hx,h⟩:=bind_some h;refine W3 cf160 hE M4 (γ:=OG) (fun s2 g=>[(3,.v (.own g.id g.lo g.n)),(6,.v (sr eAr2 aG)),fi 7 (Ar.len aG),fi 8 s2.1]) (fun s2 g H1=>Cr g (Ar.len s2.2)∧B8 Eq H0 [ob g 1 (V.int .u8) s2.2] H1) (fun x e l H1=>∃u1:OG,Cr u1 (Ar.len x)∧e= .exit 0∧l=[(3,.v (.own u1.id u1.lo u1.n))]∧B8 Eq H0 [ob u1 1 (V.int .u8) x] H1) (by kernel_rfl) ?_ q1 hx ?_ ?_ ?_
 ·rintro s2 q3 H o ⟨hq3,hO⟩ h;clear hx;cbv;refine A8 hE h (fun _ h=>?_) fun _ h=>?_
  ·cbv;refine B9 hE eAs6 h fun x5 h=>?_;cbv;refine GW hE (f:=(V.int .u8)) hO hq3 0 rfl h (c196 N s2.2 x5.cT 10) (.refl _) fun l6 q7 H hq7 hO h=>?_;cbv;obtain⟨s8,hx,h⟩:=bind_some h;refine U4 cf160 hE M4 (fun e l H1=>∃u1:OG,Cr u1 (Ar.len s8)∧e= .normal∧l=[(3,.v (.own u1.id u1.lo u1.n)),(6,.v (sr eAr2 aG)),fi 7 (Ar.len aG),fi 8 s2.1]∧B8 Eq H0 [ob u1 1 (V.int .u8) s8] H1) (by kernel_rfl) ?_ ?_
   ·clear h;have h:=hx;clear hx;cbv
    repeat' first|refine And.intro ?_ ?_|(refine Ix (f:=(V.int .u8)) hE (fun _=>rfl) (by decide) hO hq7 0 rfl (m:=[64]) (Ik (f:=(V.int .u8)) hE (fun _=>rfl) (.lstc (.refl _) (.lst0))) h fun l90 q89 H hq89 hO h=>?_;cbv)|(refine GW hE (f:=(V.int .u8)) hO hq89 0 rfl h (c196 N l90 x5.at_ 10) (.refl _) fun l209 q210 H hq210 hO h=>?_;cbv)|(refine Ix (f:=(V.int .u8)) hE (fun _=>rfl) (by decide) hO hq210 0 rfl (m:=[32]) (Ik (f:=(V.int .u8)) hE (fun _=>rfl) (.lstc (.refl _) (.lst0))) h fun l290 q289 H hq289 hO h=>?_;cbv)|(have h:=AL h;subst h;exact⟨_,⟨q289,hq289,rfl,rfl,hO⟩,.e4 .z,rfl⟩)
   clear hx;rintro e l H ⟨q409,hq409,rfl,rfl,hO⟩;cbv;cases h;exact⟨_,q409,rfl,.e4 .z,rfl,hq409,hO⟩
  cbv;cases h;exact⟨_,_,rfl,⟨q3,hq3,rfl,rfl,hO⟩,.e rfl .z,rfl⟩
 ·exact .e4 .z
 ·exact⟨hq1,hO⟩
 clear hx;rintro e l H ⟨q410,hq410,rfl,rfl,hO⟩;cbv;refine Ai1 (e:=5) hE (by kernel_rfl) (by kernel_rfl) (by kernel_rfl) hO hq410 0 rfl h fun r411 h=>?_;cbv;cases h;exact hK hO (.refl _)
def cf307 :Cf:=⟨[2],[],[],[],[],[]⟩
theorem c307 (N aW r)(h:O9 N aW=some r):B3 prog 307 [vi aW] ((D3 r)):=by
 unfold O9 at h
 refine I8 cf307 func307 call307 ntmps307 ?_;intro E H0 K hE hK hO;cbv;refine C3 hE hO fun b1 H hO=>?_;cbv;refine A9 hE hO 0 rfl rfl fun H hO=>?_;cbv;refine B1 hE hO 0 rfl ?_;cbv;cases h;exact hK hO (.refl _)
def cf308 :Cf:=⟨[5],[],[],[],[],[]⟩
theorem c308 (N:Nat)(aC:Int)(aD:Int)(bZ:V)(aL:Int→Option A5)(cF:∀y1 q,aL y1=some q→Q7 prog bZ [vi y1] ((D3 q)))(r:A5)(h:AF N aC aD aL=some r):B3 prog 308 [vi aC,vi aD,.eref [bZ] 0] ((D3 r)):=by
 unfold AF at h
 refine I8 cf308 func308 call308 ntmps308 ?_;intro E H0 K hE hK hO;cbv;refine C3 hE hO fun b1 H hO=>?_;cbv;refine Y5 hE (g:=fun r2=>(D3 r2)) h (fun r2 hx=>cF (Ar.ar .add .i64 aC aD) r2 hx) (.refl _) fun r2 h=>?_;cbv;refine A9 hE hO 0 rfl rfl fun H hO=>?_;cbv;refine B1 hE hO 0 rfl ?_;cbv;cases h;exact hK hO (.refl _)
def cf309 :Cf:=⟨[5],[],[],[],[],[]⟩
theorem c309 (N:Nat)(aC:Int)(aD:Int)(bZ:V)(aL:Int→Option A5)(cF:∀y1 q,aL y1=some q→Q7 prog bZ [vi y1] ((D3 q)))(r:A5)(h:AE N aC aD aL=some r):B3 prog 309 [vi aC,vi aD,.eref [bZ] 0] ((D3 r)):=by
 unfold AE at h
 refine I8 cf309 func309 call309 ntmps309 ?_;intro E H0 K hE hK hO;cbv;refine C3 hE hO fun b1 H hO=>?_;cbv;refine Y5 hE (g:=fun r2=>(D3 r2)) h (fun r2 hx=>cF (Ar.ar .sub .i64 aC aD) r2 hx) (.refl _) fun r2 h=>?_;cbv;refine A9 hE hO 0 rfl rfl fun H hO=>?_;cbv;refine B1 hE hO 0 rfl ?_;cbv;cases h;exact hK hO (.refl _)
def cf299 :Cf:=⟨[2,3],[],[],[],[],[]⟩
theorem c299 (N aD r)(h:FB N aD=some r):B3 prog 299 [.bool aD] ((D3 r)):=by
 unfold FB at h
 refine I8 cf299 func299 call299 ntmps299 ?_;intro E H0 K hE hK hO;cbv;refine C3 hE hO fun b1 H hO=>?_;cbv;refine C3 hE hO fun b2 H hO=>?_;cbv;refine A9 hE hO 0 rfl rfl fun H hO=>?_;cbv;refine A8 hE h (fun _ h=>?_) fun _ h=>?_
 ·cbv;refine A9 hE hO 0 rfl rfl fun H hO=>?_;cbv;refine B1 hE hO 0 rfl ?_;cbv;refine A9 hE hO 1 rfl rfl fun H hO=>?_;cbv;refine B1 hE hO 1 rfl ?_;cbv;cases h;exact hK hO (.refl _)
 cbv;refine B1 hE hO 0 rfl ?_;cbv;refine A9 hE hO 1 rfl rfl fun H hO=>?_;cbv;refine B1 hE hO 1 rfl ?_;cbv;cases h;exact hK hO (.refl _)
def cf285 :Cf:=⟨[2],[],[],[],[],[]⟩
theorem c285 (N aD r)(h:Z2 N aD=some r):B3 prog 285 [.bool aD] ((D3 r)):=by
 unfold Z2 at h
 refine I8 cf285 func285 call285 ntmps285 ?_;intro E H0 K hE hK hO;cbv;refine C3 hE hO fun b1 H hO=>?_;cbv;refine A4 hE h (c299 N aD) (.refl _) fun r2 h=>?_;cbv;refine A9 hE hO 0 rfl rfl fun H hO=>?_;cbv;refine B1 hE hO 0 rfl ?_;cbv;cases h;exact hK hO (.refl _)
def cf310 :Cf:=⟨[4],[],[],[],[],[]⟩
theorem c310 (N aC aD r)(h:AD N aC aD=some r):B3 prog 310 [vi aC,vi aD] ((D3 r)):=by
 unfold AD at h
 refine I8 cf310 func310 call310 ntmps310 ?_;intro E H0 K hE hK hO;cbv;refine C3 hE hO fun b1 H hO=>?_;cbv;refine A4 hE h (c285 N (Ar.cmp .lss aC aD)) (.refl _) fun r2 h=>?_;cbv;refine A9 hE hO 0 rfl rfl fun H hO=>?_;cbv;refine B1 hE hO 0 rfl ?_;cbv;cases h;exact hK hO (.refl _)
def cf311 :Cf:=⟨[4],[],[],[],[],[]⟩
theorem c311 (N aC aD r)(h:AC N aC aD=some r):B3 prog 311 [vi aC,vi aD] ((D3 r)):=by
 unfold AC at h
 refine I8 cf311 func311 call311 ntmps311 ?_;intro E H0 K hE hK hO;cbv;refine C3 hE hO fun b1 H hO=>?_;cbv;refine A4 hE h (c285 N (Ar.cmp .leq aC aD)) (.refl _) fun r2 h=>?_;cbv;refine A9 hE hO 0 rfl rfl fun H hO=>?_;cbv;refine B1 hE hO 0 rfl ?_;cbv;cases h;exact hK hO (.refl _)
def cf312 :Cf:=⟨[4],[],[],[],[],[]⟩
theorem c312 (N aC aD r)(h:AB N aC aD=some r):B3 prog 312 [vi aC,vi aD] ((D3 r)):=by
 unfold AB at h
 refine I8 cf312 func312 call312 ntmps312 ?_;intro E H0 K hE hK hO;cbv;refine C3 hE hO fun b1 H hO=>?_;cbv;refine A4 hE h (c285 N (an (Ar.cmp .eql aC 1) (Ar.cmp .eql aD 1))) (.refl _) fun r2 h=>?_;cbv;refine A9 hE hO 0 rfl rfl fun H hO=>?_;cbv;refine B1 hE hO 0 rfl ?_;cbv;cases h;exact hK hO (.refl _)
def cf313 :Cf:=⟨[4],[],[],[],[],[]⟩
theorem c313 (N aC aD r)(h:AA N aC aD=some r):B3 prog 313 [vi aC,vi aD] ((D3 r)):=by
 unfold AA at h
 refine I8 cf313 func313 call313 ntmps313 ?_;intro E H0 K hE hK hO;cbv;refine C3 hE hO fun b1 H hO=>?_;cbv;refine A4 hE h (c285 N (Ar.or (Ar.cmp .eql aC 1) (Ar.cmp .eql aD 1))) (.refl _) fun r2 h=>?_;cbv;refine A9 hE hO 0 rfl rfl fun H hO=>?_;cbv;refine B1 hE hO 0 rfl ?_;cbv;cases h;exact hK hO (.refl _)
def cf314 :Cf:=⟨[4],[],[],[],[],[]⟩
theorem c314 (N aC aH r)(h:Az N aC aH=some r):B3 prog 314 [vi aC,vi aH] ((D3 r)):=by
 unfold Az at h
 refine I8 cf314 func314 call314 ntmps314 ?_;intro E H0 K hE hK hO;cbv;refine C3 hE hO fun b1 H hO=>?_;cbv;refine A4 hE h (c285 N (Ar.cmp .neq aC 1)) (.refl _) fun r2 h=>?_;cbv;refine A9 hE hO 0 rfl rfl fun H hO=>?_;cbv;refine B1 hE hO 0 rfl ?_;cbv;cases h;exact hK hO (.refl _)
theorem c297 (N r)(h:Gk N=some r):TQ prog 297 [] Yx Yw:=by
 unfold Gk at h
 refine TK (T:=TT) cf0 M4 func297 (by rfl) (by kernel_rfl) call297 ntmps297 (by rfl) (by rfl) ?_;intro E H0 K hE hK;have hO:B8 Eq H0 [] H0:=.start H5 rfl;cbv;refine Ao6 hE hO fun m1 H hO=>?_;cbv;refine Iy hE (kt:=3) (et:=338) (by kernel_rfl) (by kernel_rfl) hO 0 rfl rfl fun H hO=>?_;cbv;refine Iy hE (kt:=3) (et:=338) (by kernel_rfl) (by kernel_rfl) hO 0 rfl rfl fun H hO=>?_;cbv;refine Iy hE (kt:=3) (et:=338) (by kernel_rfl) (by kernel_rfl) hO 0 rfl rfl fun H hO=>?_;cbv;refine Iy hE (kt:=3) (et:=338) (by kernel_rfl) (by kernel_rfl) hO 0 rfl rfl fun H hO=>?_;cbv;refine Iy hE (kt:=3) (et:=338) (by kernel_rfl) (by kernel_rfl) hO 0 rfl rfl fun H hO=>?_;cbv;refine Iy hE (kt:=3) (et:=338) (by kernel_rfl) (by kernel_rfl) hO 0 rfl rfl fun H hO=>?_;cbv;refine Iy hE (kt:=3) (et:=338) (by kernel_rfl) (by kernel_rfl) hO 0 rfl rfl fun H hO=>?_;cbv;exact hK _ _ 0 _ rfl hO
theorem c327 (N aI aJ r)(h:M5 N aI aJ=some r):B3 prog 327 [(AW aI),vi aJ] (sr eAr6 r):=by
 unfold M5 at h
 refine I8 cf0 func327 call327 ntmps327 ?_;intro E H0 K hE hK hO;cbv;refine D4 hE ?_;cbv;refine A8 hE h (fun _ h=>?_) fun _ h=>?_
 ·cbv;cases h;exact hK hO (.lit _ (C2))
 cbv;refine B9 hE eAt5 h fun x1 h=>?_;cbv;cases h;exact hK hO (.refl _)
def cf329 :Cf:=⟨[4],[],[],[],[],[]⟩
theorem c329 (N aB bJ r)(h:Ah N aB bJ=some r):B3 prog 329 [(BF aB),vi bJ] (.tup [(D3 r.1),vi r.2]):=by
 unfold Ah at h
 refine I8 cf329 func329 call329 ntmps329 ?_;intro E H0 K hE hK hO;cbv;refine C3 hE hO fun b1 H hO=>?_;cbv;refine D4 hE ?_;cbv;refine A8 hE h (fun _ h=>?_) fun _ h=>?_
 ·cbv;refine A9 hE hO 0 rfl rfl fun H hO=>?_;cbv;refine B1 hE hO 0 rfl ?_;cbv;cases h;exact hK hO (.refl _)
 cbv;refine B9 hE eAr9 h fun x2 h=>?_;cbv;refine A9 hE hO 0 rfl rfl fun H hO=>?_;cbv;refine B1 hE hO 0 rfl ?_;cbv;cases h;exact hK hO (.refl _)
theorem c335 (N aR r)(h:X0 N aR=some r):B3 prog 335 [vi aR] (.bool r):=by
 unfold X0 at h
 refine I8 cf0 func335 call335 ntmps335 ?_;intro E H0 K hE hK hO;cbv;cases h;exact hK hO (.refl _)
theorem c342 (N aR aJ r)(h:T3 N aR aJ=some r):B3 prog 342 [vi aR,(D3 aJ)] (.bool r):=by
 unfold T3 at h
 refine I8 cf0 func342 call342 ntmps342 ?_;intro E H0 K hE hK hO;cbv;cases h;exact hK hO (.refl _)
theorem c336 (N aR aJ r)(h:M8 N aR aJ=some r):B3 prog 336 [vi aR,(D3 aJ)] (vi r):=by
 unfold M8 at h
 refine I8 cf0 func336 call336 ntmps336 ?_;intro E H0 K hE hK hO;cbv;refine A4 hE h (c275 N aJ) (.refl _) fun r1 h=>?_;cbv;refine A8 hE h (fun _ h=>?_) fun _ h=>?_
 ·cbv;cases h;exact hK hO (.refl _)
 cbv;refine A4 hE h (c342 N aR aJ) (.refl _) fun r2 h=>?_;cbv;refine A8 hE h (fun _ h=>?_) fun _ h=>?_
 ·cbv;cases h;exact hK hO (.refl _)
 cbv;cases h;exact hK hO (.refl _)
def cf337 :Cf:=⟨[3,6],[],[],[],[],[]⟩
theorem c337 (N:Nat) (cB:C8) (aF:List A5) (cH:V) (cC:C8→A5→Option C8) (cN:∀y1 y2 q,cC y1 y2=some q→Q7 prog cH [(J4 y1),(D3 y2)] ((J4 q))) (r:C8) (h:G2 N cB aF cC=some r):B3 prog 337 [(J4 cB),sr eAs2 aF,cH] ((J4 r)):=by
 unfold G2 at h
 refine I8 cf337 func337 call337 ntmps337 ?_;intro E H0 K hE hK hO;cbv;refine C3 hE hO fun b1 H hO=>?_;cbv;refine C3 hE hO fun b2 H hO=>?_;cbv;refine D4 hE ?_;cbv;obtain⟨s4,hx,h⟩:=bind_some h;refine E3 cf337 hE M4 (fun s3=>[(2,.v (cH)),(3,.v (.ref b1 0)),(6,.v (.ref b2 0)),(9,.v (sr eAs2 aF)),fi 10 (Ar.len aF),fi 11 s3.1]) (fun(s3:Int×C8) H1=>B8 Eq H0 [cb b2 [vi 0,vi 0,vi 0,vi 0,.str (⟨#[]⟩)],cb b1 (EY s3.2)] H1) (fun x e l H1=>e= .exit 0∧l=[(3,.v (.ref b1 0)),(6,.v (.ref b2 0))]∧B8 Eq H0 [cb b2 [vi 0,vi 0,vi 0,vi 0,.str (⟨#[]⟩)],cb b1 (EY x)] H1) (by kernel_rfl) ?_ hx ?_ hO ?_
 ·intro s3 H o hO h;clear hx;cbv;refine A8 hE h (fun _ h=>?_) fun _ h=>?_
  ·cbv;refine B9 hE eAr9 h fun x5 h=>?_;cbv;refine B1 hE hO 1 rfl ?_;cbv;refine Y5 hE (g:=fun r6=>(J4 r6)) h (fun r6 hx=>cN s3.2 x5 r6 hx) (.refl _) fun r6 h=>?_;cbv;refine A9 hE hO 1 rfl rfl fun H hO=>?_;cbv;cases h;exact⟨_,rfl,.e2 (.e4 .z),rfl,hO⟩
  cbv;cases h;exact⟨_,_,rfl,⟨rfl,rfl,hO⟩,.e2 .z,rfl⟩
 ·exact .e2 (.e4 .z)
 clear hx;rintro e l H ⟨rfl,rfl,hO⟩;cbv;refine B1 hE hO 1 rfl ?_;cbv;refine A9 hE hO 0 rfl rfl fun H hO=>?_;cbv;refine B1 hE hO 0 rfl ?_;cbv;cases h;exact hK hO (.refl _)
def cf345 :Cf:=⟨[0],[],[],[],[],[]⟩
theorem c345 (N r)(h:Bq N=some r):B3 prog 345 [] ((D3 r)):=by
 unfold Bq at h
 refine I8 cf345 func345 call345 ntmps345 ?_;intro E H0 K hE hK hO;cbv;refine C3 hE hO fun b1 H hO=>?_;cbv;refine A9 hE hO 0 rfl rfl fun H hO=>?_;cbv;refine B1 hE hO 0 rfl ?_;cbv;cases h;exact hK hO (.refl _)
def cf346 :Cf:=⟨[2],[],[],[],[],[]⟩
theorem c346 (N bA aH r)(h:Bp N bA aH=some r):B3 prog 346 [.eref (P9 bA) 0,.eref (P9 aH) 0] ((D3 r)):=by
 unfold Bp at h
 refine I8 cf346 func346 call346 ntmps346 ?_;intro E H0 K hE hK hO;cbv;refine C3 hE hO fun b1 H hO=>?_;cbv;refine A9 hE hO 0 rfl rfl fun H hO=>?_;cbv;refine B1 hE hO 0 rfl ?_;cbv;cases h;exact hK hO (.refl _)
def cf347 :Cf:=⟨[2],[],[],[],[],[]⟩
theorem c347 (N bA aH r)(h:Bo N bA aH=some r):B3 prog 347 [.eref (P9 bA) 0,.eref (P9 aH) 0] ((D3 r)):=by
 unfold Bo at h
 refine I8 cf347 func347 call347 ntmps347 ?_;intro E H0 K hE hK hO;cbv;refine C3 hE hO fun b1 H hO=>?_;cbv;refine A9 hE hO 0 rfl rfl fun H hO=>?_;cbv;refine B1 hE hO 0 rfl ?_;cbv;cases h;exact hK hO (.refl _)
def cf348 :Cf:=⟨[2],[],[],[],[],[]⟩
theorem c348 (N bA aH r)(h:Bn N bA aH=some r):B3 prog 348 [.eref (P9 bA) 0,.eref (P9 aH) 0] ((D3 r)):=by
 unfold Bn at h
 refine I8 cf348 func348 call348 ntmps348 ?_;intro E H0 K hE hK hO;cbv;refine C3 hE hO fun b1 H hO=>?_;cbv;refine A9 hE hO 0 rfl rfl fun H hO=>?_;cbv;refine B1 hE hO 0 rfl ?_;cbv;cases h;exact hK hO (.refl _)
def cf349 :Cf:=⟨[1],[],[],[],[],[]⟩
theorem c349 (N bA r)(h:Bm N bA=some r):B3 prog 349 [.eref (P9 bA) 0] ((D3 r)):=by
 unfold Bm at h
 refine I8 cf349 func349 call349 ntmps349 ?_;intro E H0 K hE hK hO;cbv;refine C3 hE hO fun b1 H hO=>?_;cbv;refine A9 hE hO 0 rfl rfl fun H hO=>?_;cbv;refine B1 hE hO 0 rfl ?_;cbv;cases h;exact hK hO (.refl _)
def cf350 :Cf:=⟨[1],[],[],[],[],[]⟩
theorem c350 (N bA r)(h:Bl N bA=some r):B3 prog 350 [.eref (P9 bA) 0] ((D3 r)):=by
 unfold Bl at h
 refine I8 cf350 func350 call350 ntmps350 ?_;intro E H0 K hE hK hO;cbv;refine C3 hE hO fun b1 H hO=>?_;cbv;refine A9 hE hO 0 rfl rfl fun H hO=>?_;cbv;refine B1 hE hO 0 rfl ?_;cbv;cases h;exact hK hO (.refl _)
def cf343 :Cf:=⟨[6],[],[],[],[],[]⟩
theorem c343 (N aR aC aD r)(h:Y0 N aR aC aD=some r):B3 prog 343 [vi aR,(D3 aC),(D3 aD)] ((D3 r)):=by
 unfold Y0 at h
 refine I8 cf343 func343 call343 ntmps343 ?_;intro E H0 K hE hK hO;cbv;refine C3 hE hO fun b1 H hO=>?_;cbv;refine ZU hE [0,1,2,3,4,5] (by rfl) ?_;cbv;refine A8 hE h (fun _ h=>?_) fun _ h=>?_
 ·cbv;refine A4 hE h (c345 N) (.refl _) fun r2 h=>?_;cbv;refine A9 hE hO 0 rfl rfl fun H hO=>?_;cbv;refine B1 hE hO 0 rfl ?_;cbv;cases h;exact hK hO (.refl _)
 cbv;refine A8 hE h (fun _ h=>?_) fun _ h=>?_
 ·cbv;refine Y5 hE (g:=fun r3=>(D3 r3)) h (fun r3 hx=>B3.value (F:=[]) (C:=[.eref (P9 aC) 0,.eref (P9 aD) 0]) (c346 N aC aD r3 hx)) (.refl _) fun r3 h=>?_;cbv;refine A9 hE hO 0 rfl rfl fun H hO=>?_;cbv;refine B1 hE hO 0 rfl ?_;cbv;cases h;exact hK hO (.refl _)
 cbv;refine A8 hE h (fun _ h=>?_) fun _ h=>?_
 ·cbv;refine Y5 hE (g:=fun r4=>(D3 r4)) h (fun r4 hx=>B3.value (F:=[]) (C:=[.eref (P9 aC) 0,.eref (P9 aD) 0]) (c347 N aC aD r4 hx)) (.refl _) fun r4 h=>?_;cbv;refine A9 hE hO 0 rfl rfl fun H hO=>?_;cbv;refine B1 hE hO 0 rfl ?_;cbv;cases h;exact hK hO (.refl _)
 cbv;refine A8 hE h (fun _ h=>?_) fun _ h=>?_
 ·cbv;refine Y5 hE (g:=fun r5=>(D3 r5)) h (fun r5 hx=>B3.value (F:=[]) (C:=[.eref (P9 aC) 0,.eref (P9 aD) 0]) (c348 N aC aD r5 hx)) (.refl _) fun r5 h=>?_;cbv;refine A9 hE hO 0 rfl rfl fun H hO=>?_;cbv;refine B1 hE hO 0 rfl ?_;cbv;cases h;exact hK hO (.refl _)
 cbv;refine A8 hE h (fun _ h=>?_) fun _ h=>?_
 ·cbv;refine Y5 hE (g:=fun r6=>(D3 r6)) h (fun r6 hx=>B3.value (F:=[]) (C:=[.eref (P9 aC) 0]) (c349 N aC r6 hx)) (.refl _) fun r6 h=>?_;cbv;refine A9 hE hO 0 rfl rfl fun H hO=>?_;cbv;refine B1 hE hO 0 rfl ?_;cbv;cases h;exact hK hO (.refl _)
 cbv;refine A8 hE h (fun _ h=>?_) fun _ h=>?_
 ·cbv;refine Y5 hE (g:=fun r7=>(D3 r7)) h (fun r7 hx=>B3.value (F:=[]) (C:=[.eref (P9 aD) 0]) (c350 N aD r7 hx)) (.refl _) fun r7 h=>?_;cbv;refine A9 hE hO 0 rfl rfl fun H hO=>?_;cbv;refine B1 hE hO 0 rfl ?_;cbv;cases h;exact hK hO (.refl _)
 cbv;cases h
def cf339 :Cf:=⟨[4],[(5,14)],[],[],[],[]⟩
theorem c339 (N aC aD r)(h:Bh N aC aD=some r):B3 prog 339 [(J4 aC),(J4 aD)] ((J4 r)):=by
 unfold Bh at h
 refine I8 cf339 func339 call339 ntmps339 ?_;intro E H0 K hE hK hO;cbv;refine C3 hE hO fun b1 H hO=>?_;cbv;refine A8 hE h (fun _ h=>?_) fun _ h=>?_
 ·cbv;refine A9 hE hO 0 rfl rfl fun H hO=>?_;cbv;refine B1 hE hO 0 rfl ?_;cbv;cases h;exact hK hO (.refl _)
 cbv;refine A8 hE h (fun _ h=>?_) fun _ h=>?_
 ·cbv;refine A9 hE hO 0 rfl rfl fun H hO=>?_;cbv;refine B1 hE hO 0 rfl ?_;cbv;cases h;exact hK hO (.refl _)
 cbv;refine D5 hE (g:=fun r2=>(D3 r2)) h (c343 N aC.Kind aC.Value aD.Value) (.refl _) fun r2 h=>?_;cbv;refine A9 hE hO 0 rfl rfl fun H hO=>?_;cbv;refine B1 hE hO 0 rfl ?_;cbv;cases h;exact hK hO (.refl _)
def cf340 :Cf:=⟨[4],[],[],[],[],[]⟩
theorem c340 (N aR aJ r)(h:Z4 N aR aJ=some r):B3 prog 340 [vi aR,(D3 aJ)] ((D3 r)):=by
 unfold Z4 at h
 refine I8 cf340 func340 call340 ntmps340 ?_;intro E H0 K hE hK hO;cbv;refine C3 hE hO fun b1 H hO=>?_;cbv;refine A8 hE h (fun _ h=>?_) fun _ h=>?_
 ·cbv;refine A9 hE hO 0 rfl rfl fun H hO=>?_;cbv;refine B1 hE hO 0 rfl ?_;cbv;cases h;exact hK hO (.refl _)
 cbv;refine A9 hE hO 0 rfl rfl fun H hO=>?_;cbv;refine B1 hE hO 0 rfl ?_;cbv;cases h;exact hK hO (.refl _)
def cf338 :Cf:=⟨[5],[(1,6)],[],[],[],[]⟩
theorem c338 (N aC aJ aL r)(h:M6 N aC aJ aL=some r):B3 prog 338 [(J4 aC),(D3 aJ),.eref [vi aL] 0] ((J4 r)):=by
 unfold M6 at h
 refine I8 cf338 func338 call338 ntmps338 ?_;intro E H0 K hE hK hO;cbv;refine C3 hE hO fun b1 H hO=>?_;cbv;refine D5 hE (g:=fun r2=>(D3 r2)) h (c340 N aL aJ) (.refl _) fun r2 h=>?_;cbv;refine A4 hE h (c339 N aC (⟨aL,1,r2⟩:C8)) (.refl _) fun r3 h=>?_;cbv;refine A9 hE hO 0 rfl rfl fun H hO=>?_;cbv;refine B1 hE hO 0 rfl ?_;cbv;cases h;exact hK hO (.refl _)
theorem c344 (N aC r) (h:Aq N aC=some r):B3 prog 344 [(J4 aC)] (vi r):=by
 unfold Aq at h
 refine I8 cf0 func344 call344 ntmps344 ?_;intro E H0 K hE hK hO;cbv;refine A4 hE h (c335 N aC.Kind) (.refl _) fun r1 h=>?_;cbv;refine A8 hE h (fun _ h=>?_) fun _ h=>?_
 ·cbv;cases h;exact hK hO (.refl _)
 cbv;refine A8 hE h (fun _ h=>?_) fun _ h=>?_
 ·cbv;cases h;exact hK hO (.refl _)
 cbv;refine A8 hE h (fun _ h=>?_) fun _ h=>?_
 ·cbv;refine A8 hE h (fun _ h=>?_) fun _ h=>?_
  ·cbv;cases h;exact hK hO (.refl _)
  cbv;cases h;exact hK hO (.refl _)
 cbv;refine A8 hE h (fun _ h=>?_) fun _ h=>?_
 ·cbv;refine A8 hE h (fun _ h=>?_) fun _ h=>?_
  ·cbv;cases h;exact hK hO (.refl _)
  cbv;cases h;exact hK hO (.refl _)
 cbv;refine A4 hE h (c275 N aC.Value) (.refl _) fun r2 h=>?_;cbv;refine A8 hE h (fun _ h=>?_) fun _ h=>?_
 ·cbv;refine A4 hE h (c342 N aC.Kind aC.Value) (.refl _) fun r3 h=>?_;cbv;refine A8 hE h (fun _ h=>?_) fun _ h=>?_
  ·cbv;cases h;exact hK hO (.refl _)
  cbv;cases h;exact hK hO (.refl _)
 cbv;cases h;exact hK hO (.refl _)
def cf341 :Cf:=⟨[4],[],[],[],[],[]⟩
theorem c341 (N aC bI r)(h:Bi N aC bI=some r):B3 prog 341 [(J4 aC),(D3 bI)] (.tup [(D3 r.1),vi r.2]):=by
 unfold Bi at h
 refine I8 cf341 func341 call341 ntmps341 ?_;intro E H0 K hE hK hO;cbv;refine C3 hE hO fun b1 H hO=>?_;cbv;refine A4 hE h (c344 N aC) (.refl _) fun r2 h=>?_;cbv;refine A8 hE h (fun _ h=>?_) fun _ h=>?_
 ·cbv;refine A9 hE hO 0 rfl rfl fun H hO=>?_;cbv;refine B1 hE hO 0 rfl ?_;cbv;cases h;exact hK hO (.refl _)
 cbv;refine A4 hE h (c336 N aC.Kind bI) (.refl _) fun r3 h=>?_;cbv;refine A8 hE h (fun _ h=>?_) fun _ h=>?_
 ·cbv;refine A9 hE hO 0 rfl rfl fun H hO=>?_;cbv;refine B1 hE hO 0 rfl ?_;cbv;cases h;exact hK hO (.refl _)
 cbv;refine A8 hE h (fun _ h=>?_) fun _ h=>?_
 ·cbv;refine A9 hE hO 0 rfl rfl fun H hO=>?_;cbv;refine B1 hE hO 0 rfl ?_;cbv;cases h;exact hK hO (.refl _)
 cbv;refine A8 hE h (fun _ h=>?_) fun _ h=>?_
 ·cbv;refine A9 hE hO 0 rfl rfl fun H hO=>?_;cbv;refine B1 hE hO 0 rfl ?_;cbv;cases h;exact hK hO (.refl _)
 cbv;refine A9 hE hO 0 rfl rfl fun H hO=>?_;cbv;refine B1 hE hO 0 rfl ?_;cbv;cases h;exact hK hO (.refl _)
def cf333 :Cf:=⟨[6],[],[],[],[],[]⟩
theorem c333 (N aR aF bI r) (h:Cp N aR aF bI=some r):B3 prog 333 [vi aR,sr eAs2 aF,(D3 bI)] (.tup [(D3 r.1),vi r.2]):=by
 unfold Cp at h
 refine I8 cf333 func333 call333 ntmps333 ?_;intro E H0 K hE hK hO;cbv;refine C3 hE hO fun b1 H hO=>?_;cbv;refine A4 hE h (c335 N aR) (.refl _) fun r2 h=>?_;cbv;refine A8 hE h (fun _ h=>?_) fun _ h=>?_
 ·cbv;refine A9 hE hO 0 rfl rfl fun H hO=>?_;cbv;refine B1 hE hO 0 rfl ?_;cbv;cases h;exact hK hO (.refl _)
 cbv;refine D4 hE ?_;cbv;refine A8 hE h (fun _ h=>?_) fun _ h=>?_
 ·cbv;refine A9 hE hO 0 rfl rfl fun H hO=>?_;cbv;refine B1 hE hO 0 rfl ?_;cbv;cases h;exact hK hO (.refl _)
 cbv;refine D4 hE ?_;cbv;obtain⟨s4,hx,h⟩:=bind_some h;refine E3 cf333 hE M4 (fun s3=>[(1,.v (sr eAs2 aF)),(3,.v (.eref [vi aR] 0)),(5,.v (.eref (P9 bI) 0)),(6,.v (.ref b1 0)),(22,.v (sr eAs2 aF)),fi 23 (Ar.len aF),fi 24 s3]) (fun s3 H1=>B8 Eq H0 [cb b1 [vi 0,vi 0,.str (⟨#[]⟩)]] H1) (fun x e l H1=>match(generalizing:=false) x with| .inl y=>e= .exit 1∧l=[(1,.v (sr eAs2 aF)),(3,.v (.eref [vi aR] 0)),(5,.v (.eref (P9 bI) 0)),(6,.v (.ref b1 0))]∧B8 Eq H0 [cb b1 [vi 0,vi 0,.str (⟨#[]⟩)]] H1| .inr y=>e= .ret∧l=[(6,.v (.ref b1 0)),fi 7 y]∧B8 Eq H0 [cb b1 [vi 0,vi 0,.str (⟨#[]⟩)]] H1) (by kernel_rfl) ?_ hx ?_ hO ?_
 ·intro s3 H o hO h;clear hx;cbv;refine A8 hE h (fun _ h=>?_) fun _ h=>?_
  ·cbv;refine B9 hE eAr9 h fun x5 h=>?_;cbv;refine A4 hE h (c336 N aR x5) (.refl _) fun r6 h=>?_;cbv;refine A8 hE h (fun _ h=>?_) fun _ h=>?_
   ·cbv;refine A9 hE hO 0 rfl rfl fun H hO=>?_;cbv;cases h;exact⟨_,_,rfl,⟨rfl,rfl,hO⟩,.e2 .z,rfl⟩
   cbv;cases h;exact⟨_,rfl,.e rfl (.e2 (.e4 .z)),rfl,hO⟩
  cbv;cases h;exact⟨_,_,rfl,⟨rfl,rfl,hO⟩,.e4 .z,rfl⟩
 ·exact .e rfl (.e2 (.e4 .z))
 clear hx
 rcases s4 with y7|y10
 ·rintro e l H ⟨rfl,rfl,hO⟩;cbv;refine A4 hE (g:=fun r8=>(J4 r8)) h (fun r8 hx=>c337 N (⟨aR,0,(⟨0,0,⟨#[]⟩⟩:A5)⟩:C8) aF (.func (.func 338) [] [.eref [vi aR] 0]) (fun y1 y2=>M6 N y1 y2 aR) (fun y1 y2 r hx=>B3.value (F:=[]) (C:=[.eref [vi aR] 0]) (c338 N y1 y2 aR r hx)) r8 hx) (.refl _) fun r8 h=>?_;cbv;refine A4 hE h (c341 N r8 bI) (.refl _) fun r9 h=>?_;cbv;refine A9 hE hO 0 rfl rfl fun H hO=>?_;cbv;refine B1 hE hO 0 rfl ?_;cbv;cases h;exact hK hO (.refl _)
 rintro e l H ⟨rfl,rfl,hO⟩;cbv;refine B1 hE hO 0 rfl ?_;cbv;cases h;exact hK hO (.refl _)
def cf328 :Cf:=⟨[4],[],[],[],[],[]⟩
theorem c328 (N aI aB r) (h:S1 N aI aB=some r):B3 prog 328 [(AW aI),(G0 aB)] (.tup [(D3 r.1),vi r.2]):=by
 unfold S1 at h
 refine I8 cf328 func328 call328 ntmps328 ?_;intro E H0 K hE hK hO;cbv;refine C3 hE hO fun b1 H hO=>?_;cbv;refine A4 hE h (c327 N aI aB.Var) (.refl _) fun r2 h=>?_;cbv;refine D4 hE ?_;cbv;replace hO:=hO.tl0 (t:=.nil) rfl;obtain⟨s5,hx,h⟩:=bind_some h;refine W3 cf328 hE M4 (γ:=D7) (fun s3 g=>[(3,.v (.eref (Ak aB) 0)),(4,.v (.ref b1 0)),(6,.v (.sl (lst eAs2 s3.1) g)),(14,.v (sr eAr6 r2)),fi 15 (Ar.len r2),fi 16 s3.2]) (fun s3 g H1=>W6 g∧B8 Eq H0 [.tl g,cb b1 [vi 0,vi 0,.str (⟨#[]⟩)]] H1) (fun x e l H1=>match(generalizing:=false) x with| .inl y=>∃u1:D7,W6 u1∧e= .exit 0∧l=[(3,.v (.eref (Ak aB) 0)),(4,.v (.ref b1 0)),(6,.v (.sl (lst eAs2 y) u1))]∧B8 Eq H0 [.tl u1,cb b1 [vi 0,vi 0,.str (⟨#[]⟩)]] H1| .inr y=>∃u1:D7,W6 u1∧e= .ret∧l=[(4,.v (.ref b1 0)),fi 5 y]∧B8 Eq H0 [.tl u1,cb b1 [vi 0,vi 0,.str (⟨#[]⟩)]] H1) (by kernel_rfl) ?_ .nil hx ?_ ?_ ?_
 ·rintro s3 t4 H o ⟨ht4,hO⟩ h;clear hx;cbv;refine A8 hE h (fun _ h=>?_) fun _ h=>?_
  ·cbv;refine B9 hE eAs0 h fun x6 h=>?_;cbv;refine A4 hE h (c329 N x6 aB.Field) (.refl _) fun r7 h=>?_;cbv;refine A8 hE h (fun _ h=>?_) fun _ h=>?_
   ·cbv;refine A9 hE hO 1 rfl rfl fun H hO=>?_;cbv;cases h;exact⟨_,_,rfl,⟨t4,ht4,rfl,rfl,hO⟩,.e2 .z,rfl⟩
   cbv;refine Cd (f:=eAs2) hE NA (by decide) hO 0 rfl ht4 (l:=s3.1) (m:=[r7.1]) (.refl _) (.lstc (.eq (eAr9 r7.1) (.refl _)) (.lst0)) h fun l9 t8 H hO ht8 h=>?_;cbv;cases h;exact⟨_,t8,rfl,.e2 (.e4 .z),rfl,ht8,hO⟩
  cbv;cases h;exact⟨_,_,rfl,⟨t4,ht4,rfl,rfl,hO⟩,.e rfl (.e2 .z),rfl⟩
 ·exact .e2 (.v (.slt _ (.lst0)) (.e rfl (.e rfl (.e rfl (.z)))))
 ·exact⟨trivial,hO⟩
 clear hx
 rcases s5 with y10|y13
 ·rintro e l H ⟨t11,ht11,rfl,rfl,hO⟩;cbv;refine A4 hE h (c333 N aB.Kind y10 aB.Value) (.cons (.refl _) (.cons (.ro _ _) (.refl _))) fun r12 h=>?_;cbv;refine A9 hE hO 1 rfl rfl fun H hO=>?_;cbv;refine B1 hE hO 1 rfl ?_;cbv;cases h;exact hK hO (.refl _)
 rintro e l H ⟨t14,ht14,rfl,rfl,hO⟩;cbv;refine B1 hE hO 1 rfl ?_;cbv;cases h;exact hK hO (.refl _)
def cf315 :Cf:=⟨[4,7],[],[(38,12),(63,19)],[],[],[]⟩
theorem c315 (N aI aB r) (h:T7 N aI aB=some r):B3 prog 315 [(AW aI),(G0 aB)] (.tup [(D3 r.1),vi r.2]):=by
 unfold T7 at h
 refine I8 cf315 func315 call315 ntmps315 ?_;intro E H0 K hE hK hO;cbv;refine C3 hE hO fun b1 H hO=>?_;cbv;refine A4 hE h (c327 N aI aB.Var) (.refl _) fun r2 h=>?_;cbv;refine A8 hE h (fun _ h=>?_) fun _ h=>?_
 ·cbv;refine A9 hE hO 0 rfl rfl fun H hO=>?_;cbv;refine B1 hE hO 0 rfl ?_;cbv;cases h;exact hK hO (.refl _)
 cbv;refine A8 hE h (fun _ h=>?_) fun _ h=>?_
 ·cbv;refine D4 hE ?_;cbv;refine A9 hE hO 0 rfl rfl fun H hO=>?_;cbv;refine B1 hE hO 0 rfl ?_;cbv;cases h;exact hK hO (.refl _)
 cbv;refine A8 hE h (fun _ h=>?_) fun _ h=>?_
 ·cbv;refine A4 hE h (c328 N aI aB) (.refl _) fun r3 h=>?_;cbv;refine A9 hE hO 0 rfl rfl fun H hO=>?_;cbv;refine B1 hE hO 0 rfl ?_;cbv;cases h;exact hK hO (.refl _)
 cbv;refine C3 hE hO fun b4 H hO=>?_;cbv;refine A9 hE hO 0 rfl rfl fun H hO=>?_;cbv;obtain⟨s5,hx,h⟩:=bind_some h;refine U4 cf315 hE M4 (fun e l H1=>match(generalizing:=false) s5 with| .inl y=>e= .normal∧l=[(3,.v (.eref (Ak aB) 0)),(4,.v (.ref b1 0)),(7,.v (.ref b4 0))]∧B8 Eq H0 [cb b4 (Ls y),cb b1 [vi 0,vi 0,.str (⟨#[]⟩)]] H1| .inr y=>e= .ret∧l=[(4,.v (.ref b1 0)),fi 5 10]∧B8 Eq H0 [cb b4 (Ls aI.event),cb b1 [vi 0,vi 0,.str (⟨#[]⟩)]] H1) (by kernel_rfl) ?_ ?_
 ·clear h;have h:=hx;clear hx;cbv;refine A8 hE h (fun _ h=>?_) fun _ h=>?_
  ·cbv;refine D4 hE ?_;cbv;refine A8 hE h (fun _ h=>?_) fun _ h=>?_
   ·cbv;refine A9 hE hO 1 rfl rfl fun H hO=>?_;cbv;cases h;exact⟨_,⟨rfl,rfl,hO⟩,.e2 .z,rfl⟩
   cbv;refine D4 hE ?_;cbv;refine B9 hE eAs0 h fun x6 h=>?_;cbv;refine A9 hE hO 0 rfl rfl fun H hO=>?_;cbv;cases h;exact⟨_,⟨rfl,rfl,hO⟩,.e rfl (.e2 .z),rfl⟩
  cbv;cases h;exact⟨_,⟨rfl,rfl,hO⟩,.e rfl (.e2 .z),rfl⟩
 clear hx
 rcases s5 with y7|y11
 ·rintro e l H ⟨rfl,rfl,hO⟩;cbv;refine A8 hE h (fun _ h=>?_) fun _ h=>?_
  ·cbv;refine B1 hE hO 0 rfl ?_;cbv;refine A9 hE hO 1 rfl rfl fun H hO=>?_;cbv;refine B1 hE hO 1 rfl ?_;cbv;cases h;exact hK hO (.refl _)
  cbv;refine B1 hE hO 0 rfl ?_;cbv;refine A4 hE h (c329 N y7 aB.Field) (.refl _) fun r8 h=>?_;cbv;obtain⟨s9,hx,h⟩:=bind_some h;refine U4 cf315 hE M4 (fun e l H1=>e= .normal∧l=[(4,.v (.ref b1 0)),(8,.v (.eref (P9 r8.1) 0)),fi 9 s9]∧B8 Eq H0 [cb b4 (Ls y7),cb b1 [vi 0,vi 0,.str (⟨#[]⟩)]] H1) (by kernel_rfl) ?_ ?_
  ·clear h;have h:=hx;clear hx;cbv;refine A8 hE h (fun _ h=>?_) fun _ h=>?_
   ·cbv;refine A4 hE h (c275 N r8.1) (.refl _) fun r10 h=>?_;cbv;cases h;exact⟨_,⟨rfl,rfl,hO⟩,.e rfl (.e2 .z),rfl⟩
   cbv;cases h;exact⟨_,⟨rfl,rfl,hO⟩,.e rfl (.e2 .z),rfl⟩
  clear hx;rintro e l H ⟨rfl,rfl,hO⟩;cbv;refine A8 hE h (fun _ h=>?_) fun _ h=>?_
  ·cbv;refine A9 hE hO 1 rfl rfl fun H hO=>?_;cbv;refine B1 hE hO 1 rfl ?_;cbv;cases h;exact hK hO (.refl _)
  cbv;refine A9 hE hO 1 rfl rfl fun H hO=>?_;cbv;refine B1 hE hO 1 rfl ?_;cbv;cases h;exact hK hO (.refl _)
 rintro e l H ⟨rfl,rfl,hO⟩;cbv;refine B1 hE hO 1 rfl ?_;cbv;cases h;exact hK hO (.refl _)
def cf316 :Cf:=⟨[],[],[(15,8),(22,13)],[],[],[]⟩
theorem c316 (N aQ bF r) (h:Bx N aQ bF=some r):B3 prog 316 [vi aQ,sr (V.int .i64) bF] (vi r):=by
 unfold Bx at h
 refine I8 cf316 func316 call316 ntmps316 ?_;intro E H0 K hE hK hO;cbv;refine D4 hE ?_;cbv;obtain⟨s2,hx,h⟩:=bind_some h;refine E3 cf316 hE M4 (fun s1=>[fi 0 aQ,(1,.v (sr (V.int .i64) bF)),(8,.v (sr (V.int .i64) bF)),fi 9 (Ar.len bF),fi 10 s1]) (fun s1 H1=>B8 Eq H0 [] H1) (fun x e l H1=>match(generalizing:=false) x with| .inl y=>e= .exit 0∧l=[]∧B8 Eq H0 [] H1| .inr y=>e= .ret∧l=[fi 4 9]∧B8 Eq H0 [] H1) (by kernel_rfl) ?_ hx ?_ hO ?_
 ·intro s1 H o hO h;clear hx;cbv;refine A8 hE h (fun _ h=>?_) fun _ h=>?_
  ·cbv;refine B9 hE (fun _=>rfl) h fun x3 h=>?_;cbv;obtain⟨s4,hx,h⟩:=bind_some h;refine U4 cf316 hE M4 (fun e l H1=>e= .normal∧l=[fi 0 aQ,(1,.v (sr (V.int .i64) bF)),fi 6 x3,(7,.b true),(8,.v (sr (V.int .i64) bF)),fi 9 (Ar.len bF),fi 10 s1,fi 14 aQ,(15,.v (.bool s4))]∧B8 Eq H0 [] H1) (by kernel_rfl) ?_ ?_
   ·clear h;have h:=hx;clear hx;cbv;refine A8 hE h (fun _ h=>?_) fun _ h=>?_
    ·cbv;cases h;exact⟨_,⟨rfl,rfl,hO⟩,.e rfl (.e2 (.b rfl (.e rfl (.e rfl (.e rfl (.e rfl (.e rfl (.z)))))))),rfl⟩
    cbv;refine A8 hE h (fun _ h=>?_) fun _ h=>?_
    ·cbv;cases h;exact⟨_,⟨rfl,rfl,hO⟩,.e rfl (.e2 (.b rfl (.e rfl (.e rfl (.e rfl (.e rfl (.e rfl (.z)))))))),rfl⟩
    cbv;refine A8 hE h (fun _ h=>?_) fun _ h=>?_
    ·cbv;cases h;exact⟨_,⟨rfl,rfl,hO⟩,.e rfl (.e2 (.b rfl (.e rfl (.e rfl (.e rfl (.e rfl (.e rfl (.z)))))))),rfl⟩
    cbv;cases h;exact⟨_,⟨rfl,rfl,hO⟩,.e rfl (.e2 (.b rfl (.e rfl (.e rfl (.e rfl (.e rfl (.e rfl (.z)))))))),rfl⟩
   clear hx;rintro e l H ⟨rfl,rfl,hO⟩;cbv;refine A8 hE h (fun _ h=>?_) fun _ h=>?_
   ·cbv;refine A8 hE h (fun _ h=>?_) fun _ h=>?_
    ·cbv;cases h;exact⟨_,_,rfl,⟨rfl,rfl,hO⟩,.e rfl .z,rfl⟩
    cbv;cases h;exact⟨_,rfl,.e rfl (.e4 .z),rfl,hO⟩
   cbv;obtain⟨s5,hx,h⟩:=bind_some h;refine U4 cf316 hE M4 (fun e l H1=>e= .normal∧l=[fi 0 aQ,(1,.v (sr (V.int .i64) bF)),fi 6 x3,(7,.b true),(8,.v (sr (V.int .i64) bF)),fi 9 (Ar.len bF),fi 10 s1,fi 14 aQ,(22,.v (.bool s5))]∧B8 Eq H0 [] H1) (by kernel_rfl) ?_ ?_
   ·clear h;have h:=hx;clear hx;cbv;refine A8 hE h (fun _ h=>?_) fun _ h=>?_
    ·cbv;cases h;exact⟨_,⟨rfl,rfl,hO⟩,.e rfl (.e2 (.b rfl (.e rfl (.e rfl (.e rfl (.e rfl (.e rfl (.z)))))))),rfl⟩
    cbv;refine A8 hE h (fun _ h=>?_) fun _ h=>?_
    ·cbv;cases h;exact⟨_,⟨rfl,rfl,hO⟩,.e rfl (.e2 (.b rfl (.e rfl (.e rfl (.e rfl (.e rfl (.e rfl (.z)))))))),rfl⟩
    cbv;cases h;exact⟨_,⟨rfl,rfl,hO⟩,.e rfl (.e2 (.b rfl (.e rfl (.e rfl (.e rfl (.e rfl (.e rfl (.z)))))))),rfl⟩
   clear hx;rintro e l H ⟨rfl,rfl,hO⟩;cbv;refine A8 hE h (fun _ h=>?_) fun _ h=>?_
   ·cbv;refine A8 hE h (fun _ h=>?_) fun _ h=>?_
    ·cbv;cases h;exact⟨_,_,rfl,⟨rfl,rfl,hO⟩,.e rfl .z,rfl⟩
    cbv;cases h;exact⟨_,rfl,.e rfl (.e4 .z),rfl,hO⟩
   cbv;refine A8 hE h (fun _ h=>?_) fun _ h=>?_
   ·cbv;refine B9 hE (fun _=>rfl) h fun x6 h=>?_;cbv;refine A8 hE h (fun _ h=>?_) fun _ h=>?_
    ·cbv;cases h;exact⟨_,_,rfl,⟨rfl,rfl,hO⟩,.e rfl .z,rfl⟩
    cbv;cases h;exact⟨_,rfl,.e rfl (.e4 .z),rfl,hO⟩
   cbv;cases h;exact⟨_,rfl,.e rfl (.e4 .z),rfl,hO⟩
  cbv;cases h;exact⟨_,_,rfl,⟨rfl,rfl,hO⟩,.z,rfl⟩
 ·exact .e rfl (.e4 .z)
 clear hx
 rcases s2 with y7|y8
 ·rintro e l H ⟨rfl,rfl,hO⟩;cbv;cases h;exact hK hO (.refl _)
 rintro e l H ⟨rfl,rfl,hO⟩;cbv;cases h;exact hK hO (.refl _)
end Go.Ab
namespace Go.Ab
open Go.RowKit Go.Proofs Go.Proofs.Tryz H6
variable [Ar][H6]
set_option maxRecDepth 100000
def cf298 :Cf:=⟨[4,3000042,8000042,9000042],[(11,8),(17,6),(18,16)],[],[],[],[]⟩
theorem c298 (N:Nat):∀n aI aB r,H8 N n aI aB=some r→B3 prog 298 [(AW aI),(G0 aB)] (.tup [(D3 r.1),vi r.2]):=by
 intro n
 induction n with
 |zero=>intro aI aB r h;cases h
 |succ n ih=>
 intro aI aB r h
 unfold H8 at h
 refine I8 cf298 func298 call298 ntmps298 ?_;intro E H0 K hE hK hO;cbv;refine C3 hE hO fun b1 H hO=>?_;cbv;refine D4 hE ?_;cbv;refine A8 hE h (fun _ h=>?_) fun _ h=>?_
 ·cbv;refine A4 hE h (c315 N aI aB) (.refl _) fun r2 h=>?_;cbv;refine A9 hE hO 0 rfl rfl fun H hO=>?_;cbv;refine B1 hE hO 0 rfl ?_;cbv;cases h;exact hK hO (.refl _)
 cbv;refine D4 hE ?_;cbv;replace hO:=hO.tl0 (t:=.nil) rfl;replace hO:=hO.tl0 (t:=.nil) rfl;obtain⟨s6,hx,h⟩:=bind_some h;refine W3 cf298 hE M4 (γ:=D7×D7) (fun s3 g=>[(2,.v (.eref (CK aI) 0)),(3,.v (.eref (Ak aB) 0)),(4,.v (.ref b1 0)),(6,.v (.sl (lst eAs2 s3.1) g.2)),(7,.v (.sl (lst (V.int .i64) s3.2.1) g.1)),(23,.v (sr eAr7 aB.cO)),fi 24 (Ar.len aB.cO),fi 25 s3.2.2]) (fun s3 g H1=>W6 g.1∧W6 g.2∧B8 Eq H0 [.tl g.1,.tl g.2,cb b1 [vi 0,vi 0,.str (⟨#[]⟩)]] H1) (fun x e l H1=>match(generalizing:=false) x with| .inl y=>∃u1:D7,W6 u1∧∃u2:D7,W6 u2∧e= .exit 0∧l=[(2,.v (.eref (CK aI) 0)),(3,.v (.eref (Ak aB) 0)),(4,.v (.ref b1 0)),(6,.v (.sl (lst eAs2 y.1) u2)),(7,.v (.sl (lst (V.int .i64) y.2) u1))]∧B8 Eq H0 [.tl u1,.tl u2,cb b1 [vi 0,vi 0,.str (⟨#[]⟩)]] H1| .inr y=>∃u1:D7,W6 u1∧∃u2:D7,W6 u2∧e= .ret∧l=[(4,.v (.ref b1 0)),fi 5 y]∧B8 Eq H0 [.tl u1,.tl u2,cb b1 [vi 0,vi 0,.str (⟨#[]⟩)]] H1) (by kernel_rfl) ?_ (⟨.nil,.nil⟩) hx ?_ ?_ ?_
 ·rintro s3 ⟨t4,t5⟩ H o ⟨ht4,ht5,hO⟩ h;clear hx;cbv;refine A8 hE h (fun _ h=>?_) fun _ h=>?_
  ·cbv;refine B9 hE eAs1 h fun x7 h=>?_;cbv;refine A4 hE h (ih aI x7) (.refl _) fun r8 h=>?_;cbv;refine A8 hE h (fun _ h=>?_) fun _ h=>?_
   ·cbv;refine A9 hE hO 2 rfl rfl fun H hO=>?_;cbv;cases h;exact⟨_,_,rfl,⟨t4,ht4,t5,ht5,rfl,rfl,hO⟩,.e2 .z,rfl⟩
   cbv;refine Ur hE hO 1 rfl ht5 fun H hO=>?_;cbv;refine Mq hE trivial ?_;cbv;refine Kc (f:=eAs2) hE NA (by decide) (l:=s3.1) (m:=[r8.1]) (.refl _) (.lstc (.eq (eAr9 r8.1) (.refl _)) (.lst0)) h fun l9 h=>?_;cbv;refine Ut hE hO 1 rfl fun t10 H hO ht10=>?_;cbv;refine Cd (f:=(V.int .i64)) hE (fun _=>rfl) (by decide) hO 0 rfl ht4 (l:=s3.2.1) (m:=[r8.1.Kind]) (.refl _) (.lstc (.refl _) (.lst0)) h fun l12 t11 H hO ht11 h=>?_;cbv;cases h;exact⟨_,⟨t11,t10⟩,rfl,.e4 (.e4 .z),rfl,ht11,ht10,hO⟩
  cbv;cases h;exact⟨_,_,rfl,⟨t4,ht4,t5,ht5,rfl,rfl,hO⟩,.e rfl (.e4 .z),rfl⟩
 ·exact .e rfl (.e2 (.v (.slt _ (.lst0)) (.v (.slt _ (.lst0)) (.e rfl (.e rfl (.e rfl (.z)))))))
 ·exact⟨trivial,trivial,hO⟩
 clear hx
 rcases s6 with y13|y43
 ·rintro e l H ⟨t14,ht14,t15,ht15,rfl,rfl,hO⟩;cbv;refine A4 hE h (c316 N aB.Op y13.2) (.cons (.refl _) (.cons (.ro _ _) (.refl _))) fun r16 h=>?_;cbv;refine A8 hE h (fun _ h=>?_) fun _ h=>?_
  ·cbv;refine A9 hE hO 2 rfl rfl fun H hO=>?_;cbv;refine B1 hE hO 2 rfl ?_;cbv;cases h;exact hK hO (.refl _)
  cbv;refine A8 hE h (fun _ h=>?_) fun _ h=>?_
  ·cbv;refine B9 hE eAr9 h fun x17 h=>?_;cbv;refine B9 hE eAr9 h fun x18 h=>?_;cbv;refine A4 hE h (c285 N (an (Ar.cmp .eql x17.Kind x18.Kind) (an (Ar.cmp .eql x17.Num x18.Num) (an (Ar.scmp .eql x17.Text x18.Text) true)))) (.refl _) fun r19 h=>?_;cbv;refine A9 hE hO 2 rfl rfl fun H hO=>?_;cbv;refine B1 hE hO 2 rfl ?_;cbv;cases h;exact hK hO (.refl _)
  cbv;refine Ai4 hE (kt:=3) (et:=338) (z:=.nilf) (by kernel_rfl) (by kernel_rfl) (by kernel_rfl) rfl ?_;cbv;refine A8 hE h (fun _ h=>?_) fun _ h=>?_
  ·cbv;refine B9 hE eAr9 h fun x20 h=>?_;cbv;refine D4 hE ?_;cbv;refine B9 hE eAr9 h fun x21 h=>?_;cbv;refine Y5 hE (g:=fun r22=>(D3 r22)) h (fun r22 hx=>B3.value (F:=[]) (C:=[.eref [.func (.func 307) [] []] 0]) (c308 N x20.Num x21.Num (.func (.func 307) [] []) (fun y1=>O9 N y1) (fun y1 r hx=>B3.value (F:=[]) (C:=[]) (c307 N y1 r hx)) r22 hx)) (.refl _) fun r22 h=>?_;cbv;refine A9 hE hO 2 rfl rfl fun H hO=>?_;cbv;refine B1 hE hO 2 rfl ?_;cbv;cases h;exact hK hO (.refl _)
  cbv;refine A8 hE h (fun _ h=>?_) fun _ h=>?_
  ·cbv;refine B9 hE eAr9 h fun x23 h=>?_;cbv;refine D4 hE ?_;cbv;refine B9 hE eAr9 h fun x24 h=>?_;cbv;refine Y5 hE (g:=fun r25=>(D3 r25)) h (fun r25 hx=>B3.value (F:=[]) (C:=[.eref [.func (.func 307) [] []] 0]) (c309 N x23.Num x24.Num (.func (.func 307) [] []) (fun y1=>O9 N y1) (fun y1 r hx=>B3.value (F:=[]) (C:=[]) (c307 N y1 r hx)) r25 hx)) (.refl _) fun r25 h=>?_;cbv;refine A9 hE hO 2 rfl rfl fun H hO=>?_;cbv;refine B1 hE hO 2 rfl ?_;cbv;cases h;exact hK hO (.refl _)
  cbv;refine A8 hE h (fun _ h=>?_) fun _ h=>?_
  ·cbv;refine B9 hE eAr9 h fun x26 h=>?_;cbv;refine D4 hE ?_;cbv;refine B9 hE eAr9 h fun x27 h=>?_;cbv;refine A4 hE h (c310 N x26.Num x27.Num) (.refl _) fun r28 h=>?_;cbv;refine A9 hE hO 2 rfl rfl fun H hO=>?_;cbv;refine B1 hE hO 2 rfl ?_;cbv;cases h;exact hK hO (.refl _)
  cbv;refine A8 hE h (fun _ h=>?_) fun _ h=>?_
  ·cbv;refine B9 hE eAr9 h fun x29 h=>?_;cbv;refine D4 hE ?_;cbv;refine B9 hE eAr9 h fun x30 h=>?_;cbv;refine A4 hE h (c311 N x29.Num x30.Num) (.refl _) fun r31 h=>?_;cbv;refine A9 hE hO 2 rfl rfl fun H hO=>?_;cbv;refine B1 hE hO 2 rfl ?_;cbv;cases h;exact hK hO (.refl _)
  cbv;refine A8 hE h (fun _ h=>?_) fun _ h=>?_
  ·cbv;refine B9 hE eAr9 h fun x32 h=>?_;cbv;refine D4 hE ?_;cbv;refine B9 hE eAr9 h fun x33 h=>?_;cbv;refine A4 hE h (c312 N x32.Num x33.Num) (.refl _) fun r34 h=>?_;cbv;refine A9 hE hO 2 rfl rfl fun H hO=>?_;cbv;refine B1 hE hO 2 rfl ?_;cbv;cases h;exact hK hO (.refl _)
  cbv;refine A8 hE h (fun _ h=>?_) fun _ h=>?_
  ·cbv;refine B9 hE eAr9 h fun x35 h=>?_;cbv;refine D4 hE ?_;cbv;refine B9 hE eAr9 h fun x36 h=>?_;cbv;refine A4 hE h (c313 N x35.Num x36.Num) (.refl _) fun r37 h=>?_;cbv;refine A9 hE hO 2 rfl rfl fun H hO=>?_;cbv;refine B1 hE hO 2 rfl ?_;cbv;cases h;exact hK hO (.refl _)
  cbv;refine A8 hE h (fun _ h=>?_) fun _ h=>?_
  ·cbv;refine B9 hE eAr9 h fun x38 h=>?_;cbv;refine D4 hE ?_;cbv;refine B9 hE eAr9 h fun x39 h=>?_;cbv;refine A4 hE h (c314 N x38.Num x39.Num) (.refl _) fun r40 h=>?_;cbv;refine A9 hE hO 2 rfl rfl fun H hO=>?_;cbv;refine B1 hE hO 2 rfl ?_;cbv;cases h;exact hK hO (.refl _)
  cbv;refine B9 hE eAr9 h fun x41 h=>?_;cbv;refine D4 hE ?_;cbv;refine B9 hE eAr9 h fun x42 h=>?_;cbv;cases h
 rintro e l H ⟨t44,ht44,t45,ht45,rfl,rfl,hO⟩;cbv;refine B1 hE hO 2 rfl ?_;cbv;cases h;exact hK hO (.refl _)
def cf284 :Cf:=⟨[8],[(3000004,0),(3000004,1),(3000004,2),(3000004,4),(3000004,5),(3000004,7),(3000004,8),(3000004,10)],[],[2000004],[],[]⟩
theorem c284 (N aB bL bD bM r)(h:Fs N aB bL bD bM=some r):B3 prog 284 [(G0 aB),(Qc bL),vi bD,(BF bM)] (.tup [(D3 r.1),vi r.2]):=by
 unfold Fs at h
 refine I8 cf284 func284 call284 ntmps284 ?_;intro E H0 K hE hK hO;cbv;refine C3 hE hO fun b1 H hO=>?_;cbv;refine A4 hE h (c178 N aB) (.refl _) fun r2 h=>?_;cbv;refine A8 hE h (fun _ h=>?_) fun _ h=>?_
 ·cbv;refine A9 hE hO 0 rfl rfl fun H hO=>?_;cbv;refine B1 hE hO 0 rfl ?_;cbv;cases h;exact hK hO (.refl _)
 cbv;obtain⟨s3,hx,h⟩:=bind_some h;refine U4 cf284 hE M4 (fun e l H1=>e= .normal∧l=[(8,.v (.ref b1 0)),fi 9 s3.1]∧B8 Eq H0 [cb b1 (P9 s3.2)] H1) (by kernel_rfl) ?_ ?_
 ·clear h;have h:=hx;clear hx;cbv;refine XS hE (c297 N () rfl) (.refl _) hO fun m125 H hO=>?_;cbv;refine ZS hE (g:=fun r244=>.tup [(D3 r244.1),vi r244.2]) h (c298 N N (⟨bL,bD,bM,()⟩:P4) aB) (fun _=>.tup2 (.agg rfl) (.int _ _)) (.agg (.le (.refl _) (.le (.refl _) (.le (.refl _) (.le (.refl _) (.le (.refl _) (.le (.refl _) (.le (.refl _) (.fm (hO.get 0 rfl) (.nil))))))))) (.le (.refl _) (.nil))) fun r244 h=>?_;cbv;refine A9 hE hO 1 rfl rfl fun H hO=>?_;cbv;cases h;exact⟨_,⟨rfl,rfl,hO.tail⟩,.e2 .z,rfl⟩
 clear hx;rintro e l H ⟨rfl,rfl,hO⟩;cbv;refine B1 hE hO 0 rfl ?_;cbv;cases h;exact hK hO (.refl _)
def cf265 :Cf:=⟨[],[(2,5)],[],[],[],[]⟩
theorem c265 (N aB bL bD bM r)(h:CG N aB bL bD bM=some r):B3 prog 265 [(G0 aB),(Qc bL),vi bD,(BF bM)] (.bool r):=by
 unfold CG at h
 refine I8 cf265 func265 call265 ntmps265 ?_;intro E H0 K hE hK hO;cbv;refine A4 hE h (c284 N aB bL bD bM) (.refl _) fun r1 h=>?_;cbv;refine A8 hE h (fun _ h=>?_) fun _ h=>?_
 ·cbv;refine D5 hE (g:=fun r2=>(D3 r2)) h (c285 N true) (.refl _) fun r2 h=>?_;cbv;cases h;exact hK hO (.refl _)
 cbv;cases h;exact hK hO (.refl _)
def cf266 :Cf:=⟨[6,7,3000041,8000041,9000041],[(6,20)],[],[],[(44,1000007)],[]⟩
theorem c266 (N aK aG bY r) (h:P2 N aK aG bY=some r):B3 prog 266 [.eref (B2 aK) 0,sr eAr2 aG,vi bY] ((Qc r)):=by
 unfold P2 at h
 refine I8 cf266 func266 call266 ntmps266 ?_;intro E H0 K hE hK hO;cbv;refine C3 hE hO fun b1 H hO=>?_;cbv;refine Ao4 hE (f:=eAr6) (by decide) hO 1 h fun l3 w2 H hw2 h hO=>?_;have hO:B8 Eq H0 (.blk w2.q.id (.arr 1 (w2.q.pre++lst (Dw eAr6) w2.row++w2.q.rest))::cb b1 [.sl [] .nil]::(HM w2++[])) H:=hO;cbv;refine C3 hE hO fun b4 H hO=>?_;cbv;refine A9 hE hO 0 rfl rfl fun H hO=>?_;cbv;refine D4 hE ?_;cbv;obtain⟨s7,hx,h⟩:=bind_some h;refine W3 cf266 hE M4 (γ:=Rw A6) (fun s5 g=>[(0,.v (.eref (B2 aK) 0)),fi 2 bY,(6,.v (.ref b1 0)),(7,.v (.ref b4 0)),(12,.v (sr eAr2 aG)),fi 13 (Ar.len aG),fi 14 s5.1]) (fun s5 g H1=>CM g s5.2∧B8 Eq H0 (cb b4 [.own g.q.id g.q.lo g.q.n]:: .blk g.q.id (.arr 1 (g.q.pre++lst (Dw eAr6) g.row++g.q.rest))::cb b1 [.sl [] .nil]::(HM g++[])) H1) (fun x e l H1=>∃u1:Rw A6,CM u1 x∧e= .exit 0∧l=[(6,.v (.ref b1 0)),(7,.v (.ref b4 0))]∧B8 Eq H0 (cb b4 [.own u1.q.id u1.q.lo u1.q.n]:: .blk u1.q.id (.arr 1 (u1.q.pre++lst (Dw eAr6) u1.row++u1.q.rest))::cb b1 [.sl [] .nil]::(HM u1++[])) H1) (by kernel_rfl) ?_ w2 hx ?_ ?_ ?_
 ·rintro s5 w6 H o ⟨hw6,hO⟩ h;clear hx;cbv;refine A8 hE h (fun _ h=>?_) fun _ h=>?_
  ·cbv;refine B9 hE eAs6 h fun x8 h=>?_;cbv;refine A8 hE h (fun _ h=>?_) fun _ h=>?_
   ·cbv;obtain⟨x9,hxx9,h⟩:=bind_some h
    obtain⟨hjx9,t10,hrx9,hax9⟩:=hw6.at hxx9
    obtain⟨Rx9,hO,hbx9⟩:=hO.rtake (w:=w6) (T1:=[]) (T2:=[]) 3 rfl hrx9;refine Ur hE hO 0 rfl hax9 fun H hO=>?_;cbv;refine B1 hE hO 1 rfl ?_;cbv;refine B1 hE hO 1 rfl ?_;cbv;refine YE hE (f:=Dw eAr6) hO hw6.ok 2 rfl hjx9 ?_;cbv;refine Ab4 hE (f:=Dw eAr6) (fun _=>rfl) hO hw6.ok 2 rfl hjx9.1 hrx9 ?_;cbv;refine B9 hE eAs0 h fun x14 h=>?_;cbv;refine Mq hE trivial ?_;cbv;refine Kc (f:=eAr6) hE NB (by decide) (l:=x9) (m:=[x14]) (.refl _) (.lstc (.eq (eAs0 x14) (.refl _)) (.lst0)) h fun l15 h=>?_;cbv;refine Ut hE hO 0 rfl fun t11 H hO htt11=>?_;cbv;refine YE hE (f:=Dw eAr6) hO hw6.ok 2 rfl hjx9 ?_;cbv;refine YD hE (f:=Dw eAr6) (tz:=1) (x':=(l15,t11)) (fun _=>⟨.sl (lst eAr6 l15) t11,.refl _,rfl,rfl,rfl⟩) (by decide) hO hw6.ok 2 rfl hjx9 fun H hO=>?_;cbv;obtain⟨l13,hu,h⟩:=bind_some h;obtain⟨w12,hqw12,hw12,hO⟩:∃w0:Rw A6,w0.q=w6.q∧CM w0 l13∧B8 Eq H0 (cb b4 [.own w0.q.id w0.q.lo w0.q.n]:: .blk w0.q.id (.arr 1 (w0.q.pre++lst (Dw eAr6) w0.row++w0.q.rest))::cb b1 [.sl [] .nil]::(HM w0++[])) H:=⟨(⟨w6.q,w6.row.set (x8.cT).toNat (l15,t11)⟩:Rw A6),rfl,by rw[WY hu];exact hw6.put _ htt11,(by have e:=hbx9 (l15,t11) H [cb b4 [.own w6.q.id w6.q.lo w6.q.n],.blk w6.q.id (.arr 1 (w6.q.pre++lst (Dw eAr6) (w6.row.set (x8.cT).toNat (l15,t11))++w6.q.rest)),cb b1 [.sl [] .nil]] hO;simp only[List.cons_append,List.nil_append,append_nil]at e ⊢;exact e)⟩
    try rw[←hqw12]
    cases h;exact⟨_,w12,rfl,.e rfl (.e2 (.e4 .z)),rfl,hw12,hO⟩
   cbv;cases h;exact⟨_,w6,rfl,.e rfl (.e2 (.e4 .z)),rfl,hw6,hO⟩
  cbv;cases h;exact⟨_,_,rfl,⟨w6,hw6,rfl,rfl,hO⟩,.e2 .z,rfl⟩
 ·exact .e rfl (.e2 (.e4 .z))
 ·exact⟨hw2,hO⟩
 clear hx;rintro e l H ⟨w16,hw16,rfl,rfl,hO⟩;cbv;refine XK hE (e:=eAt0) eAt5 hO hw16 0 1 rfl rfl rfl (by decide) fun H hO=>?_;have hO:B8 Eq H0 [cb b4 [sr eAt0 s7],cb b1 [.sl [] .nil]] H:=hO.rdrop (w:=w16) (T1:=[]) (T2:=[]) 2 rfl;cbv;refine B1 hE hO 0 rfl ?_;cbv;refine A9 hE hO 1 rfl rfl fun H hO=>?_;cbv;refine B1 hE hO 1 rfl ?_;cbv;cases h;exact hK hO (.refl _)
def cf231 :Cf:=⟨[],[(1,13)],[],[],[],[]⟩
theorem c231 (N aK bO aG bD bG r)(h:G6 N aK bO aG bD bG=some r):B3 prog 231 [.eref (B2 aK) 0,(G0 bO),sr eAr2 aG,vi bD,vi bG] (.bool r):=by
 unfold G6 at h
 refine I8 cf231 func231 call231 ntmps231 ?_;intro E H0 K hE hK hO;cbv;refine D5 hE (g:=fun r1=>(Qc r1)) h (c266 N aK aG bG) (.refl _) fun r1 h=>?_;cbv;refine B9 hE eAs0 h fun x2 h=>?_;cbv;refine A4 hE h (c265 N bO r1 bD x2) (.refl _) fun r3 h=>?_;cbv;cases h;exact hK hO (.refl _)
def cf230 :Cf:=⟨[],[(3,28)],[],[],[],[]⟩
theorem c230 (N aH aL aP aS r) (h:S4 N aH aL aP aS=some r):Fx prog 230 (fun yv=>[yv,.eref [vi aH] 0,.eref [.eref (B2 aL) 0] 0,.eref (C0 aP) 0,.eref [sr eAr2 aS] 0]) (List.map (fun(x:(List A1))=>[sr eAr2 x]) r) rbN:=by
 unfold S4 at h
 obtain⟨⟨w0,u0⟩,h1,hr⟩:=bind_some h;clear h;have hr:=AL hr;subst hr;have h:=h1;clear h1;refine N8 cf230 M4 func230 (by rfl) (by kernel_rfl) call230 ntmps230 (by rfl) (fun _=>rfl) ?_;intro yv I D hI hD hy tl F E H K hE hO hK hKD
 have hO:B8 (I (List.map (fun(x:(List A1))=>[sr eAr2 x]) (w0++[])++tl)) F [] H:=by rw[append_nil];exact hO
 cbv;obtain⟨w2,w3,s6,hx,h1,he⟩:=Q3 h;clear h;have h:=h1;clear h1
 rw[he,append_assoc]at hO
 clear he;refine Cc cf230 hE M4 (γ:=Unit) (fun s1 g=>[(0,.v (yv)),(2,.v (.eref [.eref (B2 aL) 0] 0)),(3,.v (.eref (C0 aP) 0)),(4,.v (.eref [sr eAr2 aS] 0)),fi 6 s1]) (fun s1 g w H1=>B8 (I (List.map (fun(x:(List A1))=>[sr eAr2 x]) w++tl)) F [] H1) (fun x e l w H1=>e= .exit 0∧l=[]∧B8 (I (List.map (fun(x:(List A1))=>[sr eAr2 x]) w++tl)) F [] H1) (fun e l H1=>(e= .ret∧l=[]∧B8 D F [] H1)) (by kernel_rfl) ?_ (w':=w3++[]) () hx ?_ ?_ ?_ ?_
 ·rintro s1 _ w4 w5 H o hO h;clear hx
  skip
  cbv;refine D4 hE ?_;cbv;refine A8 hE h (fun _ h=>?_) fun _ h=>?_
  ·cbv;refine B9 hE eAs0 h fun x7 h=>?_;cbv;refine A8 hE h (fun _ h=>?_) fun _ h=>?_
   ·cbv;refine D5 hE (g:=fun r8=>.bool r8) h (c231 N aL aP.cP aS aP.Var s1) (.refl _) fun r8 h=>?_;cbv;refine A8 hE h (fun _ h=>?_) fun _ h=>?_
    ·cbv;obtain⟨w9,h1,he⟩:=V3 h;clear h;have h:=h1;clear h1
     rw[he,append_assoc]at hO
     clear he;have hO:B8 (I ([sr eAr2 ([(⟨aP.Var,s1⟩:A1)])]::(List.map (fun(x:(List A1))=>[sr eAr2 x]) (w9++w5)++tl))) F [] _:=hO;refine DD hE hI hD hy hO (.cons (.lit _ (D6 ((eAs6 (⟨aP.Var,s1⟩:A1)).symm) (C2))) (.refl _)) (fun H hO=>?_) (fun H hO=>?_)
     ·cbv;refine HW hE (nt_eq _) ?_;cbv;obtain⟨hw,rfl⟩:=C7 h
      rw[←hw]at hO
      exact⟨_,(),rfl,.e rfl (.e4 .z),rfl,hO⟩
     clear h;cbv;refine HV hE (nt_eq _) ?_;cbv;exact .inr ⟨_,⟨rfl,rfl,hO⟩,.z,rfl⟩
    cbv;obtain⟨hw,rfl⟩:=C7 h
    rw[←hw]at hO
    exact⟨_,(),rfl,.e rfl (.e4 .z),rfl,hO⟩
   cbv;obtain⟨hw,rfl⟩:=C7 h
   rw[←hw]at hO
   exact⟨_,(),rfl,.e rfl (.e4 .z),rfl,hO⟩
  cbv;obtain⟨hw,rfl⟩:=C7 h
  rw[←hw]at hO
  exact .inl ⟨_,_,rfl,⟨rfl,rfl,hO⟩,.z,rfl⟩
 ·exact .e rfl (.e4 .z)
 ·exact hO
 ·rintro e l H ⟨rfl,rfl,hO⟩;clear hx;cbv;obtain⟨hw,_⟩:=C7 h
  rw[←hw]at hO
  exact hK _ _ _ hO trivial
 rintro e l H hX;obtain⟨rfl,rfl,hO⟩:=hX;clear h;cbv;exact hKD _ _ _ hO trivial
theorem c190 (N aK aA aO aM r)(h:J9 N aK aA aO aM=some r):As prog 190 [.eref (B2 aK) 0,(B6 aA),sr eAr2 aO,vi aM] (fun v=>EP prog v (r.map fun(x:(List A1))=>[sr eAr2 x])):=by
 unfold J9 at h
 refine R4 cf0 M4 func190 (by rfl) (by kernel_rfl) call190 ntmps190 (by rfl) (by rfl) ?_;intro E H0 K hE hK;have hO:B8 Eq H0 [] H0:=.start H5 rfl;cbv;exact hK _ _ _ hO (V1 call230 (c230 N aM aK aA aO r h))
theorem c267 (N aH r) (h:E9 N aH=some r):Fx prog 267 (fun yv=>[yv,.eref [sr eAr8 aH] 0]) (List.map (fun(x:(List A1))=>[sr eAr2 x]) r) rbN:=by
 unfold E9 at h
 obtain⟨⟨w0,u0⟩,h1,hr⟩:=bind_some h;clear h;have hr:=AL hr;subst hr;have h:=h1;clear h1;refine N8 cf0 M4 func267 (by rfl) (by kernel_rfl) call267 ntmps267 (by rfl) (fun _=>rfl) ?_;intro yv I D hI hD hy tl F E H K hE hO hK hKD
 have hO:B8 (I (List.map (fun(x:(List A1))=>[sr eAr2 x]) (w0++[])++tl)) F [] H:=by rw[append_nil];exact hO
 cbv;refine D4 hE ?_;cbv;obtain⟨w2,w3,s6,hx,h1,he⟩:=Q3 h;clear h;have h:=h1;clear h1
 rw[he,append_assoc]at hO
 clear he;refine Cc cf0 hE M4 (γ:=Unit) (fun s1 g=>[(0,.v (yv)),(5,.v (sr eAr8 aH)),fi 6 (Ar.len aH),fi 7 s1]) (fun s1 g w H1=>B8 (I (List.map (fun(x:(List A1))=>[sr eAr2 x]) w++tl)) F [] H1) (fun x e l w H1=>e= .exit 0∧l=[]∧B8 (I (List.map (fun(x:(List A1))=>[sr eAr2 x]) w++tl)) F [] H1) (fun e l H1=>(e= .ret∧l=[]∧B8 D F [] H1)) (by kernel_rfl) ?_ (w':=w3++[]) () hx ?_ ?_ ?_ ?_
 ·rintro s1 _ w4 w5 H o hO h;clear hx
  skip
  cbv;refine A8 hE h (fun _ h=>?_) fun _ h=>?_
  ·cbv;refine B9 hE eAs7 h fun x7 h=>?_;cbv;obtain⟨w8,h1,he⟩:=V3 h;clear h;have h:=h1;clear h1
   rw[he,append_assoc]at hO
   clear he;have hO:B8 (I ([sr eAr2 x7]::(List.map (fun(x:(List A1))=>[sr eAr2 x]) (w8++w5)++tl))) F [] _:=hO;refine DD hE hI hD hy hO (.refl _) (fun H hO=>?_) (fun H hO=>?_)
   ·cbv;refine HW hE (nt_eq _) ?_;cbv;obtain⟨hw,rfl⟩:=C7 h
    rw[←hw]at hO
    exact⟨_,(),rfl,.e4 .z,rfl,hO⟩
   clear h;cbv;refine HV hE (nt_eq _) ?_;cbv;exact .inr ⟨_,⟨rfl,rfl,hO⟩,.z,rfl⟩
  cbv;obtain⟨hw,rfl⟩:=C7 h
  rw[←hw]at hO
  exact .inl ⟨_,_,rfl,⟨rfl,rfl,hO⟩,.z,rfl⟩
 ·exact .e4 .z
 ·exact hO
 ·rintro e l H ⟨rfl,rfl,hO⟩;clear hx;cbv;obtain⟨hw,_⟩:=C7 h
  rw[←hw]at hO
  exact hK _ _ _ hO trivial
 rintro e l H hX;obtain⟨rfl,rfl,hO⟩:=hX;clear h;cbv;exact hKD _ _ _ hO trivial
theorem c232 (N aG r)(h:N9 N aG=some r):As prog 232 [sr eAr8 aG] (fun v=>EP prog v (r.map fun(x:(List A1))=>[sr eAr2 x])):=by
 unfold N9 at h
 refine R4 cf0 M4 func232 (by rfl) (by kernel_rfl) call232 ntmps232 (by rfl) (by rfl) ?_;intro E H0 K hE hK;have hO:B8 Eq H0 [] H0:=.start H5 rfl;cbv;exact hK _ _ _ hO (V1 call267 (c267 N aG r h))
theorem c286 {cmp:A1→A1→Option Int}{g:Nat}{C:List V}(eg:∀vals w,(callFunc g vals).run prog w= .ok (.enter g vals) w)(hc:∀y1 y2 r,cmp y1 y2=some r→B3 prog g ([(L9 y1),(L9 y2)]++C) (vi r)){l r:List A1}(h:GE cmp l=some r):
 PQ prog 286 (.func (.func g) [] C) 2 (lst eAr2 l) (lst eAr2 r):=KS Go.Proofs.Tryz.sorts286 call286 (va:=fun x=>(EM x)) eAs6 (fun _=>rfl) eg hc h
theorem c287 (N aI aN r)(h:AX N aI aN=some r):B3 prog 287 [(L9 aI),(L9 aN)] (vi r):=by
 unfold AX at h
 refine I8 cf0 func287 call287 ntmps287 ?_;intro E H0 K hE hK hO;cbv;cases h;exact hK hO (.refl _)
theorem c269 (N aC aD r)(h:K6 N aC aD=some r):B3 prog 269 [sr eAr2 aC,sr eAr2 aD] (sr eAr2 r):=by
 unfold K6 at h
 refine MY (T:=TT) cf0 M4 func269 (by rfl) (by kernel_rfl) call269 ntmps269 (by rfl) (by rfl) ?_;intro E H0 K hE hK hF;have hO:B8 Eq H0 [] H0:=.start H5 rfl;cbv;refine D4 hE ?_;cbv;refine D4 hE ?_;cbv;refine Ri hE (f:=eAr2) (by decide) (z0:=((⟨0,0⟩:A1):A1)) ((.eq (eAs6 _) (.refl _))) hO h fun l2 q1 H hq1 h hO=>?_;cbv;refine Ix (f:=eAr2) hE Y3 (by decide) hO hq1 0 rfl (m:=aC) (Ik (f:=eAr2) hE Y3 (.refl _)) h fun l4 q3 H hq3 hO h=>?_;cbv;refine Ix (f:=eAr2) hE Y3 (by decide) hO hq3 0 rfl (m:=aD) (Ik (f:=eAr2) hE Y3 (.refl _)) h fun l6 q5 H hq5 hO h=>?_;cbv;refine Rj hE hO hq5 0 rfl h (fun l7 hx=>c286 (g:=287) (C:=[]) call287 (fun y1 y2 r hx=>c287 N y1 y2 r hx) hx) fun l7 H hq5 hO h=>?_;cbv;cases h;exact hF q5 _ _ 0 _ _ hO rfl (Jg hE hq5) (.refl _)
theorem c270 (N aG r)(h:K3 N aG=some r):B3 prog 270 [sr eAr2 aG] (vi r):=by
 unfold K3 at h
 refine I8 cf0 func270 call270 ntmps270 ?_;intro E H0 K hE hK hO;cbv;refine D4 hE ?_;cbv;refine B9 hE eAs6 h fun x1 h=>?_;cbv;cases h;exact hK hO (.refl _)
theorem c301 (N:Nat) (aG:List A1) (aU:V) (aT:A1→Option Bool) (bC:∀y1 q,aT y1=some q→Q7 prog aU [(L9 y1)] (.bool q)) (r:Int) (h:O0 N aG aT=some r):B3 prog 301 [sr eAr2 aG,aU] (vi r):=by
 unfold O0 at h
 refine I8 cf0 func301 call301 ntmps301 ?_;intro E H0 K hE hK hO;cbv;refine D4 hE ?_;cbv;obtain⟨s2,hx,h⟩:=bind_some h;refine E3 cf0 hE M4 (fun s1=>[(0,.v (sr eAr2 aG)),(1,.v (aU)),fi 7 (Ar.len aG),fi 8 s1]) (fun s1 H1=>B8 Eq H0 [] H1) (fun x e l H1=>match(generalizing:=false) x with| .inl y=>e= .exit 0∧l=[]∧B8 Eq H0 [] H1| .inr y=>e= .ret∧l=[fi 4 y]∧B8 Eq H0 [] H1) (by kernel_rfl) ?_ hx ?_ hO ?_
 ·intro s1 H o hO h;clear hx;cbv;refine A8 hE h (fun _ h=>?_) fun _ h=>?_
  ·cbv;refine B9 hE eAs6 h fun x3 h=>?_;cbv;refine Y5 hE (g:=fun r4=>.bool r4) h (fun r4 hx=>bC x3 r4 hx) (.refl _) fun r4 h=>?_;cbv;refine A8 hE h (fun _ h=>?_) fun _ h=>?_
   ·cbv;cases h;exact⟨_,_,rfl,⟨rfl,rfl,hO⟩,.e rfl .z,rfl⟩
   cbv;cases h;exact⟨_,rfl,.e4 .z,rfl,hO⟩
  cbv;cases h;exact⟨_,_,rfl,⟨rfl,rfl,hO⟩,.z,rfl⟩
 ·exact .e4 .z
 clear hx
 rcases s2 with y5|y6
 ·rintro e l H ⟨rfl,rfl,hO⟩;cbv;cases h;exact hK hO (.refl _)
 rintro e l H ⟨rfl,rfl,hO⟩;cbv;cases h;exact hK hO (.refl _)
theorem c288 (N:Nat)(aG:List A1)(aU:V)(aT:A1→Option Bool)(bC:∀y1 q,aT y1=some q→Q7 prog aU [(L9 y1)] (.bool q))(r:Bool)(h:G3 N aG aT=some r):B3 prog 288 [sr eAr2 aG,aU] (.bool r):=by
 unfold G3 at h
 refine I8 cf0 func288 call288 ntmps288 ?_;intro E H0 K hE hK hO;cbv;refine A4 hE h (c301 N aG aU aT bC) (.refl _) fun r1 h=>?_;cbv;cases h;exact hK hO (.refl _)
theorem c290 (N aI aH r)(h:T5 N aI aH=some r):B3 prog 290 [(L9 aI),.eref [vi aH] 0] (.bool r):=by
 unfold T5 at h
 refine I8 cf0 func290 call290 ntmps290 ?_;intro E H0 K hE hK hO;cbv;cases h;exact hK hO (.refl _)
theorem c272 (N aG bG r)(h:S3 N aG bG=some r):B3 prog 272 [sr eAr2 aG,vi bG] (.bool r):=by
 unfold S3 at h
 refine I8 cf0 func272 call272 ntmps272 ?_;intro E H0 K hE hK hO;cbv;refine A4 hE (g:=fun r1=>.bool r1) h (fun r1 hx=>c288 N aG (.func (.func 290) [] [.eref [vi bG] 0]) (fun y1=>T5 N y1 bG) (fun y1 r hx=>B3.value (F:=[]) (C:=[.eref [vi bG] 0]) (c290 N y1 bG r hx)) r1 hx) (.refl _) fun r1 h=>?_;cbv;cases h;exact hK hO (.refl _)
theorem c289 (N aI aH r)(h:X2 N aI aH=some r):B3 prog 289 [(L9 aI),.eref [sr eAr2 aH] 0] (.bool r):=by
 unfold X2 at h
 refine I8 cf0 func289 call289 ntmps289 ?_;intro E H0 K hE hK hO;cbv;refine A4 hE h (c272 N aH aI.at_) (.refl _) fun r1 h=>?_;cbv;cases h;exact hK hO (.refl _)
theorem c271 (N aC aD r)(h:Al N aC aD=some r):B3 prog 271 [sr eAr2 aC,sr eAr2 aD] (.bool r):=by
 unfold Al at h
 refine I8 cf0 func271 call271 ntmps271 ?_;intro E H0 K hE hK hO;cbv;refine A4 hE (g:=fun r1=>.bool r1) h (fun r1 hx=>c288 N aC (.func (.func 289) [] [.eref [sr eAr2 aD] 0]) (fun y1=>X2 N y1 aD) (fun y1 r hx=>B3.value (F:=[]) (C:=[.eref [sr eAr2 aD] 0]) (c289 N y1 aD r hx)) r1 hx) (.refl _) fun r1 h=>?_;cbv;cases h;exact hK hO (.refl _)
def cf237 :Cf:=⟨[],[(6,11)],[],[],[],[]⟩
theorem c237 (N:Nat):∀n bQ bK r,S9 N n bQ bK=some r→Fx prog 237 (fun yv=>[sr eAs8 bQ,sr eAr2 bK,yv]) (List.map (fun(x:(List A1))=>[sr eAr2 x]) r) rbB:=by
 intro n
 induction n with
 |zero=>intro bQ bK r h;cases h
 |succ n ih=>
 intro bQ bK r h
 unfold S9 at h
 obtain⟨⟨w0,u0⟩,h1,hr⟩:=bind_some h;clear h;have hr:=AL hr;subst hr;have h:=h1;clear h1;refine N8 cf237 M4 func237 (by rfl) (by kernel_rfl) call237 ntmps237 (by rfl) (fun _=>rfl) ?_;intro yv I D hI hD hy tl F E H K hE hO hK hKD
 have hO:B8 (I (List.map (fun(x:(List A1))=>[sr eAr2 x]) (w0++[])++tl)) F [] H:=by rw[append_nil];exact hO
 cbv;refine D4 hE ?_;cbv;refine A8 hE h (fun _ h=>?_) fun _ h=>?_
 ·cbv;obtain⟨w1,h1,he⟩:=V3 h;clear h;have h:=h1;clear h1
  rw[he,append_assoc]at hO
  clear he;have hO:B8 (I ([sr eAr2 bK]::(List.map (fun(x:(List A1))=>[sr eAr2 x]) (w1++[])++tl))) F [] _:=hO;refine DD hE hI hD hy hO (.refl _) (fun H hO=>?_) (fun H hO=>?_)
  ·cbv;obtain⟨hw,_⟩:=C7 h
   rw[←hw]at hO
   exact hK _ _ _ hO rfl
  clear h;cbv;exact hKD _ _ _ hO rfl
 cbv;refine B9 hE eAt2 h fun x2 h=>?_;cbv;refine D4 hE ?_;cbv;obtain⟨w4,w5,s8,hx,h1,he⟩:=Q3 h;clear h;have h:=h1;clear h1
 rw[he,append_assoc]at hO
 clear he;refine Cc cf237 hE M4 (γ:=Unit) (fun s3 g=>[(0,.v (sr eAs8 bQ)),(1,.v (sr eAr2 bK)),(2,.v (yv)),(17,.v (sr eAr8 x2)),fi 18 (Ar.len x2),fi 19 s3]) (fun s3 g w H1=>B8 (I (List.map (fun(x:(List A1))=>[sr eAr2 x]) w++tl)) F [] H1) (fun x e l w H1=>e= .exit 0∧l=[]∧B8 (I (List.map (fun(x:(List A1))=>[sr eAr2 x]) w++tl)) F [] H1) (fun e l H1=>(e= .ret∧l=[(6,.b false)]∧B8 D F [] H1)) (by kernel_rfl) ?_ (w':=w5++[]) () hx ?_ ?_ ?_ ?_
 ·rintro s3 _ w6 w7 H o hO h;clear hx
  skip
  cbv;refine A8 hE h (fun _ h=>?_) fun _ h=>?_
  ·cbv;refine B9 hE eAs7 h fun x9 h=>?_;cbv;refine D5 hE (g:=fun r10=>.bool r10) h (c271 N bK x9) (.refl _) fun r10 h=>?_;cbv;refine A8 hE h (fun _ h=>?_) fun _ h=>?_
   ·cbv;refine HF hE (f:=eAs8) Cv h fun l11 t12 h=>?_;cbv;refine D5 hE (g:=fun r13=>sr eAr2 r13) h (c269 N bK x9) (.refl _) fun r13 h=>?_;cbv;obtain⟨l14,hl,h⟩:=bind_some h;obtain⟨w15,h1,he⟩:=V3 h;clear h;have h:=h1;clear h1
    rw[he,append_assoc]at hO
    clear he
    rw[List.map_append,append_assoc]at hO
    refine Pd hE hI hD hy (ih l11 r13 l14 hl) hO (.cons (.ro _ _) (.refl _)) (fun v H hb hO=>?_) (fun v H hb hO=>?_)
    ·cases hb;clear hl;cbv;refine HW hE (nt_eq _) ?_;cbv;obtain⟨hw,rfl⟩:=C7 h
     rw[←hw]at hO
     exact⟨_,(),rfl,.e2 (.e4 .z),rfl,hO⟩
    cases hb;clear h hl;cbv;refine HV hE (nt_eq _) ?_;cbv;exact .inr ⟨_,⟨rfl,rfl,hO⟩,.b rfl (.z),rfl⟩
   cbv;obtain⟨hw,rfl⟩:=C7 h
   rw[←hw]at hO
   exact⟨_,(),rfl,.e2 (.e4 .z),rfl,hO⟩
  cbv;obtain⟨hw,rfl⟩:=C7 h
  rw[←hw]at hO
  exact .inl ⟨_,_,rfl,⟨rfl,rfl,hO⟩,.z,rfl⟩
 ·exact .e2 (.e4 .z)
 ·exact hO
 ·rintro e l H ⟨rfl,rfl,hO⟩;clear hx;cbv;obtain⟨hw,_⟩:=C7 h
  rw[←hw]at hO
  exact hK _ _ _ hO rfl
 rintro e l H hX;obtain⟨rfl,rfl,hO⟩:=hX;clear h;cbv;exact hKD _ _ _ hO rfl
def cf241 :Cf:=⟨[],[(3,23),(5,13),(10,25)],[],[],[],[]⟩
theorem c241 (N aK aA aO aG r) (h:Q0 N aK aA aO aG=some r):B3 prog 241 [.eref (B2 aK) 0,(B6 aA),sr eAr2 aO,sr eAr2 aG] (.bool r):=by
 unfold Q0 at h
 refine I8 cf241 func241 call241 ntmps241 ?_;intro E H0 K hE hK hO;cbv;refine A8 hE h (fun _ h=>?_) fun _ h=>?_
 ·cbv;refine D5 hE (g:=fun r1=>vi r1) h (c270 N aG) (.refl _) fun r1 h=>?_;cbv;refine B9 hE eAs0 h fun x2 h=>?_;cbv;refine B9 hE eAs6 h fun x3 h=>?_;cbv;refine B9 hE eAs0 h fun x4 h=>?_;cbv;cases h;exact hK hO (.refl _)
 cbv;refine A8 hE h (fun _ h=>?_) fun _ h=>?_
 ·cbv;refine D5 hE (g:=fun r5=>sr eAr2 r5) h (c269 N aO aG) (.refl _) fun r5 h=>?_;cbv;refine D4 hE ?_;cbv;refine D5 hE (g:=fun r6=>(Qc r6)) h (c266 N aK r5 (Ar.len aK.cX)) (.refl _) fun r6 h=>?_;cbv;refine A4 hE h (c265 N aA.cP r6 (-1) (⟨0,0,0,0,[]⟩:A6)) (.cons (.refl _) (.cons (.refl _) (.cons (.refl _) (.cons (.agg (.cons (.refl _) (.cons (.refl _) (.cons (.refl _) (.cons (.refl _) (.cons (.lit _ (C2)) (.refl _))))))) (.refl _))))) fun r7 h=>?_;cbv;cases h;exact hK hO (.refl _)
 cbv;refine A4 hE h (c269 N aO aG) (.refl _) fun r8 h=>?_;cbv;refine B9 hE eAs6 h fun x9 h=>?_;cbv;obtain⟨s11,hx,h⟩:=bind_some h;refine E3 cf241 hE M4 (fun s10=>[(0,.v (.eref (B2 aK) 0)),(3,.v (sr eAr2 aG)),(5,.v (.eref (C0 aA) 0)),(9,.v (sr eAr2 r8)),fi 10 s10]) (fun s10 H1=>B8 Eq H0 [] H1) (fun x e l H1=>match(generalizing:=false) x with| .inl y=>e= .exit 1∧l=[]∧B8 Eq H0 [] H1| .inr y=>e= .ret∧l=[(8,.b false)]∧B8 Eq H0 [] H1) (by kernel_rfl) ?_ hx ?_ hO ?_
 ·intro s10 H o hO h;clear hx;cbv;refine A4 hE h (c270 N aG) (.refl _) fun r12 h=>?_;cbv;refine A8 hE h (fun _ h=>?_) fun _ h=>?_
  ·cbv;refine B9 hE eAs0 h fun x13 h=>?_;cbv;refine A8 hE h (fun _ h=>?_) fun _ h=>?_
   ·cbv;refine D5 hE (g:=fun r14=>.bool r14) h (c272 N aG s10) (.refl _) fun r14 h=>?_;cbv;refine A8 hE h (fun _ h=>?_) fun _ h=>?_
    ·cbv;refine A4 hE h (c231 N aK aA.cP r8 aA.Var s10) (.refl _) fun r15 h=>?_;cbv;refine A8 hE h (fun _ h=>?_) fun _ h=>?_
     ·cbv;cases h;exact⟨_,_,rfl,⟨rfl,rfl,hO⟩,.b rfl (.z),rfl⟩
     cbv;cases h;exact⟨_,rfl,.e rfl (.e4 .z),rfl,hO⟩
    cbv;cases h;exact⟨_,rfl,.e rfl (.e4 .z),rfl,hO⟩
   cbv;cases h;exact⟨_,rfl,.e rfl (.e4 .z),rfl,hO⟩
  cbv;cases h;exact⟨_,_,rfl,⟨rfl,rfl,hO⟩,.z,rfl⟩
 ·exact .e rfl (.e4 .z)
 clear hx
 rcases s11 with y16|y17
 ·rintro e l H ⟨rfl,rfl,hO⟩;cbv;cases h;exact hK hO (.refl _)
 rintro e l H ⟨rfl,rfl,hO⟩;cbv;cases h;exact hK hO (.refl _)
def cf127 :Cf:=⟨[8,9],[(3,3)],[(39,12)],[],[],[]⟩
def Nu (N n:Nat):Prop:=∀(aK:B0) (aA:A0) (aO:List A1) (aM:Int) (r:(List (List A1))),C6 N n aK aA aO aM=some r→B3 prog 127 [.eref (B2 aK) 0,(B6 aA),sr eAr2 aO,vi aM] (sr eAr8 r)
def cf191 :Cf:=⟨[9],[(2,7),(5,8)],[],[],[(400000005,9)],[]⟩
def Am8 (N n:Nat):Prop:=∀(aK:B0) (aA:A0) (aO:List A1) (aM:Int) (r:(List (List A1))),L5 N n aK aA aO aM=some r→As prog 191 [.eref (B2 aK) 0,(B6 aA),sr eAr2 aO,vi aM] (fun v=>EP prog v (r.map fun(x:(List A1))=>[sr eAr2 x]))
def Am7 (N n:Nat):Prop:=∀(aK:B0) (aA:A0) (aO:List A1) (aM:Int) (r:(List (List A1))),L6 N n aK aA aO aM=some r→As prog 192 [.eref (B2 aK) 0,(B6 aA),sr eAr2 aO,vi aM] (fun v=>EP prog v (r.map fun(x:(List A1))=>[sr eAr2 x]))
def Am6 (N n:Nat):Prop:=∀(aK:B0) (aA:A0) (aO:List A1) (aM:Int) (r:(List (List A1))),L7 N n aK aA aO aM=some r→As prog 193 [.eref (B2 aK) 0,(B6 aA),sr eAr2 aO,vi aM] (fun v=>EP prog v (r.map fun(x:(List A1))=>[sr eAr2 x]))
def Am5 (N n:Nat):Prop:=∀(aK:B0) (aA:A0) (aO:List A1) (aM:Int) (r:(List (List A1))),K5 N n aK aA aO aM=some r→As prog 194 [.eref (B2 aK) 0,(B6 aA),sr eAr2 aO,vi aM] (fun v=>EP prog v (r.map fun(x:(List A1))=>[sr eAr2 x]))
def Am4 (N n:Nat):Prop:=∀(aK:B0) (aA:A0) (aO:List A1) (aM:Int) (r:(List (List A1))),F3 N n aK aA aO aM=some r→As prog 195 [.eref (B2 aK) 0,(B6 aA),sr eAr2 aO,vi aM] (fun v=>EP prog v (r.map fun(x:(List A1))=>[sr eAr2 x]))
def cf233 :Cf:=⟨[1000009],[],[],[],[],[]⟩
def Ad3 (N n:Nat):Prop:=∀(aK:B0) (aA:A0) (aO:List A1) (aM:Int) (bX:V) (bT:(List A1)→Int→Option (List (List A1))) (cI:∀y1 y2 q,bT y1 y2=some q→Q7 prog bX [sr eAr2 y1,vi y2] (sr eAr8 q)) (cJ:OneV bX) (r:(List (List A1))),K4 N n aK aA aO aM bT=some r→As prog 233 [.eref (B2 aK) 0,(B6 aA),sr eAr2 aO,vi aM,bX] (fun v=>EP prog v (r.map fun(x:(List A1))=>[sr eAr2 x]))
def Am3 (N n:Nat):Prop:=∀(aO:List A1) (aM:Int) (aL:B0) (aP:A0) (r:(List (List A1))),J8 N n aO aM aL aP=some r→B3 prog 234 [sr eAr2 aO,vi aM,.eref [.eref (B2 aL) 0] 0,.eref (C0 aP) 0] (sr eAr8 r)
def Am2 (N n:Nat):Prop:=∀(aH:A0) (aL:B0) (aP:List A1) (aS:Int) (r:(List (List A1))),Q1 N n aH aL aP aS=some r→Fx prog 235 (fun yv=>[yv,.eref (C0 aH) 0,.eref [.eref (B2 aL) 0] 0,.eref [sr eAr2 aP] 0,.eref [vi aS] 0]) (List.map (fun(x:(List A1))=>[sr eAr2 x]) r) rbN
def Am1 (N n:Nat):Prop:=∀(aH:A0) (aL:B0) (aP:List A1) (aS:Int) (r:(List (List A1))),Q2 N n aH aL aP aS=some r→Fx prog 236 (fun yv=>[yv,.eref (C0 aH) 0,.eref [.eref (B2 aL) 0] 0,.eref [sr eAr2 aP] 0,.eref [vi aS] 0]) (List.map (fun(x:(List A1))=>[sr eAr2 x]) r) rbN
def cf238 :Cf:=⟨[1000005],[(1,10),(6,8)],[],[],[],[]⟩
def Am0 (N n:Nat):Prop:=∀(aH:B0) (aL:A0) (aP:List A1) (aS:Int) (r:(List (List A1))),O3 N n aH aL aP aS=some r→Fx prog 238 (fun yv=>[yv,.eref [.eref (B2 aH) 0] 0,.eref (C0 aL) 0,.eref [sr eAr2 aP] 0,.eref [vi aS] 0]) (List.map (fun(x:(List A1))=>[sr eAr2 x]) r) rbN
def Al9 (N n:Nat):Prop:=∀(aO:List A1) (aM:Int) (aL:B0) (aP:A0) (r:(List (List A1))),G9 N n aO aM aL aP=some r→B3 prog 239 [sr eAr2 aO,vi aM,.eref [.eref (B2 aL) 0] 0,.eref (C0 aP) 0] (sr eAr8 r)
def cf240 :Cf:=⟨[],[(0,10)],[],[],[],[]⟩
def Al8 (N n:Nat):Prop:=∀(aH:B0) (aL:A0) (aP:List A1) (aS:Int) (r:(List (List A1))),O2 N n aH aL aP aS=some r→Fx prog 240 (fun yv=>[yv,.eref [.eref (B2 aH) 0] 0,.eref (C0 aL) 0,.eref [sr eAr2 aP] 0,.eref [vi aS] 0]) (List.map (fun(x:(List A1))=>[sr eAr2 x]) r) rbN
def cf268 :Cf:=⟨[],[(3,10)],[],[],[],[]⟩
def Al7 (N n:Nat):Prop:=∀(aH:B0) (aL:A0) (aP:List A1) (aS:Int) (bU:V) (bW:(List A1)→Int→Option (List (List A1))) (cK:∀y1 y2 q,bW y1 y2=some q→Q7 prog bU [sr eAr2 y1,vi y2] (sr eAr8 q)) (r:(List (List A1))),O1 N n aH aL aP aS bW=some r→Fx prog 268 (fun yv=>[yv,.eref [.eref (B2 aH) 0] 0,.eref (C0 aL) 0,.eref [sr eAr2 aP] 0,.eref [vi aS] 0,.eref [bU] 0]) (List.map (fun(x:(List A1))=>[sr eAr2 x]) r) rbN
theorem k127 (N n:Nat) (ih191:Am8 N n) (ih192:Am7 N n) (ih193:Am6 N n) (ih194:Am5 N n) (ih195:Am4 N n):Nu N (n+1):=by
 intro aK aA aO aM r h
 unfold C6 at h
 refine I8 cf127 func127 call127 ntmps127 ?_;intro E H0 K hE hK hO;cbv;refine C3 hE hO fun b1 H hO=>?_;cbv;refine C3 hE hO fun b2 H hO=>?_;cbv;refine Ae9 hE .string V.str V.bool hO fun m3 o4 H ho4 hO=>?_;cbv;refine D5 hE (g:=fun r5=>.agg [.func (.func 190) [] [],.func (.func 191) [] [],.func (.func 192) [] [],.func (.func 193) [] [],.func (.func 194) [] [],.func (.func 195) [] [],.func (.func 195) [] [],.func (.func 195) [] []]) h (c159 N) (.refl _) fun r5 h=>?_;cbv;refine ZT hE (Good:=fun v6 (f7:B0→A0→(List A1)→Int→Option (List (List A1)))=>∀y1 y2 y3 y4 q,f7 y1 y2 y3 y4=some q→TP prog v6 [.eref (B2 y1) 0,(B6 y2),sr eAr2 y3,vi y4] (fun w=>EP prog w (q.map fun(x:(List A1))=>[sr eAr2 x]))) (xs:=[.func (.func 190) [] [],.func (.func 191) [] [],.func (.func 192) [] [],.func (.func 193) [] [],.func (.func 194) [] [],.func (.func 195) [] [],.func (.func 195) [] [],.func (.func 195) [] []]) (.cons (fun y1 y2 y3 y4 r hx=>As.value (F:=[]) (C:=[]) (c190 N y1 y2 y3 y4 r hx)) (.cons (fun y1 y2 y3 y4 r hx=>As.value (F:=[]) (C:=[]) (ih191 y1 y2 y3 y4 r hx)) (.cons (fun y1 y2 y3 y4 r hx=>As.value (F:=[]) (C:=[]) (ih192 y1 y2 y3 y4 r hx)) (.cons (fun y1 y2 y3 y4 r hx=>As.value (F:=[]) (C:=[]) (ih193 y1 y2 y3 y4 r hx)) (.cons (fun y1 y2 y3 y4 r hx=>As.value (F:=[]) (C:=[]) (ih194 y1 y2 y3 y4 r hx)) (.cons (fun y1 y2 y3 y4 r hx=>As.value (F:=[]) (C:=[]) (ih195 y1 y2 y3 y4 r hx)) (.cons (fun y1 y2 y3 y4 r hx=>As.value (F:=[]) (C:=[]) (ih195 y1 y2 y3 y4 r hx)) (.cons (fun y1 y2 y3 y4 r hx=>As.value (F:=[]) (C:=[]) (ih195 y1 y2 y3 y4 r hx)) (.nil))))))))) h fun v6 f7 hv6 h=>?_;cbv;refine XR hE h (fun r8 hx=>hv6 aK aA aO aM r8 hx) (.refl _) fun r8 v9 hv9 h=>?_;cbv;replace hO:=hO.tl0 (t:=.nil) rfl;obtain⟨o16,hx,h⟩:=bind_some h;replace hO:=hO.cast (L':=[.tl .nil,.blk m3 (.obj o4),cb b2 [.sl (lst eAr8 ([])) .nil],cb b1 [.sl [] .nil]]) (by simp only[ob,cb,sr,←C2]<;>rfl);refine Lk cf127 hE M4 (ι:=Unit) (enc:=fun(x:(List A1))=>[sr eAr2 x]) (fun(s11:(List (ByteArray×Bool))×(List (List A1))) F H=>∃g:D7×Obj,(W6 g.1∧WD .string V.str V.bool g.2 s11.1)∧B8 Eq F [.tl g.1,.blk m3 (.obj g.2),cb b2 [.sl (lst eAr8 s11.2) g.1],cb b1 [.sl [] .nil]] H) (fun(r:((List (ByteArray×Bool))×(List (List A1)))) e F H=>∃g:D7×Obj,(e= .ret∧W6 g.1∧WD .string V.str V.bool g.2 r.1)∧B8 Eq F [.tl g.1,.blk m3 (.obj g.2),cb b2 [.sl (lst eAr8 r.2) g.1],cb b1 [.sl [] .nil]] H) (fun i s11 y10=>[(4,.v (.eref [.eref (B2 aK) 0] 0)),(8,.v (.ref b1 0)),(9,.v (.ref b2 0)),(10,.v (.eref [.map m3] 0)),(12,.v (sr eAr2 y10))]) (fun i s11 y10 F H=>∃g:D7×Obj,(W6 g.1∧WD .string V.str V.bool g.2 s11.1)∧B8 Eq F [.tl g.1,.blk m3 (.obj g.2),cb b2 [.sl (lst eAr8 s11.2) g.1],cb b1 [.sl [] .nil]] H) (fun _=>E0.ex fun _=>B8.stable H5 _) (fun _ _=>E0.ex fun _=>B8.stable H5 _) (fun _ _ _=>E0.ex fun _=>B8.stable H5 _) hv9 hx (⟨⟨.nil,o4⟩,⟨trivial,ho4⟩,hO⟩) (by decide) (fun _=>rfl) (by kernel_rfl) (by kernel_rfl) ?_ ?_ ?_ ?_
 ·rintro E i13 y10 s11 F12 H hE ⟨⟨t14,q15⟩,⟨ht14,hq15⟩,hO⟩;clear hx h;cbv;exact⟨(),⟨⟨t14,q15⟩,⟨ht14,hq15⟩,hO⟩,.e rfl (.e4 .z),rfl⟩
 ·rintro E i13 _ y10 s11 F12 H o hE hF h ⟨⟨t14,q15⟩,⟨ht14,hq15⟩,hO⟩;clear hx;cbv;refine A4 hE h (c160 N y10) (.refl _) fun r17 h=>?_;cbv;refine Tf hE (kt:=9) (et:=4) (by kernel_rfl) (by kernel_rfl) Rk (false:Bool) (by kernel_rfl) rfl hO hq15 1 rfl h fun r18 h=>?_;cbv;refine A8 hE h (fun _ h=>?_) fun _ h=>?_
  ·cbv;cases h;exact⟨_,rfl,⟨⟨t14,q15⟩,⟨ht14,hq15⟩,hO⟩⟩
  cbv;refine Te hE (kt:=9) (et:=4) (by kernel_rfl) (by kernel_rfl) Rk Kd hO hq15 1 rfl h fun l20 o19 H ho19 h hO=>?_;cbv;refine B1 hE hO 2 rfl ?_;cbv;refine Cd (f:=eAr8) hE GC (by decide) hO 0 rfl ht14 (l:=s11.2) (m:=[y10]) (.refl _) (.lstc (.eq (eAs7 y10) (.refl _)) (.lst0)) h fun l22 t21 H hO ht21 h=>?_;cbv;refine A9 hE hO 2 rfl rfl fun H hO=>?_;cbv;refine B1 hE hO 2 rfl ?_;cbv;refine D4 hE ?_;cbv;obtain⟨s23,hx,h⟩:=bind_some h;refine U4 cf127 hE M4 (fun e l H1=>e= .normal∧l=[(4,.v (.eref [.eref (B2 aK) 0] 0)),(8,.v (.ref b1 0))]∧B8 Eq F12 [.tl t21,.blk m3 (.obj o19),cb b2 [.sl (lst eAr8 l22) t21],cb b1 [.sl [] .nil]] H1) (by kernel_rfl) ?_ ?_
  ·clear h;have h:=hx;clear hx;cbv;refine A8 hE h (fun _ h=>?_) fun _ h=>?_
   ·cbv;cases h
   cbv;cases h;exact⟨_,⟨rfl,rfl,hO⟩,.e2 .z,rfl⟩
  clear hx;rintro e l H ⟨rfl,rfl,hO⟩;cbv;refine A8 hE h (fun _ h=>?_) fun _ h=>?_
  ·cbv;refine A9 hE hO 3 rfl rfl fun H hO=>?_;cbv;cases h;exact⟨_,rfl,rfl,⟨⟨t21,o19⟩,⟨rfl,⟨ht21,ho19⟩⟩,hO⟩⟩
  cbv;cases h;exact⟨_,rfl,⟨⟨t21,o19⟩,⟨ht21,ho19⟩,hO⟩⟩
 ·rintro d24 s28 H rfl hd ⟨⟨t29,q30⟩,⟨ht29,hq30⟩,hO⟩;have hO:B8 Eq H0 [.tl t29,.blk m3 (.obj q30),cb b2 [.sl (lst eAr8 s28.2) t29],cb b1 [.sl [] .nil],.blk d24 DB] H:=B8.dblk hd hO;clear hd;clear hx;cbv;refine B1 hE hO 2 rfl ?_;cbv;refine A9 hE hO 3 rfl rfl fun H hO=>?_;cbv;refine Jj hE hO 4 rfl fun H hO=>?_;cbv;refine B1 hE hO 3 rfl ?_;cbv;cases h;exact hK hO (.ro _ _)
 rintro d24 y31 e H rfl hd hX;clear hx
 rcases hX with⟨⟨t32,q33⟩,⟨rfl,ht32,hq33⟩,hO⟩
 have hO:B8 Eq H0 [.tl t32,.blk m3 (.obj q33),cb b2 [.sl (lst eAr8 y31.2) t32],cb b1 [.sl [] .nil],.blk d24 DB] H:=B8.dblk hd hO;clear hd;cbv;refine Jj hE hO 4 rfl fun H hO=>?_;cbv;refine B1 hE hO 3 rfl ?_;cbv;cases h;exact hK hO (.lit _ (C2))
theorem k191 (N n:Nat)(ih127:Nu N n)(ih233:Ad3 N n)(ih234:Am3 N n):Am8 N (n+1):=by
 intro aK aA aO aM r h
 unfold L5 at h
 refine R4 cf191 M4 func191 (by rfl) (by kernel_rfl) call191 ntmps191 (by rfl) (by rfl) ?_;intro E H0 K hE hK;have hO:B8 Eq H0 [] H0:=.start H5 rfl;cbv;refine D4 hE ?_;cbv;refine A8 hE h (fun _ h=>?_) fun _ h=>?_
 ·cbv;refine B9 hE eAr3 h fun x1 h=>?_;cbv;refine A4 hE h (ih127 aK x1 aO aM) (.refl _) fun r2 h=>?_;cbv;refine HG hE h (c232 N r2) (.refl _) fun r3 v4 hv4 h=>?_;cbv;cases h;exact hK _ _ _ hO hv4
 cbv;refine C3 hE hO fun b5 H hO=>?_;cbv;refine A9 hE hO 0 rfl rfl fun H hO=>?_;cbv;refine HF hE (f:=eAr4) N0 h fun l6 t7 h=>?_;cbv;refine A9 hE hO 0 rfl rfl fun H hO=>?_;cbv;refine Ai3 hE hO 0 rfl (.cons (.refl _) (.cons (.ro _ _) (.refl _))) fun H hO=>?_;cbv;refine B9 hE eAr3 h fun x8 h=>?_;cbv;refine HG hE h (fun r9 hx=>ih233 aK x8 aO aM (.func (.func 234) [] [.eref [.eref (B2 aK) 0] 0,.eref [vi aA.Op,sr eAr4 l6,vi aA.Typ,vi aA.Var,vi aA.cR,vi aA.Span,vi aA.cP.Op,sr eAr7 aA.cP.cO,vi aA.cP.Var,vi aA.cP.Field,vi aA.cP.Kind,vi aA.cP.Value.Kind,vi aA.cP.Value.Num,.str aA.cP.Value.Text] 0]) (fun y1 y2=>J8 N n y1 y2 aK ({aA with cO:=l6})) (fun y1 y2 r hx=>B3.value (F:=[]) (C:=[.eref [.eref (B2 aK) 0] 0,.eref [vi aA.Op,sr eAr4 l6,vi aA.Typ,vi aA.Var,vi aA.cR,vi aA.Span,vi aA.cP.Op,sr eAr7 aA.cP.cO,vi aA.cP.Var,vi aA.cP.Field,vi aA.cP.Kind,vi aA.cP.Value.Kind,vi aA.cP.Value.Num,.str aA.cP.Value.Text] 0]) (ih234 y1 y2 aK ({aA with cO:=l6}) r hx)) ⟨rfl,rfl⟩ r9 hx) (.refl _) fun r9 v10 hv10 h=>?_;cbv;cases h;exact hK _ _ _ hO hv10
theorem k192 (N n:Nat)(ih235:Am2 N n):Am7 N (n+1):=by
 intro aK aA aO aM r h
 unfold L6 at h
 refine R4 cf0 M4 func192 (by rfl) (by kernel_rfl) call192 ntmps192 (by rfl) (by rfl) ?_;intro E H0 K hE hK;have hO:B8 Eq H0 [] H0:=.start H5 rfl;cbv;exact hK _ _ _ hO (V1 call235 (ih235 aA aK aO aM r h))
theorem k193 (N n:Nat)(ih236:Am1 N n):Am6 N (n+1):=by
 intro aK aA aO aM r h
 unfold L7 at h
 refine R4 cf0 M4 func193 (by rfl) (by kernel_rfl) call193 ntmps193 (by rfl) (by rfl) ?_;intro E H0 K hE hK;have hO:B8 Eq H0 [] H0:=.start H5 rfl;cbv;exact hK _ _ _ hO (V1 call236 (ih236 aA aK aO aM r h))
theorem k194 (N n:Nat)(ih238:Am0 N n):Am5 N (n+1):=by
 intro aK aA aO aM r h
 unfold K5 at h
 refine R4 cf0 M4 func194 (by rfl) (by kernel_rfl) call194 ntmps194 (by rfl) (by rfl) ?_;intro E H0 K hE hK;have hO:B8 Eq H0 [] H0:=.start H5 rfl;cbv;exact hK _ _ _ hO (V1 call238 (ih238 aK aA aO aM r h))
theorem k195 (N n:Nat)(ih240:Al8 N n):Am4 N (n+1):=by
 intro aK aA aO aM r h
 unfold F3 at h
 refine R4 cf0 M4 func195 (by rfl) (by kernel_rfl) call195 ntmps195 (by rfl) (by rfl) ?_;intro E H0 K hE hK;have hO:B8 Eq H0 [] H0:=.start H5 rfl;cbv;exact hK _ _ _ hO (V1 call240 (ih240 aK aA aO aM r h))
theorem k233 (N n:Nat)(ih268:Al7 N n):Ad3 N (n+1):=by
 intro aK aA aO aM bX bT cI cJ r h
 unfold K4 at h
 refine R4 cf233 M4 func233 (by rfl) (by kernel_rfl) call233 ntmps233 (by rfl) (by rfl) ?_;intro E H0 K hE hK;have hO:B8 Eq H0 [] H0:=.start H5 rfl;cbv;refine Mq hE cJ ?_;cbv;exact hK _ _ _ hO (V1 call268 (ih268 aK aA aO aM bX bT cI r h))
theorem k234 (N n:Nat)(ih127:Nu N n):Am3 N (n+1):=by
 intro aO aM aL aP r h
 unfold J8 at h
 refine I8 cf0 func234 call234 ntmps234 ?_;intro E H0 K hE hK hO;cbv;refine A4 hE h (ih127 aL aP aO aM) (.refl _) fun r1 h=>?_;cbv;cases h;exact hK hO (.refl _)
theorem k235 (N n:Nat) (ih127:Nu N n):Am2 N (n+1):=by
 intro aH aL aP aS r h
 unfold Q1 at h
 obtain⟨⟨w0,u0⟩,h1,hr⟩:=bind_some h;clear h;have hr:=AL hr;subst hr;have h:=h1;clear h1;refine N8 cf0 M4 func235 (by rfl) (by kernel_rfl) call235 ntmps235 (by rfl) (fun _=>rfl) ?_;intro yv I D hI hD hy tl F E H K hE hO hK hKD
 have hO:B8 (I (List.map (fun(x:(List A1))=>[sr eAr2 x]) (w0++[])++tl)) F [] H:=by rw[append_nil];exact hO
 cbv;refine D4 hE ?_;cbv;obtain⟨w2,w3,s6,hx,h1,he⟩:=Q3 h;clear h;have h:=h1;clear h1
 rw[he,append_assoc]at hO
 clear he;refine Cc cf0 hE M4 (γ:=Unit) (fun s1 g=>[(0,.v (yv)),(2,.v (.eref [.eref (B2 aL) 0] 0)),(3,.v (.eref [sr eAr2 aP] 0)),(4,.v (.eref [vi aS] 0)),(11,.v (sr eAr4 aH.cO)),fi 12 (Ar.len aH.cO),fi 13 s1]) (fun s1 g w H1=>B8 (I (List.map (fun(x:(List A1))=>[sr eAr2 x]) w++tl)) F [] H1) (fun x e l w H1=>e= .exit 0∧l=[]∧B8 (I (List.map (fun(x:(List A1))=>[sr eAr2 x]) w++tl)) F [] H1) (fun e l H1=>(e= .ret∧l=[]∧B8 D F [] H1)) (by kernel_rfl) ?_ (w':=w3++[]) () hx ?_ ?_ ?_ ?_
 ·rintro s1 _ w4 w5 H o hO h;clear hx
  skip
  cbv;refine A8 hE h (fun _ h=>?_) fun _ h=>?_
  ·cbv;refine B9 hE eAr3 h fun x7 h=>?_;cbv;refine A4 hE h (ih127 aL x7 aP aS) (.refl _) fun r8 h=>?_;cbv;refine D4 hE ?_;cbv;obtain⟨w10,w11,s14,hx,h1,he⟩:=Q3 h;clear h;have h:=h1;clear h1
   rw[he,append_assoc]at hO
   clear he;refine Cc cf0 hE M4 (γ:=Unit) (fun s9 g=>[(0,.v (yv)),(2,.v (.eref [.eref (B2 aL) 0] 0)),(3,.v (.eref [sr eAr2 aP] 0)),(4,.v (.eref [vi aS] 0)),(11,.v (sr eAr4 aH.cO)),fi 12 (Ar.len aH.cO),fi 13 s1,(21,.v (sr eAr8 r8)),fi 22 (Ar.len r8),fi 23 s9]) (fun s9 g w H1=>B8 (I (List.map (fun(x:(List A1))=>[sr eAr2 x]) w++tl)) F [] H1) (fun x e l w H1=>e= .exit 2∧l=[(0,.v (yv)),(2,.v (.eref [.eref (B2 aL) 0] 0)),(3,.v (.eref [sr eAr2 aP] 0)),(4,.v (.eref [vi aS] 0)),(11,.v (sr eAr4 aH.cO)),fi 12 (Ar.len aH.cO),fi 13 s1]∧B8 (I (List.map (fun(x:(List A1))=>[sr eAr2 x]) w++tl)) F [] H1) (fun e l H1=>(e= .ret∧l=[]∧B8 D F [] H1)) (by kernel_rfl) ?_ (w':=w11++w5) () hx ?_ ?_ ?_ ?_
   ·rintro s9 _ w12 w13 H o hO h;clear hx
    skip
    cbv;refine A8 hE h (fun _ h=>?_) fun _ h=>?_
    ·cbv;refine B9 hE eAs7 h fun x15 h=>?_;cbv;obtain⟨w16,h1,he⟩:=V3 h;clear h;have h:=h1;clear h1
     rw[he,append_assoc]at hO
     clear he;have hO:B8 (I ([sr eAr2 x15]::(List.map (fun(x:(List A1))=>[sr eAr2 x]) (w16++w13)++tl))) F [] _:=hO;refine DD hE hI hD hy hO (.refl _) (fun H hO=>?_) (fun H hO=>?_)
     ·cbv;refine HW hE (nt_eq _) ?_;cbv;obtain⟨hw,rfl⟩:=C7 h
      rw[←hw]at hO
      exact⟨_,(),rfl,.e2 (.e4 (.e4 .z)),rfl,hO⟩
     clear h;cbv;refine HV hE (nt_eq _) ?_;cbv;exact .inr ⟨_,⟨rfl,rfl,hO⟩,.z,rfl⟩
    cbv;obtain⟨hw,rfl⟩:=C7 h
    rw[←hw]at hO
    exact .inl ⟨_,_,rfl,⟨rfl,rfl,hO⟩,.e rfl (.e2 (.e4 .z)),rfl⟩
   ·exact .e2 (.e4 (.e4 .z))
   ·exact hO
   ·rintro e l H ⟨rfl,rfl,hO⟩;clear hx;cbv;obtain⟨hw,rfl⟩:=C7 h
    rw[←hw]at hO
    exact⟨_,(),rfl,.e rfl (.e2 (.e4 .z)),rfl,hO⟩
   rintro e l H hX;obtain⟨rfl,rfl,hO⟩:=hX;clear h;cbv;exact .inr ⟨_,⟨rfl,rfl,hO⟩,.z,rfl⟩
  cbv;obtain⟨hw,rfl⟩:=C7 h
  rw[←hw]at hO
  exact .inl ⟨_,_,rfl,⟨rfl,rfl,hO⟩,.z,rfl⟩
 ·exact .e rfl (.e2 (.e4 .z))
 ·exact hO
 ·rintro e l H ⟨rfl,rfl,hO⟩;clear hx;cbv;obtain⟨hw,_⟩:=C7 h
  rw[←hw]at hO
  exact hK _ _ _ hO trivial
 rintro e l H hX;obtain⟨rfl,rfl,hO⟩:=hX;clear h;cbv;exact hKD _ _ _ hO trivial
end Go.Ab
