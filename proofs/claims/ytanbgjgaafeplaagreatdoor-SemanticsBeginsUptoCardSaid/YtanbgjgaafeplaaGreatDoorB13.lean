/- GTCo2 GTCo3 -/
import Derived.Test.YtanbgjgaafeplaaGreatDoorB12
set_option linter.all false
open List (append_assoc append_nil)
open Go.Ab.Ar (an lst nt_eq wr)
namespace Go.Ab
open Go.RowKit Go.Proofs Go.Proofs.Tryz J7
variable [Ar][J7]
set_option maxRecDepth 100000
def cf141 :Cf:=⟨[],[(1,9)],[],[],[],[]⟩
theorem c141 (N aM bB r)(h:W1 N aM bB=some r):B2 prog 141 [(DL aM),(DL bB)] (vi r):=by
 unfold W1 at h
 refine K5 cf141 func141 call141 ntmps141 ?_;intro E H0 K hE hK hO;cbv;refine D1 hE (g:=fun r1=>vi r1) h (c139 N aM.Ref bB.Ref) (.refl _) fun r1 h=>?_;cbv;refine A5 hE h (c143 N aM.Var bB.Var) (.refl _) fun r2 h=>?_;cbv;refine A5 hE h (c142 N ([r1,r2])) (.cons (.lit _ (F6 (rfl) (F6 (rfl) (F3)))) (.refl _)) fun r3 h=>?_;cbv;cases h;exact hK hO (.refl _)
theorem c102 (N aC aD r)(h:X3 N aC aD=some r):B2 prog 102 [(Ax aC),(Ax aD)] (vi r):=by
 unfold X3 at h
 refine K5 cf0 func102 call102 ntmps102 ?_;intro E H0 K hE hK hO;cbv;refine A5 hE (g:=fun r1=>vi r1) h (fun r1 hx=>c140 N aC.cR aD.cR (.func (.func 141) [] []) (fun y1 y2=>W1 N y1 y2) (fun y1 y2 r hx=>B2.value (F:=[]) (C:=[]) (c141 N y1 y2 r hx)) r1 hx) (.refl _) fun r1 h=>?_;cbv;cases h;exact hK hO (.refl _)
theorem c156 (N aB r)(h:CS N aB=some r):B2 prog 156 [(X6 aB)] (.bool r):=by
 unfold CS at h
 refine K5 cf0 func156 call156 ntmps156 ?_;intro E H0 K hE hK hO;cbv;cases h;exact hK hO (.refl _)
def cf157 :Cf:=⟨[],[(1,3),(3,14)],[],[],[],[]⟩
theorem c157 (N aC aD r)(h:BB N aC aD=some r):B2 prog 157 [(X6 aC),(X6 aD)] (vi r):=by
 unfold BB at h
 refine K5 cf157 func157 call157 ntmps157 ?_;intro E H0 K hE hK hO;cbv;refine D1 hE (g:=fun r1=>(Ex r1)) h (c96 N aC) (.refl _) fun r1 h=>?_;cbv;refine A5 hE h (c96 N aD) (.refl _) fun r2 h=>?_;cbv;refine A9 hE h (fun _ h=>?_) fun _ h=>?_
 ·cbv;cases h;exact hK hO (.refl _)
 cbv;refine D1 hE (g:=fun r3=>vi r3) h (c143 N aC.Time aD.Time) (.refl _) fun r3 h=>?_;cbv;refine D1 hE (g:=fun r4=>vi r4) h (c143 N aC.Source aD.Source) (.refl _) fun r4 h=>?_;cbv;refine A5 hE h (c143 N aC.Seq aD.Seq) (.refl _) fun r5 h=>?_;cbv;refine A5 hE h (c142 N ([r3,r4,r5])) (.cons (.lit _ (F6 (rfl) (F6 (rfl) (F6 (rfl) (F3))))) (.refl _)) fun r6 h=>?_;cbv;cases h;exact hK hO (.refl _)
def cf158 :Cf:=⟨[2],[],[],[],[],[]⟩
theorem c158 (N aB r)(h:CB N aB=some r):B2 prog 158 [(X6 aB)] ((IT r)):=by
 unfold CB at h
 refine K5 cf158 func158 call158 ntmps158 ?_;intro E H0 K hE hK hO;cbv;refine D0 hE hO fun b1 H hO=>?_;cbv;refine B4 hE hO 0 rfl rfl fun H hO=>?_;cbv;refine B5 hE hO 0 rfl ?_;cbv;cases h;exact hK hO (.refl _)
def cf126 :Cf:=⟨[5],[(9,9)],[],[],[],[]⟩
theorem c126 (N aF r) (h:AZ N aF=some r):B2 prog 126 [sr eAs3 aF] (vi r):=by
 unfold AZ at h
 refine K5 cf126 func126 call126 ntmps126 ?_;intro E H0 K hE hK hO;cbv;refine E5 hE ?_;cbv;refine A9 hE h (fun _ h=>?_) fun _ h=>?_
 ·cbv;cases h;exact hK hO (.refl _)
 cbv;refine Ag1 hE Rn eAt8 V.bool hO fun m1 o2 H ho2 hO=>?_;cbv;refine E5 hE ?_;cbv;obtain⟨s5,hx,h⟩:=bind_some h;refine Bd cf126 hE Q4 (γ:=Obj) (fun s3 g=>[(0,.v (sr eAs3 aF)),(3,.v (.map m1)),(10,.v (sr eAs3 aF)),fi 11 (Ar.len aF),fi 12 s3.1]) (fun s3 g H1=>WN Rn eAt8 V.bool g s3.2∧B7 Eq H0 [.blk m1 (.obj g)] H1) (fun x e l H1=>match(generalizing:=false) x with| .inl y=>∃u1:Obj,WN Rn eAt8 V.bool u1 y∧e= .exit 0∧l=[]∧B7 Eq H0 [.blk m1 (.obj u1)] H1| .inr y=>∃u1:Obj,WN Rn eAt8 V.bool u1 y.2∧e= .ret∧l=[fi 2 y.1]∧B7 Eq H0 [.blk m1 (.obj u1)] H1) (by kernel_rfl) ?_ o2 hx ?_ ?_ ?_
 ·rintro s3 q4 H o ⟨hq4,hO⟩ h;clear hx;cbv;refine A9 hE h (fun _ h=>?_) fun _ h=>?_
  ·cbv;refine C5 hE eAs8 h fun x6 h=>?_;cbv;refine D0 hE hO fun b7 H hO=>?_;cbv;refine B4 hE hO 0 rfl rfl fun H hO=>?_;cbv;refine B5 hE hO 0 rfl ?_;cbv;refine A5 hE h (c156 N x6) (.refl _) fun r8 h=>?_;cbv;refine A9 hE h (fun _ h=>?_) fun _ h=>?_
   ·cbv;cases h;exact⟨_,_,rfl,⟨q4,hq4,rfl,rfl,hO.tail⟩,.e rfl .z,rfl⟩
   cbv;refine A9 hE h (fun _ h=>?_) fun _ h=>?_
   ·cbv;refine C5 hE eAs8 h fun x9 h=>?_;cbv;refine B5 hE hO 0 rfl ?_;cbv;refine A5 hE h (c157 N x9 x6) (.refl _) fun r10 h=>?_;cbv;refine A9 hE h (fun _ h=>?_) fun _ h=>?_
    ·cbv;cases h;exact⟨_,_,rfl,⟨q4,hq4,rfl,rfl,hO.tail⟩,.e rfl .z,rfl⟩
    cbv;refine B5 hE hO 0 rfl ?_;cbv;refine A5 hE h (c158 N x6) (.refl _) fun r11 h=>?_;cbv;refine XZ (eAu0 r11) ?_;refine Ta hE (kt:=212) (et:=4) (by kernel_rfl) (by kernel_rfl) UA (false:Bool) (by kernel_rfl) rfl hO hq4 1 rfl h fun r12 h=>?_;cbv;refine A9 hE h (fun _ h=>?_) fun _ h=>?_
    ·cbv;cases h;exact⟨_,_,rfl,⟨q4,hq4,rfl,rfl,hO.tail⟩,.e rfl .z,rfl⟩
    cbv;refine B5 hE hO 0 rfl ?_;cbv;refine A5 hE h (c158 N x6) (.refl _) fun r13 h=>?_;cbv;refine Ux (eAu0 r13) ?_;refine SZ hE (kt:=212) (et:=4) (by kernel_rfl) (by kernel_rfl) UA JR hO hq4 1 rfl h fun l15 o14 H ho14 h hO=>?_;cbv;cases h;exact⟨_,o14,rfl,.e rfl (.e4 .z),rfl,ho14,hO.tail⟩
   cbv;refine B5 hE hO 0 rfl ?_;cbv;refine A5 hE h (c158 N x6) (.refl _) fun r16 h=>?_;cbv;refine XZ (eAu0 r16) ?_;refine Ta hE (kt:=212) (et:=4) (by kernel_rfl) (by kernel_rfl) UA (false:Bool) (by kernel_rfl) rfl hO hq4 1 rfl h fun r17 h=>?_;cbv;refine A9 hE h (fun _ h=>?_) fun _ h=>?_
   ·cbv;cases h;exact⟨_,_,rfl,⟨q4,hq4,rfl,rfl,hO.tail⟩,.e rfl .z,rfl⟩
   cbv;refine B5 hE hO 0 rfl ?_;cbv;refine A5 hE h (c158 N x6) (.refl _) fun r18 h=>?_;cbv;refine Ux (eAu0 r18) ?_;refine SZ hE (kt:=212) (et:=4) (by kernel_rfl) (by kernel_rfl) UA JR hO hq4 1 rfl h fun l20 o19 H ho19 h hO=>?_;cbv;cases h;exact⟨_,o19,rfl,.e rfl (.e4 .z),rfl,ho19,hO.tail⟩
  cbv;cases h;exact⟨_,_,rfl,⟨q4,hq4,rfl,rfl,hO⟩,.z,rfl⟩
 ·exact .e rfl (.e4 .z)
 ·exact⟨ho2,hO⟩
 clear hx
 rcases s5 with y21|y23
 ·rintro e l H ⟨q22,hq22,rfl,rfl,hO⟩;cbv;cases h;exact hK hO (.refl _)
 rintro e l H ⟨q24,hq24,rfl,rfl,hO⟩;cbv;cases h;exact hK hO (.refl _)
def cf159 :Cf:=⟨[0],[],[],[],[],[]⟩
theorem c159 (N r)(h:AA N=some r):B2 prog 159 [] (.agg [.func (.func 190) [] [],.func (.func 191) [] [],.func (.func 192) [] [],.func (.func 193) [] [],.func (.func 194) [] [],.func (.func 195) [] [],.func (.func 195) [] [],.func (.func 195) [] []]):=by
 unfold AA at h
 refine K5 cf159 func159 call159 ntmps159 ?_;intro E H0 K hE hK hO;cbv;refine D0 hE hO fun b1 H hO=>?_;cbv;refine B4 hE hO 0 rfl rfl fun H hO=>?_;cbv;refine B5 hE hO 0 rfl ?_;cbv;cases h;exact hK hO (.refl _)
theorem c291 (N aV r)(h:EX N aV=some r):B2 prog 291 [vi aV] (.str r):=RK Go.Proofs.Tryz.laysNm283 call291 h
theorem c273 (N aZ aV aX r) (h:U9 N aZ aV aX=some r):Nc prog 273 [.int .u64 aV,vi aX] 1 (lst (V.int .u8) aZ) (lst (V.int .u8) r):=by
 unfold U9 at h
 intro H0 q0 hq0 hk0;refine HD (T:=TT) (F:=upd H0 q0.id none) cf0 Q4 func273 (by rfl) (by kernel_rfl) call273 ntmps273 (by rfl) (by rfl) ?_;intro E K hE hK hN;have hO:B7 Eq (upd H0 q0.id none) [ob q0 1 (V.int .u8) aZ] H0:=B7.startO hk0;have hq0:CN q0 (Ar.len aZ):=KX hq0;cbv;refine A9 hE h (fun _ h=>?_) fun _ h=>?_
 ·cbv;refine A9 hE h (fun _ h=>?_) fun _ h=>?_
  ·cbv;refine A5 hE h (c291 N (wr .i64 aV)) (.refl _) fun r1 h=>?_;cbv;refine Aa3 hE (by decide) hO hq0 0 rfl h fun l3 q2 H hq2 hO h=>?_;cbv;cases h;exact hK q2 _ _ (Ch hE hq2) (hO)
  cbv;cases h
 cbv;cases h
theorem c242 (N aZ aV aX r)(h:X8 N aZ aV aX=some r):Nc prog 242 [vi aV,vi aX] 1 (lst (V.int .u8) aZ) (lst (V.int .u8) r):=by
 unfold X8 at h
 intro H0 q0 hq0 hk0;refine HD (T:=TT) (F:=upd H0 q0.id none) cf0 Q4 func242 (by rfl) (by kernel_rfl) call242 ntmps242 (by rfl) (by rfl) ?_;intro E K hE hK hN;have hO:B7 Eq (upd H0 q0.id none) [ob q0 1 (V.int .u8) aZ] H0:=B7.startO hk0;have hq0:CN q0 (Ar.len aZ):=KX hq0;cbv;refine A9 hE h (fun _ h=>?_) fun _ h=>?_
 ·cbv;refine GO (f:=(V.int .u8)) hE (fun _=>rfl) (by decide) hO hq0 0 rfl (m:=[45]) (GB (f:=(V.int .u8)) hE (fun _=>rfl) (.lstc (.refl _) (.lst0))) h fun l2 q1 H hq1 hO h=>?_;cbv;refine Fq hE (f:=(V.int .u8)) hO hq1 0 rfl h (c273 N l2 (Ar.neg .u64 (wr .u64 aV)) aX) (.refl _) fun l3 q4 H hq4 hO h=>?_;cbv;cases h;exact hK q4 _ _ (Ch hE hq4) (hO)
 cbv;refine Fq hE (f:=(V.int .u8)) hO hq0 0 rfl h (c273 N aZ (wr .u64 aV) aX) (.refl _) fun l5 q6 H hq6 hO h=>?_;cbv;cases h;exact hK q6 _ _ (Ch hE hq6) (hO)
theorem c196 (N aZ aV aX r)(h:F4 N aZ aV aX=some r):Nc prog 196 [vi aV,vi aX] 1 (lst (V.int .u8) aZ) (lst (V.int .u8) r):=by
 unfold F4 at h
 intro H0 q0 hq0 hk0;refine HD (T:=TT) (F:=upd H0 q0.id none) cf0 Q4 func196 (by rfl) (by kernel_rfl) call196 ntmps196 (by rfl) (by rfl) ?_;intro E K hE hK hN;have hO:B7 Eq (upd H0 q0.id none) [ob q0 1 (V.int .u8) aZ] H0:=B7.startO hk0;have hq0:CN q0 (Ar.len aZ):=KX hq0;cbv;refine Fq hE (f:=(V.int .u8)) hO hq0 0 rfl h (c242 N aZ aV aX) (.refl _) fun l1 q2 H hq2 hO h=>?_;cbv;cases h;exact hK q2 _ _ (Ch hE hq2) (hO)
def cf160 :Cf:=⟨[6000003],[(3000006,0),(3000006,3),(3000006,4),(3000006,8)],[],[2000006],[],[]⟩
set_option maxHeartbeats 2000000 in
theorem c160 (N aH r) (h:M4 N aH=some r):B2 prog 160 [sr eAs1 aH] (.str r):=by
 unfold M4 at h
 refine K5 cf160 func160 call160 ntmps160 ?_;intro E H0 K hE hK hO;cbv;refine JQ hE (f:=(V.int .u8)) hO fun q1 H hq1 hO=>?_;cbv;refine E5 hE ?_;cbv;obtain⟨s4,hx,h⟩:=bind_some h;refine Bd cf160 hE Q4 (γ:=OG) (fun s2 g=>[(3,.v (.own g.id g.lo g.n)),(6,.v (sr eAs1 aH)),fi 7 (Ar.len aH),fi 8 s2.1]) (fun s2 g H1=>CN g (Ar.len s2.2)∧B7 Eq H0 [ob g 1 (V.int .u8) s2.2] H1) (fun x e l H1=>∃u1:OG,CN u1 (Ar.len x)∧e= .exit 0∧l=[(3,.v (.own u1.id u1.lo u1.n))]∧B7 Eq H0 [ob u1 1 (V.int .u8) x] H1) (by kernel_rfl) ?_ q1 hx ?_ ?_ ?_
 ·rintro s2 q3 H o ⟨hq3,hO⟩ h;clear hx;cbv;refine A9 hE h (fun _ h=>?_) fun _ h=>?_
  ·cbv;refine C5 hE eAt4 h fun x5 h=>?_;cbv;refine Fq hE (f:=(V.int .u8)) hO hq3 0 rfl h (c196 N s2.2 x5.cV 10) (.refl _) fun l6 q7 H hq7 hO h=>?_;cbv;obtain⟨s8,hx,h⟩:=bind_some h;refine Z8 cf160 hE Q4 (fun e l H1=>∃u1:OG,CN u1 (Ar.len s8)∧e= .normal∧l=[(3,.v (.own u1.id u1.lo u1.n)),(6,.v (sr eAs1 aH)),fi 7 (Ar.len aH),fi 8 s2.1]∧B7 Eq H0 [ob u1 1 (V.int .u8) s8] H1) (by kernel_rfl) ?_ ?_
   ·clear h;have h:=hx;clear hx;cbv
    repeat' first|refine And.intro ?_ ?_|(refine GO (f:=(V.int .u8)) hE (fun _=>rfl) (by decide) hO hq7 0 rfl (m:=[64]) (GB (f:=(V.int .u8)) hE (fun _=>rfl) (.lstc (.refl _) (.lst0))) h fun l90 q89 H hq89 hO h=>?_;cbv)|(refine Fq hE (f:=(V.int .u8)) hO hq89 0 rfl h (c196 N l90 x5.at_ 10) (.refl _) fun l209 q210 H hq210 hO h=>?_;cbv)|(refine GO (f:=(V.int .u8)) hE (fun _=>rfl) (by decide) hO hq210 0 rfl (m:=[32]) (GB (f:=(V.int .u8)) hE (fun _=>rfl) (.lstc (.refl _) (.lst0))) h fun l290 q289 H hq289 hO h=>?_;cbv)|(have h:=AP h;subst h;exact⟨_,⟨q289,hq289,rfl,rfl,hO⟩,.e4 .z,rfl⟩)
   clear hx;rintro e l H ⟨q409,hq409,rfl,rfl,hO⟩;cbv;cases h;exact⟨_,q409,rfl,.e4 .z,rfl,hq409,hO⟩
  cbv;cases h;exact⟨_,_,rfl,⟨q3,hq3,rfl,rfl,hO⟩,.e rfl .z,rfl⟩
 ·exact .e4 .z
 ·exact⟨hq1,hO⟩
 clear hx;rintro e l H ⟨q410,hq410,rfl,rfl,hO⟩;cbv;refine Aj3 (e:=5) hE (by kernel_rfl) (by kernel_rfl) (by kernel_rfl) hO hq410 0 rfl h fun r411 h=>?_;cbv;cases h;exact hK hO (.refl _)
def cf307 :Cf:=⟨[2],[],[],[],[],[]⟩
theorem c307 (N aT r)(h:O5 N aT=some r):B2 prog 307 [vi aT] ((D3 r)):=by
 unfold O5 at h
 refine K5 cf307 func307 call307 ntmps307 ?_;intro E H0 K hE hK hO;cbv;refine D0 hE hO fun b1 H hO=>?_;cbv;refine B4 hE hO 0 rfl rfl fun H hO=>?_;cbv;refine B5 hE hO 0 rfl ?_;cbv;cases h;exact hK hO (.refl _)
def cf308 :Cf:=⟨[5],[],[],[],[],[]⟩
theorem c308 (N:Nat)(aC:Int)(aD:Int)(bZ:V)(aJ:Int→Option A6)(cH:∀y1 q,aJ y1=some q→R9 prog bZ [vi y1] ((D3 q)))(r:A6)(h:AJ N aC aD aJ=some r):B2 prog 308 [vi aC,vi aD,.eref [bZ] 0] ((D3 r)):=by
 unfold AJ at h
 refine K5 cf308 func308 call308 ntmps308 ?_;intro E H0 K hE hK hO;cbv;refine D0 hE hO fun b1 H hO=>?_;cbv;refine Y0 hE (g:=fun r2=>(D3 r2)) h (fun r2 hx=>cH (Ar.ar .add .i64 aC aD) r2 hx) (.refl _) fun r2 h=>?_;cbv;refine B4 hE hO 0 rfl rfl fun H hO=>?_;cbv;refine B5 hE hO 0 rfl ?_;cbv;cases h;exact hK hO (.refl _)
def cf309 :Cf:=⟨[5],[],[],[],[],[]⟩
theorem c309 (N:Nat)(aC:Int)(aD:Int)(bZ:V)(aJ:Int→Option A6)(cH:∀y1 q,aJ y1=some q→R9 prog bZ [vi y1] ((D3 q)))(r:A6)(h:AI N aC aD aJ=some r):B2 prog 309 [vi aC,vi aD,.eref [bZ] 0] ((D3 r)):=by
 unfold AI at h
 refine K5 cf309 func309 call309 ntmps309 ?_;intro E H0 K hE hK hO;cbv;refine D0 hE hO fun b1 H hO=>?_;cbv;refine Y0 hE (g:=fun r2=>(D3 r2)) h (fun r2 hx=>cH (Ar.ar .sub .i64 aC aD) r2 hx) (.refl _) fun r2 h=>?_;cbv;refine B4 hE hO 0 rfl rfl fun H hO=>?_;cbv;refine B5 hE hO 0 rfl ?_;cbv;cases h;exact hK hO (.refl _)
def cf299 :Cf:=⟨[2,3],[],[],[],[],[]⟩
theorem c299 (N aD r)(h:FH N aD=some r):B2 prog 299 [.bool aD] ((D3 r)):=by
 unfold FH at h
 refine K5 cf299 func299 call299 ntmps299 ?_;intro E H0 K hE hK hO;cbv;refine D0 hE hO fun b1 H hO=>?_;cbv;refine D0 hE hO fun b2 H hO=>?_;cbv;refine B4 hE hO 0 rfl rfl fun H hO=>?_;cbv;refine A9 hE h (fun _ h=>?_) fun _ h=>?_
 ·cbv;refine B4 hE hO 0 rfl rfl fun H hO=>?_;cbv;refine B5 hE hO 0 rfl ?_;cbv;refine B4 hE hO 1 rfl rfl fun H hO=>?_;cbv;refine B5 hE hO 1 rfl ?_;cbv;cases h;exact hK hO (.refl _)
 cbv;refine B5 hE hO 0 rfl ?_;cbv;refine B4 hE hO 1 rfl rfl fun H hO=>?_;cbv;refine B5 hE hO 1 rfl ?_;cbv;cases h;exact hK hO (.refl _)
def cf285 :Cf:=⟨[2],[],[],[],[],[]⟩
theorem c285 (N aD r)(h:Y9 N aD=some r):B2 prog 285 [.bool aD] ((D3 r)):=by
 unfold Y9 at h
 refine K5 cf285 func285 call285 ntmps285 ?_;intro E H0 K hE hK hO;cbv;refine D0 hE hO fun b1 H hO=>?_;cbv;refine A5 hE h (c299 N aD) (.refl _) fun r2 h=>?_;cbv;refine B4 hE hO 0 rfl rfl fun H hO=>?_;cbv;refine B5 hE hO 0 rfl ?_;cbv;cases h;exact hK hO (.refl _)
def cf310 :Cf:=⟨[4],[],[],[],[],[]⟩
theorem c310 (N aC aD r)(h:AH N aC aD=some r):B2 prog 310 [vi aC,vi aD] ((D3 r)):=by
 unfold AH at h
 refine K5 cf310 func310 call310 ntmps310 ?_;intro E H0 K hE hK hO;cbv;refine D0 hE hO fun b1 H hO=>?_;cbv;refine A5 hE h (c285 N (Ar.cmp .lss aC aD)) (.refl _) fun r2 h=>?_;cbv;refine B4 hE hO 0 rfl rfl fun H hO=>?_;cbv;refine B5 hE hO 0 rfl ?_;cbv;cases h;exact hK hO (.refl _)
def cf311 :Cf:=⟨[4],[],[],[],[],[]⟩
theorem c311 (N aC aD r)(h:AF N aC aD=some r):B2 prog 311 [vi aC,vi aD] ((D3 r)):=by
 unfold AF at h
 refine K5 cf311 func311 call311 ntmps311 ?_;intro E H0 K hE hK hO;cbv;refine D0 hE hO fun b1 H hO=>?_;cbv;refine A5 hE h (c285 N (Ar.cmp .leq aC aD)) (.refl _) fun r2 h=>?_;cbv;refine B4 hE hO 0 rfl rfl fun H hO=>?_;cbv;refine B5 hE hO 0 rfl ?_;cbv;cases h;exact hK hO (.refl _)
def cf312 :Cf:=⟨[4],[],[],[],[],[]⟩
theorem c312 (N aC aD r)(h:AE N aC aD=some r):B2 prog 312 [vi aC,vi aD] ((D3 r)):=by
 unfold AE at h
 refine K5 cf312 func312 call312 ntmps312 ?_;intro E H0 K hE hK hO;cbv;refine D0 hE hO fun b1 H hO=>?_;cbv;refine A5 hE h (c285 N (an (Ar.cmp .eql aC 1) (Ar.cmp .eql aD 1))) (.refl _) fun r2 h=>?_;cbv;refine B4 hE hO 0 rfl rfl fun H hO=>?_;cbv;refine B5 hE hO 0 rfl ?_;cbv;cases h;exact hK hO (.refl _)
def cf313 :Cf:=⟨[4],[],[],[],[],[]⟩
theorem c313 (N aC aD r)(h:AD N aC aD=some r):B2 prog 313 [vi aC,vi aD] ((D3 r)):=by
 unfold AD at h
 refine K5 cf313 func313 call313 ntmps313 ?_;intro E H0 K hE hK hO;cbv;refine D0 hE hO fun b1 H hO=>?_;cbv;refine A5 hE h (c285 N (Ar.or (Ar.cmp .eql aC 1) (Ar.cmp .eql aD 1))) (.refl _) fun r2 h=>?_;cbv;refine B4 hE hO 0 rfl rfl fun H hO=>?_;cbv;refine B5 hE hO 0 rfl ?_;cbv;cases h;exact hK hO (.refl _)
def cf314 :Cf:=⟨[4],[],[],[],[],[]⟩
theorem c314 (N aC aG r)(h:AC N aC aG=some r):B2 prog 314 [vi aC,vi aG] ((D3 r)):=by
 unfold AC at h
 refine K5 cf314 func314 call314 ntmps314 ?_;intro E H0 K hE hK hO;cbv;refine D0 hE hO fun b1 H hO=>?_;cbv;refine A5 hE h (c285 N (Ar.cmp .neq aC 1)) (.refl _) fun r2 h=>?_;cbv;refine B4 hE hO 0 rfl rfl fun H hO=>?_;cbv;refine B5 hE hO 0 rfl ?_;cbv;cases h;exact hK hO (.refl _)
theorem c297 (N r)(h:Gl N=some r):TU prog 297 [] YI YH:=by
 unfold Gl at h
 refine TK (T:=TT) cf0 Q4 func297 (by rfl) (by kernel_rfl) call297 ntmps297 (by rfl) (by rfl) ?_;intro E H0 K hE hK;have hO:B7 Eq H0 [] H0:=.start G0 rfl;cbv;refine Ap4 hE hO fun m1 H hO=>?_;cbv;refine Iu hE (kt:=3) (et:=338) (by kernel_rfl) (by kernel_rfl) hO 0 rfl rfl fun H hO=>?_;cbv;refine Iu hE (kt:=3) (et:=338) (by kernel_rfl) (by kernel_rfl) hO 0 rfl rfl fun H hO=>?_;cbv;refine Iu hE (kt:=3) (et:=338) (by kernel_rfl) (by kernel_rfl) hO 0 rfl rfl fun H hO=>?_;cbv;refine Iu hE (kt:=3) (et:=338) (by kernel_rfl) (by kernel_rfl) hO 0 rfl rfl fun H hO=>?_;cbv;refine Iu hE (kt:=3) (et:=338) (by kernel_rfl) (by kernel_rfl) hO 0 rfl rfl fun H hO=>?_;cbv;refine Iu hE (kt:=3) (et:=338) (by kernel_rfl) (by kernel_rfl) hO 0 rfl rfl fun H hO=>?_;cbv;refine Iu hE (kt:=3) (et:=338) (by kernel_rfl) (by kernel_rfl) hO 0 rfl rfl fun H hO=>?_;cbv;exact hK _ _ 0 _ rfl hO
theorem c327 (N aM aK r)(h:M7 N aM aK=some r):B2 prog 327 [(AY aM),vi aK] (sr eAs3 r):=by
 unfold M7 at h
 refine K5 cf0 func327 call327 ntmps327 ?_;intro E H0 K hE hK hO;cbv;refine E5 hE ?_;cbv;refine A9 hE h (fun _ h=>?_) fun _ h=>?_
 ·cbv;cases h;exact hK hO (.lit _ (F3))
 cbv;refine C5 hE eAu4 h fun x1 h=>?_;cbv;cases h;exact hK hO (.refl _)
def cf329 :Cf:=⟨[4],[],[],[],[],[]⟩
theorem c329 (N aB bJ r)(h:Ac N aB bJ=some r):B2 prog 329 [(X6 aB),vi bJ] (.tup [(D3 r.1),vi r.2]):=by
 unfold Ac at h
 refine K5 cf329 func329 call329 ntmps329 ?_;intro E H0 K hE hK hO;cbv;refine D0 hE hO fun b1 H hO=>?_;cbv;refine E5 hE ?_;cbv;refine A9 hE h (fun _ h=>?_) fun _ h=>?_
 ·cbv;refine B4 hE hO 0 rfl rfl fun H hO=>?_;cbv;refine B5 hE hO 0 rfl ?_;cbv;cases h;exact hK hO (.refl _)
 cbv;refine C5 hE eAs7 h fun x2 h=>?_;cbv;refine B4 hE hO 0 rfl rfl fun H hO=>?_;cbv;refine B5 hE hO 0 rfl ?_;cbv;cases h;exact hK hO (.refl _)
theorem c335 (N aQ r)(h:W2 N aQ=some r):B2 prog 335 [vi aQ] (.bool r):=by
 unfold W2 at h
 refine K5 cf0 func335 call335 ntmps335 ?_;intro E H0 K hE hK hO;cbv;cases h;exact hK hO (.refl _)
theorem c342 (N aQ aK r)(h:S6 N aQ aK=some r):B2 prog 342 [vi aQ,(D3 aK)] (.bool r):=by
 unfold S6 at h
 refine K5 cf0 func342 call342 ntmps342 ?_;intro E H0 K hE hK hO;cbv;cases h;exact hK hO (.refl _)
theorem c336 (N aQ aK r)(h:N0 N aQ aK=some r):B2 prog 336 [vi aQ,(D3 aK)] (vi r):=by
 unfold N0 at h
 refine K5 cf0 func336 call336 ntmps336 ?_;intro E H0 K hE hK hO;cbv;refine A5 hE h (c275 N aK) (.refl _) fun r1 h=>?_;cbv;refine A9 hE h (fun _ h=>?_) fun _ h=>?_
 ·cbv;cases h;exact hK hO (.refl _)
 cbv;refine A5 hE h (c342 N aQ aK) (.refl _) fun r2 h=>?_;cbv;refine A9 hE h (fun _ h=>?_) fun _ h=>?_
 ·cbv;cases h;exact hK hO (.refl _)
 cbv;cases h;exact hK hO (.refl _)
def cf337 :Cf:=⟨[3,6],[],[],[],[],[]⟩
theorem c337 (N:Nat) (cB:C8) (aF:List A6) (cI:V) (cC:C8→A6→Option C8) (cP:∀y1 y2 q,cC y1 y2=some q→R9 prog cI [(J5 y1),(D3 y2)] ((J5 q))) (r:C8) (h:F9 N cB aF cC=some r):B2 prog 337 [(J5 cB),sr eAs9 aF,cI] ((J5 r)):=by
 unfold F9 at h
 refine K5 cf337 func337 call337 ntmps337 ?_;intro E H0 K hE hK hO;cbv;refine D0 hE hO fun b1 H hO=>?_;cbv;refine D0 hE hO fun b2 H hO=>?_;cbv;refine E5 hE ?_;cbv;obtain⟨s4,hx,h⟩:=bind_some h;refine G6 cf337 hE Q4 (fun s3=>[(2,.v (cI)),(3,.v (.ref b1 0)),(6,.v (.ref b2 0)),(9,.v (sr eAs9 aF)),fi 10 (Ar.len aF),fi 11 s3.1]) (fun(s3:Int×C8) H1=>B7 Eq H0 [cb b2 [vi 0,vi 0,vi 0,vi 0,.str (⟨#[]⟩)],cb b1 (Fd s3.2)] H1) (fun x e l H1=>e= .exit 0∧l=[(3,.v (.ref b1 0)),(6,.v (.ref b2 0))]∧B7 Eq H0 [cb b2 [vi 0,vi 0,vi 0,vi 0,.str (⟨#[]⟩)],cb b1 (Fd x)] H1) (by kernel_rfl) ?_ hx ?_ hO ?_
 ·intro s3 H o hO h;clear hx;cbv;refine A9 hE h (fun _ h=>?_) fun _ h=>?_
  ·cbv;refine C5 hE eAs7 h fun x5 h=>?_;cbv;refine B5 hE hO 1 rfl ?_;cbv;refine Y0 hE (g:=fun r6=>(J5 r6)) h (fun r6 hx=>cP s3.2 x5 r6 hx) (.refl _) fun r6 h=>?_;cbv;refine B4 hE hO 1 rfl rfl fun H hO=>?_;cbv;cases h;exact⟨_,rfl,.e2 (.e4 .z),rfl,hO⟩
  cbv;cases h;exact⟨_,_,rfl,⟨rfl,rfl,hO⟩,.e2 .z,rfl⟩
 ·exact .e2 (.e4 .z)
 clear hx;rintro e l H ⟨rfl,rfl,hO⟩;cbv;refine B5 hE hO 1 rfl ?_;cbv;refine B4 hE hO 0 rfl rfl fun H hO=>?_;cbv;refine B5 hE hO 0 rfl ?_;cbv;cases h;exact hK hO (.refl _)
def cf345 :Cf:=⟨[0],[],[],[],[],[]⟩
theorem c345 (N r)(h:Bt N=some r):B2 prog 345 [] ((D3 r)):=by
 unfold Bt at h
 refine K5 cf345 func345 call345 ntmps345 ?_;intro E H0 K hE hK hO;cbv;refine D0 hE hO fun b1 H hO=>?_;cbv;refine B4 hE hO 0 rfl rfl fun H hO=>?_;cbv;refine B5 hE hO 0 rfl ?_;cbv;cases h;exact hK hO (.refl _)
def cf346 :Cf:=⟨[2],[],[],[],[],[]⟩
theorem c346 (N aY aG r)(h:Bs N aY aG=some r):B2 prog 346 [.eref (P3 aY) 0,.eref (P3 aG) 0] ((D3 r)):=by
 unfold Bs at h
 refine K5 cf346 func346 call346 ntmps346 ?_;intro E H0 K hE hK hO;cbv;refine D0 hE hO fun b1 H hO=>?_;cbv;refine B4 hE hO 0 rfl rfl fun H hO=>?_;cbv;refine B5 hE hO 0 rfl ?_;cbv;cases h;exact hK hO (.refl _)
def cf347 :Cf:=⟨[2],[],[],[],[],[]⟩
theorem c347 (N aY aG r)(h:Br N aY aG=some r):B2 prog 347 [.eref (P3 aY) 0,.eref (P3 aG) 0] ((D3 r)):=by
 unfold Br at h
 refine K5 cf347 func347 call347 ntmps347 ?_;intro E H0 K hE hK hO;cbv;refine D0 hE hO fun b1 H hO=>?_;cbv;refine B4 hE hO 0 rfl rfl fun H hO=>?_;cbv;refine B5 hE hO 0 rfl ?_;cbv;cases h;exact hK hO (.refl _)
def cf348 :Cf:=⟨[2],[],[],[],[],[]⟩
theorem c348 (N aY aG r)(h:Bq N aY aG=some r):B2 prog 348 [.eref (P3 aY) 0,.eref (P3 aG) 0] ((D3 r)):=by
 unfold Bq at h
 refine K5 cf348 func348 call348 ntmps348 ?_;intro E H0 K hE hK hO;cbv;refine D0 hE hO fun b1 H hO=>?_;cbv;refine B4 hE hO 0 rfl rfl fun H hO=>?_;cbv;refine B5 hE hO 0 rfl ?_;cbv;cases h;exact hK hO (.refl _)
def cf349 :Cf:=⟨[1],[],[],[],[],[]⟩
theorem c349 (N aY r)(h:Bp N aY=some r):B2 prog 349 [.eref (P3 aY) 0] ((D3 r)):=by
 unfold Bp at h
 refine K5 cf349 func349 call349 ntmps349 ?_;intro E H0 K hE hK hO;cbv;refine D0 hE hO fun b1 H hO=>?_;cbv;refine B4 hE hO 0 rfl rfl fun H hO=>?_;cbv;refine B5 hE hO 0 rfl ?_;cbv;cases h;exact hK hO (.refl _)
def cf350 :Cf:=⟨[1],[],[],[],[],[]⟩
theorem c350 (N aY r)(h:Bo N aY=some r):B2 prog 350 [.eref (P3 aY) 0] ((D3 r)):=by
 unfold Bo at h
 refine K5 cf350 func350 call350 ntmps350 ?_;intro E H0 K hE hK hO;cbv;refine D0 hE hO fun b1 H hO=>?_;cbv;refine B4 hE hO 0 rfl rfl fun H hO=>?_;cbv;refine B5 hE hO 0 rfl ?_;cbv;cases h;exact hK hO (.refl _)
def cf343 :Cf:=⟨[6],[],[],[],[],[]⟩
theorem c343 (N aQ aC aD r)(h:X0 N aQ aC aD=some r):B2 prog 343 [vi aQ,(D3 aC),(D3 aD)] ((D3 r)):=by
 unfold X0 at h
 refine K5 cf343 func343 call343 ntmps343 ?_;intro E H0 K hE hK hO;cbv;refine D0 hE hO fun b1 H hO=>?_;cbv;refine Aa7 hE [0,1,2,3,4,5] (by rfl) ?_;cbv;refine A9 hE h (fun _ h=>?_) fun _ h=>?_
 ·cbv;refine A5 hE h (c345 N) (.refl _) fun r2 h=>?_;cbv;refine B4 hE hO 0 rfl rfl fun H hO=>?_;cbv;refine B5 hE hO 0 rfl ?_;cbv;cases h;exact hK hO (.refl _)
 cbv;refine A9 hE h (fun _ h=>?_) fun _ h=>?_
 ·cbv;refine Y0 hE (g:=fun r3=>(D3 r3)) h (fun r3 hx=>B2.value (F:=[]) (C:=[.eref (P3 aC) 0,.eref (P3 aD) 0]) (c346 N aC aD r3 hx)) (.refl _) fun r3 h=>?_;cbv;refine B4 hE hO 0 rfl rfl fun H hO=>?_;cbv;refine B5 hE hO 0 rfl ?_;cbv;cases h;exact hK hO (.refl _)
 cbv;refine A9 hE h (fun _ h=>?_) fun _ h=>?_
 ·cbv;refine Y0 hE (g:=fun r4=>(D3 r4)) h (fun r4 hx=>B2.value (F:=[]) (C:=[.eref (P3 aC) 0,.eref (P3 aD) 0]) (c347 N aC aD r4 hx)) (.refl _) fun r4 h=>?_;cbv;refine B4 hE hO 0 rfl rfl fun H hO=>?_;cbv;refine B5 hE hO 0 rfl ?_;cbv;cases h;exact hK hO (.refl _)
 cbv;refine A9 hE h (fun _ h=>?_) fun _ h=>?_
 ·cbv;refine Y0 hE (g:=fun r5=>(D3 r5)) h (fun r5 hx=>B2.value (F:=[]) (C:=[.eref (P3 aC) 0,.eref (P3 aD) 0]) (c348 N aC aD r5 hx)) (.refl _) fun r5 h=>?_;cbv;refine B4 hE hO 0 rfl rfl fun H hO=>?_;cbv;refine B5 hE hO 0 rfl ?_;cbv;cases h;exact hK hO (.refl _)
 cbv;refine A9 hE h (fun _ h=>?_) fun _ h=>?_
 ·cbv;refine Y0 hE (g:=fun r6=>(D3 r6)) h (fun r6 hx=>B2.value (F:=[]) (C:=[.eref (P3 aC) 0]) (c349 N aC r6 hx)) (.refl _) fun r6 h=>?_;cbv;refine B4 hE hO 0 rfl rfl fun H hO=>?_;cbv;refine B5 hE hO 0 rfl ?_;cbv;cases h;exact hK hO (.refl _)
 cbv;refine A9 hE h (fun _ h=>?_) fun _ h=>?_
 ·cbv;refine Y0 hE (g:=fun r7=>(D3 r7)) h (fun r7 hx=>B2.value (F:=[]) (C:=[.eref (P3 aD) 0]) (c350 N aD r7 hx)) (.refl _) fun r7 h=>?_;cbv;refine B4 hE hO 0 rfl rfl fun H hO=>?_;cbv;refine B5 hE hO 0 rfl ?_;cbv;cases h;exact hK hO (.refl _)
 cbv;cases h
def cf339 :Cf:=⟨[4],[(5,14)],[],[],[],[]⟩
theorem c339 (N aC aD r)(h:Bi N aC aD=some r):B2 prog 339 [(J5 aC),(J5 aD)] ((J5 r)):=by
 unfold Bi at h
 refine K5 cf339 func339 call339 ntmps339 ?_;intro E H0 K hE hK hO;cbv;refine D0 hE hO fun b1 H hO=>?_;cbv;refine A9 hE h (fun _ h=>?_) fun _ h=>?_
 ·cbv;refine B4 hE hO 0 rfl rfl fun H hO=>?_;cbv;refine B5 hE hO 0 rfl ?_;cbv;cases h;exact hK hO (.refl _)
 cbv;refine A9 hE h (fun _ h=>?_) fun _ h=>?_
 ·cbv;refine B4 hE hO 0 rfl rfl fun H hO=>?_;cbv;refine B5 hE hO 0 rfl ?_;cbv;cases h;exact hK hO (.refl _)
 cbv;refine D1 hE (g:=fun r2=>(D3 r2)) h (c343 N aC.Kind aC.Value aD.Value) (.refl _) fun r2 h=>?_;cbv;refine B4 hE hO 0 rfl rfl fun H hO=>?_;cbv;refine B5 hE hO 0 rfl ?_;cbv;cases h;exact hK hO (.refl _)
def cf340 :Cf:=⟨[4],[],[],[],[],[]⟩
theorem c340 (N aQ aK r)(h:Z1 N aQ aK=some r):B2 prog 340 [vi aQ,(D3 aK)] ((D3 r)):=by
 unfold Z1 at h
 refine K5 cf340 func340 call340 ntmps340 ?_;intro E H0 K hE hK hO;cbv;refine D0 hE hO fun b1 H hO=>?_;cbv;refine A9 hE h (fun _ h=>?_) fun _ h=>?_
 ·cbv;refine B4 hE hO 0 rfl rfl fun H hO=>?_;cbv;refine B5 hE hO 0 rfl ?_;cbv;cases h;exact hK hO (.refl _)
 cbv;refine B4 hE hO 0 rfl rfl fun H hO=>?_;cbv;refine B5 hE hO 0 rfl ?_;cbv;cases h;exact hK hO (.refl _)
def cf338 :Cf:=⟨[5],[(1,6)],[],[],[],[]⟩
theorem c338 (N aC aK aJ r)(h:M9 N aC aK aJ=some r):B2 prog 338 [(J5 aC),(D3 aK),.eref [vi aJ] 0] ((J5 r)):=by
 unfold M9 at h
 refine K5 cf338 func338 call338 ntmps338 ?_;intro E H0 K hE hK hO;cbv;refine D0 hE hO fun b1 H hO=>?_;cbv;refine D1 hE (g:=fun r2=>(D3 r2)) h (c340 N aJ aK) (.refl _) fun r2 h=>?_;cbv;refine A5 hE h (c339 N aC (⟨aJ,1,r2⟩:C8)) (.refl _) fun r3 h=>?_;cbv;refine B4 hE hO 0 rfl rfl fun H hO=>?_;cbv;refine B5 hE hO 0 rfl ?_;cbv;cases h;exact hK hO (.refl _)
theorem c344 (N aC r) (h:Am N aC=some r):B2 prog 344 [(J5 aC)] (vi r):=by
 unfold Am at h
 refine K5 cf0 func344 call344 ntmps344 ?_;intro E H0 K hE hK hO;cbv;refine A5 hE h (c335 N aC.Kind) (.refl _) fun r1 h=>?_;cbv;refine A9 hE h (fun _ h=>?_) fun _ h=>?_
 ·cbv;cases h;exact hK hO (.refl _)
 cbv;refine A9 hE h (fun _ h=>?_) fun _ h=>?_
 ·cbv;cases h;exact hK hO (.refl _)
 cbv;refine A9 hE h (fun _ h=>?_) fun _ h=>?_
 ·cbv;refine A9 hE h (fun _ h=>?_) fun _ h=>?_
  ·cbv;cases h;exact hK hO (.refl _)
  cbv;cases h;exact hK hO (.refl _)
 cbv;refine A9 hE h (fun _ h=>?_) fun _ h=>?_
 ·cbv;refine A9 hE h (fun _ h=>?_) fun _ h=>?_
  ·cbv;cases h;exact hK hO (.refl _)
  cbv;cases h;exact hK hO (.refl _)
 cbv;refine A5 hE h (c275 N aC.Value) (.refl _) fun r2 h=>?_;cbv;refine A9 hE h (fun _ h=>?_) fun _ h=>?_
 ·cbv;refine A5 hE h (c342 N aC.Kind aC.Value) (.refl _) fun r3 h=>?_;cbv;refine A9 hE h (fun _ h=>?_) fun _ h=>?_
  ·cbv;cases h;exact hK hO (.refl _)
  cbv;cases h;exact hK hO (.refl _)
 cbv;cases h;exact hK hO (.refl _)
def cf341 :Cf:=⟨[4],[],[],[],[],[]⟩
theorem c341 (N aC bH r)(h:Bj N aC bH=some r):B2 prog 341 [(J5 aC),(D3 bH)] (.tup [(D3 r.1),vi r.2]):=by
 unfold Bj at h
 refine K5 cf341 func341 call341 ntmps341 ?_;intro E H0 K hE hK hO;cbv;refine D0 hE hO fun b1 H hO=>?_;cbv;refine A5 hE h (c344 N aC) (.refl _) fun r2 h=>?_;cbv;refine A9 hE h (fun _ h=>?_) fun _ h=>?_
 ·cbv;refine B4 hE hO 0 rfl rfl fun H hO=>?_;cbv;refine B5 hE hO 0 rfl ?_;cbv;cases h;exact hK hO (.refl _)
 cbv;refine A5 hE h (c336 N aC.Kind bH) (.refl _) fun r3 h=>?_;cbv;refine A9 hE h (fun _ h=>?_) fun _ h=>?_
 ·cbv;refine B4 hE hO 0 rfl rfl fun H hO=>?_;cbv;refine B5 hE hO 0 rfl ?_;cbv;cases h;exact hK hO (.refl _)
 cbv;refine A9 hE h (fun _ h=>?_) fun _ h=>?_
 ·cbv;refine B4 hE hO 0 rfl rfl fun H hO=>?_;cbv;refine B5 hE hO 0 rfl ?_;cbv;cases h;exact hK hO (.refl _)
 cbv;refine A9 hE h (fun _ h=>?_) fun _ h=>?_
 ·cbv;refine B4 hE hO 0 rfl rfl fun H hO=>?_;cbv;refine B5 hE hO 0 rfl ?_;cbv;cases h;exact hK hO (.refl _)
 cbv;refine B4 hE hO 0 rfl rfl fun H hO=>?_;cbv;refine B5 hE hO 0 rfl ?_;cbv;cases h;exact hK hO (.refl _)
def cf333 :Cf:=⟨[6],[],[],[],[],[]⟩
theorem c333 (N aQ aF bH r) (h:Cu N aQ aF bH=some r):B2 prog 333 [vi aQ,sr eAs9 aF,(D3 bH)] (.tup [(D3 r.1),vi r.2]):=by
 unfold Cu at h
 refine K5 cf333 func333 call333 ntmps333 ?_;intro E H0 K hE hK hO;cbv;refine D0 hE hO fun b1 H hO=>?_;cbv;refine A5 hE h (c335 N aQ) (.refl _) fun r2 h=>?_;cbv;refine A9 hE h (fun _ h=>?_) fun _ h=>?_
 ·cbv;refine B4 hE hO 0 rfl rfl fun H hO=>?_;cbv;refine B5 hE hO 0 rfl ?_;cbv;cases h;exact hK hO (.refl _)
 cbv;refine E5 hE ?_;cbv;refine A9 hE h (fun _ h=>?_) fun _ h=>?_
 ·cbv;refine B4 hE hO 0 rfl rfl fun H hO=>?_;cbv;refine B5 hE hO 0 rfl ?_;cbv;cases h;exact hK hO (.refl _)
 cbv;refine E5 hE ?_;cbv;obtain⟨s4,hx,h⟩:=bind_some h;refine G6 cf333 hE Q4 (fun s3=>[(1,.v (sr eAs9 aF)),(3,.v (.eref [vi aQ] 0)),(5,.v (.eref (P3 bH) 0)),(6,.v (.ref b1 0)),(22,.v (sr eAs9 aF)),fi 23 (Ar.len aF),fi 24 s3]) (fun s3 H1=>B7 Eq H0 [cb b1 [vi 0,vi 0,.str (⟨#[]⟩)]] H1) (fun x e l H1=>match(generalizing:=false) x with| .inl y=>e= .exit 1∧l=[(1,.v (sr eAs9 aF)),(3,.v (.eref [vi aQ] 0)),(5,.v (.eref (P3 bH) 0)),(6,.v (.ref b1 0))]∧B7 Eq H0 [cb b1 [vi 0,vi 0,.str (⟨#[]⟩)]] H1| .inr y=>e= .ret∧l=[(6,.v (.ref b1 0)),fi 7 y]∧B7 Eq H0 [cb b1 [vi 0,vi 0,.str (⟨#[]⟩)]] H1) (by kernel_rfl) ?_ hx ?_ hO ?_
 ·intro s3 H o hO h;clear hx;cbv;refine A9 hE h (fun _ h=>?_) fun _ h=>?_
  ·cbv;refine C5 hE eAs7 h fun x5 h=>?_;cbv;refine A5 hE h (c336 N aQ x5) (.refl _) fun r6 h=>?_;cbv;refine A9 hE h (fun _ h=>?_) fun _ h=>?_
   ·cbv;refine B4 hE hO 0 rfl rfl fun H hO=>?_;cbv;cases h;exact⟨_,_,rfl,⟨rfl,rfl,hO⟩,.e2 .z,rfl⟩
   cbv;cases h;exact⟨_,rfl,.e rfl (.e2 (.e4 .z)),rfl,hO⟩
  cbv;cases h;exact⟨_,_,rfl,⟨rfl,rfl,hO⟩,.e4 .z,rfl⟩
 ·exact .e rfl (.e2 (.e4 .z))
 clear hx
 rcases s4 with y7|y10
 ·rintro e l H ⟨rfl,rfl,hO⟩;cbv;refine A5 hE (g:=fun r8=>(J5 r8)) h (fun r8 hx=>c337 N (⟨aQ,0,(⟨0,0,⟨#[]⟩⟩:A6)⟩:C8) aF (.func (.func 338) [] [.eref [vi aQ] 0]) (fun y1 y2=>M9 N y1 y2 aQ) (fun y1 y2 r hx=>B2.value (F:=[]) (C:=[.eref [vi aQ] 0]) (c338 N y1 y2 aQ r hx)) r8 hx) (.refl _) fun r8 h=>?_;cbv;refine A5 hE h (c341 N r8 bH) (.refl _) fun r9 h=>?_;cbv;refine B4 hE hO 0 rfl rfl fun H hO=>?_;cbv;refine B5 hE hO 0 rfl ?_;cbv;cases h;exact hK hO (.refl _)
 rintro e l H ⟨rfl,rfl,hO⟩;cbv;refine B5 hE hO 0 rfl ?_;cbv;cases h;exact hK hO (.refl _)
def cf328 :Cf:=⟨[4],[],[],[],[],[]⟩
theorem c328 (N aM aB r) (h:R6 N aM aB=some r):B2 prog 328 [(AY aM),(J1 aB)] (.tup [(D3 r.1),vi r.2]):=by
 unfold R6 at h
 refine K5 cf328 func328 call328 ntmps328 ?_;intro E H0 K hE hK hO;cbv;refine D0 hE hO fun b1 H hO=>?_;cbv;refine A5 hE h (c327 N aM aB.Var) (.refl _) fun r2 h=>?_;cbv;refine E5 hE ?_;cbv;replace hO:=hO.tl0 (t:=.nil) rfl;obtain⟨s5,hx,h⟩:=bind_some h;refine Bd cf328 hE Q4 (γ:=E3) (fun s3 g=>[(3,.v (.eref (BO aB) 0)),(4,.v (.ref b1 0)),(6,.v (.sl (lst eAs9 s3.1) g)),(14,.v (sr eAs3 r2)),fi 15 (Ar.len r2),fi 16 s3.2]) (fun s3 g H1=>BF g∧B7 Eq H0 [.tl g,cb b1 [vi 0,vi 0,.str (⟨#[]⟩)]] H1) (fun x e l H1=>match(generalizing:=false) x with| .inl y=>∃u1:E3,BF u1∧e= .exit 0∧l=[(3,.v (.eref (BO aB) 0)),(4,.v (.ref b1 0)),(6,.v (.sl (lst eAs9 y) u1))]∧B7 Eq H0 [.tl u1,cb b1 [vi 0,vi 0,.str (⟨#[]⟩)]] H1| .inr y=>∃u1:E3,BF u1∧e= .ret∧l=[(4,.v (.ref b1 0)),fi 5 y]∧B7 Eq H0 [.tl u1,cb b1 [vi 0,vi 0,.str (⟨#[]⟩)]] H1) (by kernel_rfl) ?_ .nil hx ?_ ?_ ?_
 ·rintro s3 t4 H o ⟨ht4,hO⟩ h;clear hx;cbv;refine A9 hE h (fun _ h=>?_) fun _ h=>?_
  ·cbv;refine C5 hE eAs8 h fun x6 h=>?_;cbv;refine A5 hE h (c329 N x6 aB.Field) (.refl _) fun r7 h=>?_;cbv;refine A9 hE h (fun _ h=>?_) fun _ h=>?_
   ·cbv;refine B4 hE hO 1 rfl rfl fun H hO=>?_;cbv;cases h;exact⟨_,_,rfl,⟨t4,ht4,rfl,rfl,hO⟩,.e2 .z,rfl⟩
   cbv;refine FO (f:=eAs9) hE NI (by decide) hO 0 rfl ht4 (l:=s3.1) (m:=[r7.1]) (.refl _) (.lstc (.eq (eAs7 r7.1) (.refl _)) (.lst0)) h fun l9 t8 H hO ht8 h=>?_;cbv;cases h;exact⟨_,t8,rfl,.e2 (.e4 .z),rfl,ht8,hO⟩
  cbv;cases h;exact⟨_,_,rfl,⟨t4,ht4,rfl,rfl,hO⟩,.e rfl (.e2 .z),rfl⟩
 ·exact .e2 (.v (.slt _ (.lst0)) (.e rfl (.e rfl (.e rfl (.z)))))
 ·exact⟨trivial,hO⟩
 clear hx
 rcases s5 with y10|y13
 ·rintro e l H ⟨t11,ht11,rfl,rfl,hO⟩;cbv;refine A5 hE h (c333 N aB.Kind y10 aB.Value) (.cons (.refl _) (.cons (.ro _ _) (.refl _))) fun r12 h=>?_;cbv;refine B4 hE hO 1 rfl rfl fun H hO=>?_;cbv;refine B5 hE hO 1 rfl ?_;cbv;cases h;exact hK hO (.refl _)
 rintro e l H ⟨t14,ht14,rfl,rfl,hO⟩;cbv;refine B5 hE hO 1 rfl ?_;cbv;cases h;exact hK hO (.refl _)
def cf315 :Cf:=⟨[4,7],[],[(38,12),(63,19)],[],[],[]⟩
theorem c315 (N aM aB r) (h:S9 N aM aB=some r):B2 prog 315 [(AY aM),(J1 aB)] (.tup [(D3 r.1),vi r.2]):=by
 unfold S9 at h
 refine K5 cf315 func315 call315 ntmps315 ?_;intro E H0 K hE hK hO;cbv;refine D0 hE hO fun b1 H hO=>?_;cbv;refine A5 hE h (c327 N aM aB.Var) (.refl _) fun r2 h=>?_;cbv;refine A9 hE h (fun _ h=>?_) fun _ h=>?_
 ·cbv;refine B4 hE hO 0 rfl rfl fun H hO=>?_;cbv;refine B5 hE hO 0 rfl ?_;cbv;cases h;exact hK hO (.refl _)
 cbv;refine A9 hE h (fun _ h=>?_) fun _ h=>?_
 ·cbv;refine E5 hE ?_;cbv;refine B4 hE hO 0 rfl rfl fun H hO=>?_;cbv;refine B5 hE hO 0 rfl ?_;cbv;cases h;exact hK hO (.refl _)
 cbv;refine A9 hE h (fun _ h=>?_) fun _ h=>?_
 ·cbv;refine A5 hE h (c328 N aM aB) (.refl _) fun r3 h=>?_;cbv;refine B4 hE hO 0 rfl rfl fun H hO=>?_;cbv;refine B5 hE hO 0 rfl ?_;cbv;cases h;exact hK hO (.refl _)
 cbv;refine D0 hE hO fun b4 H hO=>?_;cbv;refine B4 hE hO 0 rfl rfl fun H hO=>?_;cbv;obtain⟨s5,hx,h⟩:=bind_some h;refine Z8 cf315 hE Q4 (fun e l H1=>match(generalizing:=false) s5 with| .inl y=>e= .normal∧l=[(3,.v (.eref (BO aB) 0)),(4,.v (.ref b1 0)),(7,.v (.ref b4 0))]∧B7 Eq H0 [cb b4 (Lk y),cb b1 [vi 0,vi 0,.str (⟨#[]⟩)]] H1| .inr y=>e= .ret∧l=[(4,.v (.ref b1 0)),fi 5 10]∧B7 Eq H0 [cb b4 (Lk aM.event),cb b1 [vi 0,vi 0,.str (⟨#[]⟩)]] H1) (by kernel_rfl) ?_ ?_
 ·clear h;have h:=hx;clear hx;cbv;refine A9 hE h (fun _ h=>?_) fun _ h=>?_
  ·cbv;refine E5 hE ?_;cbv;refine A9 hE h (fun _ h=>?_) fun _ h=>?_
   ·cbv;refine B4 hE hO 1 rfl rfl fun H hO=>?_;cbv;cases h;exact⟨_,⟨rfl,rfl,hO⟩,.e2 .z,rfl⟩
   cbv;refine E5 hE ?_;cbv;refine C5 hE eAs8 h fun x6 h=>?_;cbv;refine B4 hE hO 0 rfl rfl fun H hO=>?_;cbv;cases h;exact⟨_,⟨rfl,rfl,hO⟩,.e rfl (.e2 .z),rfl⟩
  cbv;cases h;exact⟨_,⟨rfl,rfl,hO⟩,.e rfl (.e2 .z),rfl⟩
 clear hx
 rcases s5 with y7|y11
 ·rintro e l H ⟨rfl,rfl,hO⟩;cbv;refine A9 hE h (fun _ h=>?_) fun _ h=>?_
  ·cbv;refine B5 hE hO 0 rfl ?_;cbv;refine B4 hE hO 1 rfl rfl fun H hO=>?_;cbv;refine B5 hE hO 1 rfl ?_;cbv;cases h;exact hK hO (.refl _)
  cbv;refine B5 hE hO 0 rfl ?_;cbv;refine A5 hE h (c329 N y7 aB.Field) (.refl _) fun r8 h=>?_;cbv;obtain⟨s9,hx,h⟩:=bind_some h;refine Z8 cf315 hE Q4 (fun e l H1=>e= .normal∧l=[(4,.v (.ref b1 0)),(8,.v (.eref (P3 r8.1) 0)),fi 9 s9]∧B7 Eq H0 [cb b4 (Lk y7),cb b1 [vi 0,vi 0,.str (⟨#[]⟩)]] H1) (by kernel_rfl) ?_ ?_
  ·clear h;have h:=hx;clear hx;cbv;refine A9 hE h (fun _ h=>?_) fun _ h=>?_
   ·cbv;refine A5 hE h (c275 N r8.1) (.refl _) fun r10 h=>?_;cbv;cases h;exact⟨_,⟨rfl,rfl,hO⟩,.e rfl (.e2 .z),rfl⟩
   cbv;cases h;exact⟨_,⟨rfl,rfl,hO⟩,.e rfl (.e2 .z),rfl⟩
  clear hx;rintro e l H ⟨rfl,rfl,hO⟩;cbv;refine A9 hE h (fun _ h=>?_) fun _ h=>?_
  ·cbv;refine B4 hE hO 1 rfl rfl fun H hO=>?_;cbv;refine B5 hE hO 1 rfl ?_;cbv;cases h;exact hK hO (.refl _)
  cbv;refine B4 hE hO 1 rfl rfl fun H hO=>?_;cbv;refine B5 hE hO 1 rfl ?_;cbv;cases h;exact hK hO (.refl _)
 rintro e l H ⟨rfl,rfl,hO⟩;cbv;refine B5 hE hO 1 rfl ?_;cbv;cases h;exact hK hO (.refl _)
def cf316 :Cf:=⟨[],[],[(15,8),(22,13)],[],[],[]⟩
theorem c316 (N aP bE r) (h:BA N aP bE=some r):B2 prog 316 [vi aP,sr (V.int .i64) bE] (vi r):=by
 unfold BA at h
 refine K5 cf316 func316 call316 ntmps316 ?_;intro E H0 K hE hK hO;cbv;refine E5 hE ?_;cbv;obtain⟨s2,hx,h⟩:=bind_some h;refine G6 cf316 hE Q4 (fun s1=>[fi 0 aP,(1,.v (sr (V.int .i64) bE)),(8,.v (sr (V.int .i64) bE)),fi 9 (Ar.len bE),fi 10 s1]) (fun s1 H1=>B7 Eq H0 [] H1) (fun x e l H1=>match(generalizing:=false) x with| .inl y=>e= .exit 0∧l=[]∧B7 Eq H0 [] H1| .inr y=>e= .ret∧l=[fi 4 9]∧B7 Eq H0 [] H1) (by kernel_rfl) ?_ hx ?_ hO ?_
 ·intro s1 H o hO h;clear hx;cbv;refine A9 hE h (fun _ h=>?_) fun _ h=>?_
  ·cbv;refine C5 hE (fun _=>rfl) h fun x3 h=>?_;cbv;obtain⟨s4,hx,h⟩:=bind_some h;refine Z8 cf316 hE Q4 (fun e l H1=>e= .normal∧l=[fi 0 aP,(1,.v (sr (V.int .i64) bE)),fi 6 x3,(7,.b true),(8,.v (sr (V.int .i64) bE)),fi 9 (Ar.len bE),fi 10 s1,fi 14 aP,(15,.v (.bool s4))]∧B7 Eq H0 [] H1) (by kernel_rfl) ?_ ?_
   ·clear h;have h:=hx;clear hx;cbv;refine A9 hE h (fun _ h=>?_) fun _ h=>?_
    ·cbv;cases h;exact⟨_,⟨rfl,rfl,hO⟩,.e rfl (.e2 (.b rfl (.e rfl (.e rfl (.e rfl (.e rfl (.e rfl (.z)))))))),rfl⟩
    cbv;refine A9 hE h (fun _ h=>?_) fun _ h=>?_
    ·cbv;cases h;exact⟨_,⟨rfl,rfl,hO⟩,.e rfl (.e2 (.b rfl (.e rfl (.e rfl (.e rfl (.e rfl (.e rfl (.z)))))))),rfl⟩
    cbv;refine A9 hE h (fun _ h=>?_) fun _ h=>?_
    ·cbv;cases h;exact⟨_,⟨rfl,rfl,hO⟩,.e rfl (.e2 (.b rfl (.e rfl (.e rfl (.e rfl (.e rfl (.e rfl (.z)))))))),rfl⟩
    cbv;cases h;exact⟨_,⟨rfl,rfl,hO⟩,.e rfl (.e2 (.b rfl (.e rfl (.e rfl (.e rfl (.e rfl (.e rfl (.z)))))))),rfl⟩
   clear hx;rintro e l H ⟨rfl,rfl,hO⟩;cbv;refine A9 hE h (fun _ h=>?_) fun _ h=>?_
   ·cbv;refine A9 hE h (fun _ h=>?_) fun _ h=>?_
    ·cbv;cases h;exact⟨_,_,rfl,⟨rfl,rfl,hO⟩,.e rfl .z,rfl⟩
    cbv;cases h;exact⟨_,rfl,.e rfl (.e4 .z),rfl,hO⟩
   cbv;obtain⟨s5,hx,h⟩:=bind_some h;refine Z8 cf316 hE Q4 (fun e l H1=>e= .normal∧l=[fi 0 aP,(1,.v (sr (V.int .i64) bE)),fi 6 x3,(7,.b true),(8,.v (sr (V.int .i64) bE)),fi 9 (Ar.len bE),fi 10 s1,fi 14 aP,(22,.v (.bool s5))]∧B7 Eq H0 [] H1) (by kernel_rfl) ?_ ?_
   ·clear h;have h:=hx;clear hx;cbv;refine A9 hE h (fun _ h=>?_) fun _ h=>?_
    ·cbv;cases h;exact⟨_,⟨rfl,rfl,hO⟩,.e rfl (.e2 (.b rfl (.e rfl (.e rfl (.e rfl (.e rfl (.e rfl (.z)))))))),rfl⟩
    cbv;refine A9 hE h (fun _ h=>?_) fun _ h=>?_
    ·cbv;cases h;exact⟨_,⟨rfl,rfl,hO⟩,.e rfl (.e2 (.b rfl (.e rfl (.e rfl (.e rfl (.e rfl (.e rfl (.z)))))))),rfl⟩
    cbv;cases h;exact⟨_,⟨rfl,rfl,hO⟩,.e rfl (.e2 (.b rfl (.e rfl (.e rfl (.e rfl (.e rfl (.e rfl (.z)))))))),rfl⟩
   clear hx;rintro e l H ⟨rfl,rfl,hO⟩;cbv;refine A9 hE h (fun _ h=>?_) fun _ h=>?_
   ·cbv;refine A9 hE h (fun _ h=>?_) fun _ h=>?_
    ·cbv;cases h;exact⟨_,_,rfl,⟨rfl,rfl,hO⟩,.e rfl .z,rfl⟩
    cbv;cases h;exact⟨_,rfl,.e rfl (.e4 .z),rfl,hO⟩
   cbv;refine A9 hE h (fun _ h=>?_) fun _ h=>?_
   ·cbv;refine C5 hE (fun _=>rfl) h fun x6 h=>?_;cbv;refine A9 hE h (fun _ h=>?_) fun _ h=>?_
    ·cbv;cases h;exact⟨_,_,rfl,⟨rfl,rfl,hO⟩,.e rfl .z,rfl⟩
    cbv;cases h;exact⟨_,rfl,.e rfl (.e4 .z),rfl,hO⟩
   cbv;cases h;exact⟨_,rfl,.e rfl (.e4 .z),rfl,hO⟩
  cbv;cases h;exact⟨_,_,rfl,⟨rfl,rfl,hO⟩,.z,rfl⟩
 ·exact .e rfl (.e4 .z)
 clear hx
 rcases s2 with y7|y8
 ·rintro e l H ⟨rfl,rfl,hO⟩;cbv;cases h;exact hK hO (.refl _)
 rintro e l H ⟨rfl,rfl,hO⟩;cbv;cases h;exact hK hO (.refl _)
end Go.Ab
namespace Go.Ab
open Go.RowKit Go.Proofs Go.Proofs.Tryz J7
variable [Ar][J7]
set_option maxRecDepth 100000
def cf298 :Cf:=⟨[4,3000042,8000042,9000042],[(11,8),(17,6),(18,16)],[],[],[],[]⟩
theorem c298 (N:Nat):∀n aM aB r,H8 N n aM aB=some r→B2 prog 298 [(AY aM),(J1 aB)] (.tup [(D3 r.1),vi r.2]):=by
 intro n
 induction n with
 |zero=>intro aM aB r h;cases h
 |succ n ih=>
 intro aM aB r h
 unfold H8 at h
 refine K5 cf298 func298 call298 ntmps298 ?_;intro E H0 K hE hK hO;cbv;refine D0 hE hO fun b1 H hO=>?_;cbv;refine E5 hE ?_;cbv;refine A9 hE h (fun _ h=>?_) fun _ h=>?_
 ·cbv;refine A5 hE h (c315 N aM aB) (.refl _) fun r2 h=>?_;cbv;refine B4 hE hO 0 rfl rfl fun H hO=>?_;cbv;refine B5 hE hO 0 rfl ?_;cbv;cases h;exact hK hO (.refl _)
 cbv;refine E5 hE ?_;cbv;replace hO:=hO.tl0 (t:=.nil) rfl;replace hO:=hO.tl0 (t:=.nil) rfl;obtain⟨s6,hx,h⟩:=bind_some h;refine Bd cf298 hE Q4 (γ:=E3×E3) (fun s3 g=>[(2,.v (.eref (CJ aM) 0)),(3,.v (.eref (BO aB) 0)),(4,.v (.ref b1 0)),(6,.v (.sl (lst eAs9 s3.1) g.2)),(7,.v (.sl (lst (V.int .i64) s3.2.1) g.1)),(23,.v (sr eAt1 aB.cQ)),fi 24 (Ar.len aB.cQ),fi 25 s3.2.2]) (fun s3 g H1=>BF g.1∧BF g.2∧B7 Eq H0 [.tl g.1,.tl g.2,cb b1 [vi 0,vi 0,.str (⟨#[]⟩)]] H1) (fun x e l H1=>match(generalizing:=false) x with| .inl y=>∃u1:E3,BF u1∧∃u2:E3,BF u2∧e= .exit 0∧l=[(2,.v (.eref (CJ aM) 0)),(3,.v (.eref (BO aB) 0)),(4,.v (.ref b1 0)),(6,.v (.sl (lst eAs9 y.1) u2)),(7,.v (.sl (lst (V.int .i64) y.2) u1))]∧B7 Eq H0 [.tl u1,.tl u2,cb b1 [vi 0,vi 0,.str (⟨#[]⟩)]] H1| .inr y=>∃u1:E3,BF u1∧∃u2:E3,BF u2∧e= .ret∧l=[(4,.v (.ref b1 0)),fi 5 y]∧B7 Eq H0 [.tl u1,.tl u2,cb b1 [vi 0,vi 0,.str (⟨#[]⟩)]] H1) (by kernel_rfl) ?_ (⟨.nil,.nil⟩) hx ?_ ?_ ?_
 ·rintro s3 ⟨t4,t5⟩ H o ⟨ht4,ht5,hO⟩ h;clear hx;cbv;refine A9 hE h (fun _ h=>?_) fun _ h=>?_
  ·cbv;refine C5 hE eAt2 h fun x7 h=>?_;cbv;refine A5 hE h (ih aM x7) (.refl _) fun r8 h=>?_;cbv;refine A9 hE h (fun _ h=>?_) fun _ h=>?_
   ·cbv;refine B4 hE hO 2 rfl rfl fun H hO=>?_;cbv;cases h;exact⟨_,_,rfl,⟨t4,ht4,t5,ht5,rfl,rfl,hO⟩,.e2 .z,rfl⟩
   cbv;refine Uu hE hO 1 rfl ht5 fun H hO=>?_;cbv;refine Mk hE trivial ?_;cbv;refine Yd (f:=eAs9) hE NI (by decide) (l:=s3.1) (m:=[r8.1]) (.refl _) (.lstc (.eq (eAs7 r8.1) (.refl _)) (.lst0)) h fun l9 h=>?_;cbv;refine Uw hE hO 1 rfl fun t10 H hO ht10=>?_;cbv;refine FO (f:=(V.int .i64)) hE (fun _=>rfl) (by decide) hO 0 rfl ht4 (l:=s3.2.1) (m:=[r8.1.Kind]) (.refl _) (.lstc (.refl _) (.lst0)) h fun l12 t11 H hO ht11 h=>?_;cbv;cases h;exact⟨_,⟨t11,t10⟩,rfl,.e4 (.e4 .z),rfl,ht11,ht10,hO⟩
  cbv;cases h;exact⟨_,_,rfl,⟨t4,ht4,t5,ht5,rfl,rfl,hO⟩,.e rfl (.e4 .z),rfl⟩
 ·exact .e rfl (.e2 (.v (.slt _ (.lst0)) (.v (.slt _ (.lst0)) (.e rfl (.e rfl (.e rfl (.z)))))))
 ·exact⟨trivial,trivial,hO⟩
 clear hx
 rcases s6 with y13|y43
 ·rintro e l H ⟨t14,ht14,t15,ht15,rfl,rfl,hO⟩;cbv;refine A5 hE h (c316 N aB.Op y13.2) (.cons (.refl _) (.cons (.ro _ _) (.refl _))) fun r16 h=>?_;cbv;refine A9 hE h (fun _ h=>?_) fun _ h=>?_
  ·cbv;refine B4 hE hO 2 rfl rfl fun H hO=>?_;cbv;refine B5 hE hO 2 rfl ?_;cbv;cases h;exact hK hO (.refl _)
  cbv;refine A9 hE h (fun _ h=>?_) fun _ h=>?_
  ·cbv;refine C5 hE eAs7 h fun x17 h=>?_;cbv;refine C5 hE eAs7 h fun x18 h=>?_;cbv;refine A5 hE h (c285 N (an (Ar.cmp .eql x17.Kind x18.Kind) (an (Ar.cmp .eql x17.Num x18.Num) (an (Ar.scmp .eql x17.Text x18.Text) true)))) (.refl _) fun r19 h=>?_;cbv;refine B4 hE hO 2 rfl rfl fun H hO=>?_;cbv;refine B5 hE hO 2 rfl ?_;cbv;cases h;exact hK hO (.refl _)
  cbv;refine Aj8 hE (kt:=3) (et:=338) (z:=.nilf) (by kernel_rfl) (by kernel_rfl) (by kernel_rfl) rfl ?_;cbv;refine A9 hE h (fun _ h=>?_) fun _ h=>?_
  ·cbv;refine C5 hE eAs7 h fun x20 h=>?_;cbv;refine E5 hE ?_;cbv;refine C5 hE eAs7 h fun x21 h=>?_;cbv;refine Y0 hE (g:=fun r22=>(D3 r22)) h (fun r22 hx=>B2.value (F:=[]) (C:=[.eref [.func (.func 307) [] []] 0]) (c308 N x20.Num x21.Num (.func (.func 307) [] []) (fun y1=>O5 N y1) (fun y1 r hx=>B2.value (F:=[]) (C:=[]) (c307 N y1 r hx)) r22 hx)) (.refl _) fun r22 h=>?_;cbv;refine B4 hE hO 2 rfl rfl fun H hO=>?_;cbv;refine B5 hE hO 2 rfl ?_;cbv;cases h;exact hK hO (.refl _)
  cbv;refine A9 hE h (fun _ h=>?_) fun _ h=>?_
  ·cbv;refine C5 hE eAs7 h fun x23 h=>?_;cbv;refine E5 hE ?_;cbv;refine C5 hE eAs7 h fun x24 h=>?_;cbv;refine Y0 hE (g:=fun r25=>(D3 r25)) h (fun r25 hx=>B2.value (F:=[]) (C:=[.eref [.func (.func 307) [] []] 0]) (c309 N x23.Num x24.Num (.func (.func 307) [] []) (fun y1=>O5 N y1) (fun y1 r hx=>B2.value (F:=[]) (C:=[]) (c307 N y1 r hx)) r25 hx)) (.refl _) fun r25 h=>?_;cbv;refine B4 hE hO 2 rfl rfl fun H hO=>?_;cbv;refine B5 hE hO 2 rfl ?_;cbv;cases h;exact hK hO (.refl _)
  cbv;refine A9 hE h (fun _ h=>?_) fun _ h=>?_
  ·cbv;refine C5 hE eAs7 h fun x26 h=>?_;cbv;refine E5 hE ?_;cbv;refine C5 hE eAs7 h fun x27 h=>?_;cbv;refine A5 hE h (c310 N x26.Num x27.Num) (.refl _) fun r28 h=>?_;cbv;refine B4 hE hO 2 rfl rfl fun H hO=>?_;cbv;refine B5 hE hO 2 rfl ?_;cbv;cases h;exact hK hO (.refl _)
  cbv;refine A9 hE h (fun _ h=>?_) fun _ h=>?_
  ·cbv;refine C5 hE eAs7 h fun x29 h=>?_;cbv;refine E5 hE ?_;cbv;refine C5 hE eAs7 h fun x30 h=>?_;cbv;refine A5 hE h (c311 N x29.Num x30.Num) (.refl _) fun r31 h=>?_;cbv;refine B4 hE hO 2 rfl rfl fun H hO=>?_;cbv;refine B5 hE hO 2 rfl ?_;cbv;cases h;exact hK hO (.refl _)
  cbv;refine A9 hE h (fun _ h=>?_) fun _ h=>?_
  ·cbv;refine C5 hE eAs7 h fun x32 h=>?_;cbv;refine E5 hE ?_;cbv;refine C5 hE eAs7 h fun x33 h=>?_;cbv;refine A5 hE h (c312 N x32.Num x33.Num) (.refl _) fun r34 h=>?_;cbv;refine B4 hE hO 2 rfl rfl fun H hO=>?_;cbv;refine B5 hE hO 2 rfl ?_;cbv;cases h;exact hK hO (.refl _)
  cbv;refine A9 hE h (fun _ h=>?_) fun _ h=>?_
  ·cbv;refine C5 hE eAs7 h fun x35 h=>?_;cbv;refine E5 hE ?_;cbv;refine C5 hE eAs7 h fun x36 h=>?_;cbv;refine A5 hE h (c313 N x35.Num x36.Num) (.refl _) fun r37 h=>?_;cbv;refine B4 hE hO 2 rfl rfl fun H hO=>?_;cbv;refine B5 hE hO 2 rfl ?_;cbv;cases h;exact hK hO (.refl _)
  cbv;refine A9 hE h (fun _ h=>?_) fun _ h=>?_
  ·cbv;refine C5 hE eAs7 h fun x38 h=>?_;cbv;refine E5 hE ?_;cbv;refine C5 hE eAs7 h fun x39 h=>?_;cbv;refine A5 hE h (c314 N x38.Num x39.Num) (.refl _) fun r40 h=>?_;cbv;refine B4 hE hO 2 rfl rfl fun H hO=>?_;cbv;refine B5 hE hO 2 rfl ?_;cbv;cases h;exact hK hO (.refl _)
  cbv;refine C5 hE eAs7 h fun x41 h=>?_;cbv;refine E5 hE ?_;cbv;refine C5 hE eAs7 h fun x42 h=>?_;cbv;cases h
 rintro e l H ⟨t44,ht44,t45,ht45,rfl,rfl,hO⟩;cbv;refine B5 hE hO 2 rfl ?_;cbv;cases h;exact hK hO (.refl _)
def cf284 :Cf:=⟨[8],[(3000004,0),(3000004,1),(3000004,2),(3000004,4),(3000004,5),(3000004,7),(3000004,8),(3000004,10)],[],[2000004],[],[]⟩
theorem c284 (N aB bL bC bM r)(h:Fz N aB bL bC bM=some r):B2 prog 284 [(J1 aB),(Qh bL),vi bC,(X6 bM)] (.tup [(D3 r.1),vi r.2]):=by
 unfold Fz at h
 refine K5 cf284 func284 call284 ntmps284 ?_;intro E H0 K hE hK hO;cbv;refine D0 hE hO fun b1 H hO=>?_;cbv;refine A5 hE h (c178 N aB) (.refl _) fun r2 h=>?_;cbv;refine A9 hE h (fun _ h=>?_) fun _ h=>?_
 ·cbv;refine B4 hE hO 0 rfl rfl fun H hO=>?_;cbv;refine B5 hE hO 0 rfl ?_;cbv;cases h;exact hK hO (.refl _)
 cbv;obtain⟨s3,hx,h⟩:=bind_some h;refine Z8 cf284 hE Q4 (fun e l H1=>e= .normal∧l=[(8,.v (.ref b1 0)),fi 9 s3.1]∧B7 Eq H0 [cb b1 (P3 s3.2)] H1) (by kernel_rfl) ?_ ?_
 ·clear h;have h:=hx;clear hx;cbv;refine Yc hE (c297 N () rfl) (.refl _) hO fun m125 H hO=>?_;cbv;refine Uy hE (g:=fun r244=>.tup [(D3 r244.1),vi r244.2]) h (c298 N N (⟨bL,bC,bM,()⟩:O9) aB) (fun _=>.tup2 (.agg rfl) (.int _ _)) (.agg (.le (.refl _) (.le (.refl _) (.le (.refl _) (.le (.refl _) (.le (.refl _) (.le (.refl _) (.le (.refl _) (.fm (hO.get 0 rfl) (.nil))))))))) (.le (.refl _) (.nil))) fun r244 h=>?_;cbv;refine B4 hE hO 1 rfl rfl fun H hO=>?_;cbv;cases h;exact⟨_,⟨rfl,rfl,hO.tail⟩,.e2 .z,rfl⟩
 clear hx;rintro e l H ⟨rfl,rfl,hO⟩;cbv;refine B5 hE hO 0 rfl ?_;cbv;cases h;exact hK hO (.refl _)
def cf265 :Cf:=⟨[],[(2,5)],[],[],[],[]⟩
theorem c265 (N aB bL bC bM r)(h:CH N aB bL bC bM=some r):B2 prog 265 [(J1 aB),(Qh bL),vi bC,(X6 bM)] (.bool r):=by
 unfold CH at h
 refine K5 cf265 func265 call265 ntmps265 ?_;intro E H0 K hE hK hO;cbv;refine A5 hE h (c284 N aB bL bC bM) (.refl _) fun r1 h=>?_;cbv;refine A9 hE h (fun _ h=>?_) fun _ h=>?_
 ·cbv;refine D1 hE (g:=fun r2=>(D3 r2)) h (c285 N true) (.refl _) fun r2 h=>?_;cbv;cases h;exact hK hO (.refl _)
 cbv;cases h;exact hK hO (.refl _)
def cf266 :Cf:=⟨[6,7,3000041,8000041,9000041],[(6,20)],[],[],[(44,1000007)],[]⟩
theorem c266 (N aI aH bY r) (h:O7 N aI aH bY=some r):B2 prog 266 [.eref (B0 aI) 0,sr eAs1 aH,vi bY] ((Qh r)):=by
 unfold O7 at h
 refine K5 cf266 func266 call266 ntmps266 ?_;intro E H0 K hE hK hO;cbv;refine D0 hE hO fun b1 H hO=>?_;cbv;refine Ap2 hE (f:=eAs3) (by decide) hO 1 h fun l3 w2 H hw2 h hO=>?_;have hO:B7 Eq H0 (.blk w2.q.id (.arr 1 (w2.q.pre++lst (DD eAs3) w2.row++w2.q.rest))::cb b1 [.sl [] .nil]::(HJ w2++[])) H:=hO;cbv;refine D0 hE hO fun b4 H hO=>?_;cbv;refine B4 hE hO 0 rfl rfl fun H hO=>?_;cbv;refine E5 hE ?_;cbv;obtain⟨s7,hx,h⟩:=bind_some h;refine Bd cf266 hE Q4 (γ:=Rw A4) (fun s5 g=>[(0,.v (.eref (B0 aI) 0)),fi 2 bY,(6,.v (.ref b1 0)),(7,.v (.ref b4 0)),(12,.v (sr eAs1 aH)),fi 13 (Ar.len aH),fi 14 s5.1]) (fun s5 g H1=>CM g s5.2∧B7 Eq H0 (cb b4 [.own g.q.id g.q.lo g.q.n]:: .blk g.q.id (.arr 1 (g.q.pre++lst (DD eAs3) g.row++g.q.rest))::cb b1 [.sl [] .nil]::(HJ g++[])) H1) (fun x e l H1=>∃u1:Rw A4,CM u1 x∧e= .exit 0∧l=[(6,.v (.ref b1 0)),(7,.v (.ref b4 0))]∧B7 Eq H0 (cb b4 [.own u1.q.id u1.q.lo u1.q.n]:: .blk u1.q.id (.arr 1 (u1.q.pre++lst (DD eAs3) u1.row++u1.q.rest))::cb b1 [.sl [] .nil]::(HJ u1++[])) H1) (by kernel_rfl) ?_ w2 hx ?_ ?_ ?_
 ·rintro s5 w6 H o ⟨hw6,hO⟩ h;clear hx;cbv;refine A9 hE h (fun _ h=>?_) fun _ h=>?_
  ·cbv;refine C5 hE eAt4 h fun x8 h=>?_;cbv;refine A9 hE h (fun _ h=>?_) fun _ h=>?_
   ·cbv;obtain⟨x9,hxx9,h⟩:=bind_some h
    obtain⟨hjx9,t10,hrx9,hax9⟩:=hw6.at hxx9
    obtain⟨Rx9,hO,hbx9⟩:=hO.rtake (w:=w6) (T1:=[]) (T2:=[]) 3 rfl hrx9;refine Uu hE hO 0 rfl hax9 fun H hO=>?_;cbv;refine B5 hE hO 1 rfl ?_;cbv;refine B5 hE hO 1 rfl ?_;cbv;refine YP hE (f:=DD eAs3) hO hw6.ok 2 rfl hjx9 ?_;cbv;refine Ac7 hE (f:=DD eAs3) (fun _=>rfl) hO hw6.ok 2 rfl hjx9.1 hrx9 ?_;cbv;refine C5 hE eAs8 h fun x14 h=>?_;cbv;refine Mk hE trivial ?_;cbv;refine Yd (f:=eAs3) hE Hn (by decide) (l:=x9) (m:=[x14]) (.refl _) (.lstc (.eq (eAs8 x14) (.refl _)) (.lst0)) h fun l15 h=>?_;cbv;refine Uw hE hO 0 rfl fun t11 H hO htt11=>?_;cbv;refine YP hE (f:=DD eAs3) hO hw6.ok 2 rfl hjx9 ?_;cbv;refine YO hE (f:=DD eAs3) (tz:=1) (x':=(l15,t11)) (fun _=>⟨.sl (lst eAs3 l15) t11,.refl _,rfl,rfl,rfl⟩) (by decide) hO hw6.ok 2 rfl hjx9 fun H hO=>?_;cbv;obtain⟨l13,hu,h⟩:=bind_some h;obtain⟨w12,hqw12,hw12,hO⟩:∃w0:Rw A4,w0.q=w6.q∧CM w0 l13∧B7 Eq H0 (cb b4 [.own w0.q.id w0.q.lo w0.q.n]:: .blk w0.q.id (.arr 1 (w0.q.pre++lst (DD eAs3) w0.row++w0.q.rest))::cb b1 [.sl [] .nil]::(HJ w0++[])) H:=⟨(⟨w6.q,w6.row.set (x8.cV).toNat (l15,t11)⟩:Rw A4),rfl,by rw[Xm hu];exact hw6.put _ htt11,(by have e:=hbx9 (l15,t11) H [cb b4 [.own w6.q.id w6.q.lo w6.q.n],.blk w6.q.id (.arr 1 (w6.q.pre++lst (DD eAs3) (w6.row.set (x8.cV).toNat (l15,t11))++w6.q.rest)),cb b1 [.sl [] .nil]] hO;simp only[List.cons_append,List.nil_append,append_nil]at e ⊢;exact e)⟩
    try rw[←hqw12]
    cases h;exact⟨_,w12,rfl,.e rfl (.e2 (.e4 .z)),rfl,hw12,hO⟩
   cbv;cases h;exact⟨_,w6,rfl,.e rfl (.e2 (.e4 .z)),rfl,hw6,hO⟩
  cbv;cases h;exact⟨_,_,rfl,⟨w6,hw6,rfl,rfl,hO⟩,.e2 .z,rfl⟩
 ·exact .e rfl (.e2 (.e4 .z))
 ·exact⟨hw2,hO⟩
 clear hx;rintro e l H ⟨w16,hw16,rfl,rfl,hO⟩;cbv;refine XW hE (e:=eAt9) eAu4 hO hw16 0 1 rfl rfl rfl (by decide) fun H hO=>?_;have hO:B7 Eq H0 [cb b4 [sr eAt9 s7],cb b1 [.sl [] .nil]] H:=hO.rdrop (w:=w16) (T1:=[]) (T2:=[]) 2 rfl;cbv;refine B5 hE hO 0 rfl ?_;cbv;refine B4 hE hO 1 rfl rfl fun H hO=>?_;cbv;refine B5 hE hO 1 rfl ?_;cbv;cases h;exact hK hO (.refl _)
def cf231 :Cf:=⟨[],[(1,13)],[],[],[],[]⟩
theorem c231 (N aI bO aH bC bF r)(h:G5 N aI bO aH bC bF=some r):B2 prog 231 [.eref (B0 aI) 0,(J1 bO),sr eAs1 aH,vi bC,vi bF] (.bool r):=by
 unfold G5 at h
 refine K5 cf231 func231 call231 ntmps231 ?_;intro E H0 K hE hK hO;cbv;refine D1 hE (g:=fun r1=>(Qh r1)) h (c266 N aI aH bF) (.refl _) fun r1 h=>?_;cbv;refine C5 hE eAs8 h fun x2 h=>?_;cbv;refine A5 hE h (c265 N bO r1 bC x2) (.refl _) fun r3 h=>?_;cbv;cases h;exact hK hO (.refl _)
def cf230 :Cf:=⟨[],[(3,28)],[],[],[],[]⟩
theorem c230 (N aG aJ aN aR r) (h:S3 N aG aJ aN aR=some r):FE prog 230 (fun yv=>[yv,.eref [vi aG] 0,.eref [.eref (B0 aJ) 0] 0,.eref (D4 aN) 0,.eref [sr eAs1 aR] 0]) (List.map (fun(x:(List A0))=>[sr eAs1 x]) r) rbN:=by
 unfold S3 at h
 obtain⟨⟨w0,u0⟩,h1,hr⟩:=bind_some h;clear h;have hr:=AP hr;subst hr;have h:=h1;clear h1;refine N4 cf230 Q4 func230 (by rfl) (by kernel_rfl) call230 ntmps230 (by rfl) (fun _=>rfl) ?_;intro yv I D hI hD hy tl F E H K hE hO hK hKD
 have hO:B7 (I (List.map (fun(x:(List A0))=>[sr eAs1 x]) (w0++[])++tl)) F [] H:=by rw[append_nil];exact hO
 cbv;obtain⟨w2,w3,s6,hx,h1,he⟩:=P8 h;clear h;have h:=h1;clear h1
 rw[he,append_assoc]at hO
 clear he;refine Ci cf230 hE Q4 (γ:=Unit) (fun s1 g=>[(0,.v (yv)),(2,.v (.eref [.eref (B0 aJ) 0] 0)),(3,.v (.eref (D4 aN) 0)),(4,.v (.eref [sr eAs1 aR] 0)),fi 6 s1]) (fun s1 g w H1=>B7 (I (List.map (fun(x:(List A0))=>[sr eAs1 x]) w++tl)) F [] H1) (fun x e l w H1=>e= .exit 0∧l=[]∧B7 (I (List.map (fun(x:(List A0))=>[sr eAs1 x]) w++tl)) F [] H1) (fun e l H1=>(e= .ret∧l=[]∧B7 D F [] H1)) (by kernel_rfl) ?_ (w':=w3++[]) () hx ?_ ?_ ?_ ?_
 ·rintro s1 _ w4 w5 H o hO h;clear hx
  skip
  cbv;refine E5 hE ?_;cbv;refine A9 hE h (fun _ h=>?_) fun _ h=>?_
  ·cbv;refine C5 hE eAs8 h fun x7 h=>?_;cbv;refine A9 hE h (fun _ h=>?_) fun _ h=>?_
   ·cbv;refine D1 hE (g:=fun r8=>.bool r8) h (c231 N aJ aN.cS aR aN.Var s1) (.refl _) fun r8 h=>?_;cbv;refine A9 hE h (fun _ h=>?_) fun _ h=>?_
    ·cbv;obtain⟨w9,h1,he⟩:=U8 h;clear h;have h:=h1;clear h1
     rw[he,append_assoc]at hO
     clear he;have hO:B7 (I ([sr eAs1 ([(⟨aN.Var,s1⟩:A0)])]::(List.map (fun(x:(List A0))=>[sr eAs1 x]) (w9++w5)++tl))) F [] _:=hO;refine DG hE hI hD hy hO (.cons (.lit _ (F6 ((eAt4 (⟨aN.Var,s1⟩:A0)).symm) (F3))) (.refl _)) (fun H hO=>?_) (fun H hO=>?_)
     ·cbv;refine HS hE (nt_eq _) ?_;cbv;obtain⟨hw,rfl⟩:=C6 h
      rw[←hw]at hO
      exact⟨_,(),rfl,.e rfl (.e4 .z),rfl,hO⟩
     clear h;cbv;refine HR hE (nt_eq _) ?_;cbv;exact .inr ⟨_,⟨rfl,rfl,hO⟩,.z,rfl⟩
    cbv;obtain⟨hw,rfl⟩:=C6 h
    rw[←hw]at hO
    exact⟨_,(),rfl,.e rfl (.e4 .z),rfl,hO⟩
   cbv;obtain⟨hw,rfl⟩:=C6 h
   rw[←hw]at hO
   exact⟨_,(),rfl,.e rfl (.e4 .z),rfl,hO⟩
  cbv;obtain⟨hw,rfl⟩:=C6 h
  rw[←hw]at hO
  exact .inl ⟨_,_,rfl,⟨rfl,rfl,hO⟩,.z,rfl⟩
 ·exact .e rfl (.e4 .z)
 ·exact hO
 ·rintro e l H ⟨rfl,rfl,hO⟩;clear hx;cbv;obtain⟨hw,_⟩:=C6 h
  rw[←hw]at hO
  exact hK _ _ _ hO trivial
 rintro e l H hX;obtain⟨rfl,rfl,hO⟩:=hX;clear h;cbv;exact hKD _ _ _ hO trivial
theorem c190 (N aI aA aL aO r)(h:K0 N aI aA aL aO=some r):An prog 190 [.eref (B0 aI) 0,(B8 aA),sr eAs1 aL,vi aO] (fun v=>EU prog v (r.map fun(x:(List A0))=>[sr eAs1 x])):=by
 unfold K0 at h
 refine Q9 cf0 Q4 func190 (by rfl) (by kernel_rfl) call190 ntmps190 (by rfl) (by rfl) ?_;intro E H0 K hE hK;have hO:B7 Eq H0 [] H0:=.start G0 rfl;cbv;exact hK _ _ _ hO (U6 call230 (c230 N aO aI aA aL r h))
theorem c267 (N aG r) (h:E6 N aG=some r):FE prog 267 (fun yv=>[yv,.eref [sr eAs5 aG] 0]) (List.map (fun(x:(List A0))=>[sr eAs1 x]) r) rbN:=by
 unfold E6 at h
 obtain⟨⟨w0,u0⟩,h1,hr⟩:=bind_some h;clear h;have hr:=AP hr;subst hr;have h:=h1;clear h1;refine N4 cf0 Q4 func267 (by rfl) (by kernel_rfl) call267 ntmps267 (by rfl) (fun _=>rfl) ?_;intro yv I D hI hD hy tl F E H K hE hO hK hKD
 have hO:B7 (I (List.map (fun(x:(List A0))=>[sr eAs1 x]) (w0++[])++tl)) F [] H:=by rw[append_nil];exact hO
 cbv;refine E5 hE ?_;cbv;obtain⟨w2,w3,s6,hx,h1,he⟩:=P8 h;clear h;have h:=h1;clear h1
 rw[he,append_assoc]at hO
 clear he;refine Ci cf0 hE Q4 (γ:=Unit) (fun s1 g=>[(0,.v (yv)),(5,.v (sr eAs5 aG)),fi 6 (Ar.len aG),fi 7 s1]) (fun s1 g w H1=>B7 (I (List.map (fun(x:(List A0))=>[sr eAs1 x]) w++tl)) F [] H1) (fun x e l w H1=>e= .exit 0∧l=[]∧B7 (I (List.map (fun(x:(List A0))=>[sr eAs1 x]) w++tl)) F [] H1) (fun e l H1=>(e= .ret∧l=[]∧B7 D F [] H1)) (by kernel_rfl) ?_ (w':=w3++[]) () hx ?_ ?_ ?_ ?_
 ·rintro s1 _ w4 w5 H o hO h;clear hx
  skip
  cbv;refine A9 hE h (fun _ h=>?_) fun _ h=>?_
  ·cbv;refine C5 hE eAt5 h fun x7 h=>?_;cbv;obtain⟨w8,h1,he⟩:=U8 h;clear h;have h:=h1;clear h1
   rw[he,append_assoc]at hO
   clear he;have hO:B7 (I ([sr eAs1 x7]::(List.map (fun(x:(List A0))=>[sr eAs1 x]) (w8++w5)++tl))) F [] _:=hO;refine DG hE hI hD hy hO (.refl _) (fun H hO=>?_) (fun H hO=>?_)
   ·cbv;refine HS hE (nt_eq _) ?_;cbv;obtain⟨hw,rfl⟩:=C6 h
    rw[←hw]at hO
    exact⟨_,(),rfl,.e4 .z,rfl,hO⟩
   clear h;cbv;refine HR hE (nt_eq _) ?_;cbv;exact .inr ⟨_,⟨rfl,rfl,hO⟩,.z,rfl⟩
  cbv;obtain⟨hw,rfl⟩:=C6 h
  rw[←hw]at hO
  exact .inl ⟨_,_,rfl,⟨rfl,rfl,hO⟩,.z,rfl⟩
 ·exact .e4 .z
 ·exact hO
 ·rintro e l H ⟨rfl,rfl,hO⟩;clear hx;cbv;obtain⟨hw,_⟩:=C6 h
  rw[←hw]at hO
  exact hK _ _ _ hO trivial
 rintro e l H hX;obtain⟨rfl,rfl,hO⟩:=hX;clear h;cbv;exact hKD _ _ _ hO trivial
theorem c232 (N aH r)(h:N6 N aH=some r):An prog 232 [sr eAs5 aH] (fun v=>EU prog v (r.map fun(x:(List A0))=>[sr eAs1 x])):=by
 unfold N6 at h
 refine Q9 cf0 Q4 func232 (by rfl) (by kernel_rfl) call232 ntmps232 (by rfl) (by rfl) ?_;intro E H0 K hE hK;have hO:B7 Eq H0 [] H0:=.start G0 rfl;cbv;exact hK _ _ _ hO (U6 call267 (c267 N aH r h))
theorem c286 {cmp:A0→A0→Option Int}{g:Nat}{C:List V}(eg:∀vals w,(callFunc g vals).run prog w= .ok (.enter g vals) w)(hc:∀y1 y2 r,cmp y1 y2=some r→B2 prog g ([(M2 y1),(M2 y2)]++C) (vi r)){l r:List A0}(h:Gg cmp l=some r):
 PV prog 286 (.func (.func g) [] C) 2 (lst eAs1 l) (lst eAs1 r):=KK Go.Proofs.Tryz.sorts286 call286 (va:=fun x=>(EP x)) eAt4 (fun _=>rfl) eg hc h
theorem c287 (N aM bB r)(h:Ba N aM bB=some r):B2 prog 287 [(M2 aM),(M2 bB)] (vi r):=by
 unfold Ba at h
 refine K5 cf0 func287 call287 ntmps287 ?_;intro E H0 K hE hK hO;cbv;cases h;exact hK hO (.refl _)
theorem c269 (N aC aD r)(h:L4 N aC aD=some r):B2 prog 269 [sr eAs1 aC,sr eAs1 aD] (sr eAs1 r):=by
 unfold L4 at h
 refine MX (T:=TT) cf0 Q4 func269 (by rfl) (by kernel_rfl) call269 ntmps269 (by rfl) (by rfl) ?_;intro E H0 K hE hK hF;have hO:B7 Eq H0 [] H0:=.start G0 rfl;cbv;refine E5 hE ?_;cbv;refine E5 hE ?_;cbv;refine Ag0 hE (f:=eAs1) (by decide) (z0:=((⟨0,0⟩:A0):A0)) ((.eq (eAt4 _) (.refl _))) hO h fun l2 q1 H hq1 h hO=>?_;cbv;refine GO (f:=eAs1) hE X7 (by decide) hO hq1 0 rfl (m:=aC) (GB (f:=eAs1) hE X7 (.refl _)) h fun l4 q3 H hq3 hO h=>?_;cbv;refine GO (f:=eAs1) hE X7 (by decide) hO hq3 0 rfl (m:=aD) (GB (f:=eAs1) hE X7 (.refl _)) h fun l6 q5 H hq5 hO h=>?_;cbv;refine Ml hE hO hq5 0 rfl h (fun l7 hx=>c286 (g:=287) (C:=[]) call287 (fun y1 y2 r hx=>c287 N y1 y2 r hx) hx) fun l7 H hq5 hO h=>?_;cbv;cases h;exact hF q5 _ _ 0 _ _ hO rfl (Ch hE hq5) (.refl _)
theorem c270 (N aH r)(h:K7 N aH=some r):B2 prog 270 [sr eAs1 aH] (vi r):=by
 unfold K7 at h
 refine K5 cf0 func270 call270 ntmps270 ?_;intro E H0 K hE hK hO;cbv;refine E5 hE ?_;cbv;refine C5 hE eAt4 h fun x1 h=>?_;cbv;cases h;exact hK hO (.refl _)
theorem c301 (N:Nat) (aH:List A0) (aU:V) (aS:A0→Option Bool) (bD:∀y1 q,aS y1=some q→R9 prog aU [(M2 y1)] (.bool q)) (r:Int) (h:N7 N aH aS=some r):B2 prog 301 [sr eAs1 aH,aU] (vi r):=by
 unfold N7 at h
 refine K5 cf0 func301 call301 ntmps301 ?_;intro E H0 K hE hK hO;cbv;refine E5 hE ?_;cbv;obtain⟨s2,hx,h⟩:=bind_some h;refine G6 cf0 hE Q4 (fun s1=>[(0,.v (sr eAs1 aH)),(1,.v (aU)),fi 7 (Ar.len aH),fi 8 s1]) (fun s1 H1=>B7 Eq H0 [] H1) (fun x e l H1=>match(generalizing:=false) x with| .inl y=>e= .exit 0∧l=[]∧B7 Eq H0 [] H1| .inr y=>e= .ret∧l=[fi 4 y]∧B7 Eq H0 [] H1) (by kernel_rfl) ?_ hx ?_ hO ?_
 ·intro s1 H o hO h;clear hx;cbv;refine A9 hE h (fun _ h=>?_) fun _ h=>?_
  ·cbv;refine C5 hE eAt4 h fun x3 h=>?_;cbv;refine Y0 hE (g:=fun r4=>.bool r4) h (fun r4 hx=>bD x3 r4 hx) (.refl _) fun r4 h=>?_;cbv;refine A9 hE h (fun _ h=>?_) fun _ h=>?_
   ·cbv;cases h;exact⟨_,_,rfl,⟨rfl,rfl,hO⟩,.e rfl .z,rfl⟩
   cbv;cases h;exact⟨_,rfl,.e4 .z,rfl,hO⟩
  cbv;cases h;exact⟨_,_,rfl,⟨rfl,rfl,hO⟩,.z,rfl⟩
 ·exact .e4 .z
 clear hx
 rcases s2 with y5|y6
 ·rintro e l H ⟨rfl,rfl,hO⟩;cbv;cases h;exact hK hO (.refl _)
 rintro e l H ⟨rfl,rfl,hO⟩;cbv;cases h;exact hK hO (.refl _)
theorem c288 (N:Nat)(aH:List A0)(aU:V)(aS:A0→Option Bool)(bD:∀y1 q,aS y1=some q→R9 prog aU [(M2 y1)] (.bool q))(r:Bool)(h:G1 N aH aS=some r):B2 prog 288 [sr eAs1 aH,aU] (.bool r):=by
 unfold G1 at h
 refine K5 cf0 func288 call288 ntmps288 ?_;intro E H0 K hE hK hO;cbv;refine A5 hE h (c301 N aH aU aS bD) (.refl _) fun r1 h=>?_;cbv;cases h;exact hK hO (.refl _)
theorem c290 (N aM aG r)(h:S7 N aM aG=some r):B2 prog 290 [(M2 aM),.eref [vi aG] 0] (.bool r):=by
 unfold S7 at h
 refine K5 cf0 func290 call290 ntmps290 ?_;intro E H0 K hE hK hO;cbv;cases h;exact hK hO (.refl _)
theorem c272 (N aH bF r)(h:S2 N aH bF=some r):B2 prog 272 [sr eAs1 aH,vi bF] (.bool r):=by
 unfold S2 at h
 refine K5 cf0 func272 call272 ntmps272 ?_;intro E H0 K hE hK hO;cbv;refine A5 hE (g:=fun r1=>.bool r1) h (fun r1 hx=>c288 N aH (.func (.func 290) [] [.eref [vi bF] 0]) (fun y1=>S7 N y1 bF) (fun y1 r hx=>B2.value (F:=[]) (C:=[.eref [vi bF] 0]) (c290 N y1 bF r hx)) r1 hx) (.refl _) fun r1 h=>?_;cbv;cases h;exact hK hO (.refl _)
theorem c289 (N aM aG r)(h:W3 N aM aG=some r):B2 prog 289 [(M2 aM),.eref [sr eAs1 aG] 0] (.bool r):=by
 unfold W3 at h
 refine K5 cf0 func289 call289 ntmps289 ?_;intro E H0 K hE hK hO;cbv;refine A5 hE h (c272 N aG aM.at_) (.refl _) fun r1 h=>?_;cbv;cases h;exact hK hO (.refl _)
theorem c271 (N aC aD r)(h:Ag N aC aD=some r):B2 prog 271 [sr eAs1 aC,sr eAs1 aD] (.bool r):=by
 unfold Ag at h
 refine K5 cf0 func271 call271 ntmps271 ?_;intro E H0 K hE hK hO;cbv;refine A5 hE (g:=fun r1=>.bool r1) h (fun r1 hx=>c288 N aC (.func (.func 289) [] [.eref [sr eAs1 aD] 0]) (fun y1=>W3 N y1 aD) (fun y1 r hx=>B2.value (F:=[]) (C:=[.eref [sr eAs1 aD] 0]) (c289 N y1 aD r hx)) r1 hx) (.refl _) fun r1 h=>?_;cbv;cases h;exact hK hO (.refl _)
def cf237 :Cf:=⟨[],[(6,11)],[],[],[],[]⟩
theorem c237 (N:Nat):∀n bQ bK r,S4 N n bQ bK=some r→FE prog 237 (fun yv=>[sr eAt7 bQ,sr eAs1 bK,yv]) (List.map (fun(x:(List A0))=>[sr eAs1 x]) r) rbB:=by
 intro n
 induction n with
 |zero=>intro bQ bK r h;cases h
 |succ n ih=>
 intro bQ bK r h
 unfold S4 at h
 obtain⟨⟨w0,u0⟩,h1,hr⟩:=bind_some h;clear h;have hr:=AP hr;subst hr;have h:=h1;clear h1;refine N4 cf237 Q4 func237 (by rfl) (by kernel_rfl) call237 ntmps237 (by rfl) (fun _=>rfl) ?_;intro yv I D hI hD hy tl F E H K hE hO hK hKD
 have hO:B7 (I (List.map (fun(x:(List A0))=>[sr eAs1 x]) (w0++[])++tl)) F [] H:=by rw[append_nil];exact hO
 cbv;refine E5 hE ?_;cbv;refine A9 hE h (fun _ h=>?_) fun _ h=>?_
 ·cbv;obtain⟨w1,h1,he⟩:=U8 h;clear h;have h:=h1;clear h1
  rw[he,append_assoc]at hO
  clear he;have hO:B7 (I ([sr eAs1 bK]::(List.map (fun(x:(List A0))=>[sr eAs1 x]) (w1++[])++tl))) F [] _:=hO;refine DG hE hI hD hy hO (.refl _) (fun H hO=>?_) (fun H hO=>?_)
  ·cbv;obtain⟨hw,_⟩:=C6 h
   rw[←hw]at hO
   exact hK _ _ _ hO rfl
  clear h;cbv;exact hKD _ _ _ hO rfl
 cbv;refine C5 hE eAu1 h fun x2 h=>?_;cbv;refine E5 hE ?_;cbv;obtain⟨w4,w5,s8,hx,h1,he⟩:=P8 h;clear h;have h:=h1;clear h1
 rw[he,append_assoc]at hO
 clear he;refine Ci cf237 hE Q4 (γ:=Unit) (fun s3 g=>[(0,.v (sr eAt7 bQ)),(1,.v (sr eAs1 bK)),(2,.v (yv)),(17,.v (sr eAs5 x2)),fi 18 (Ar.len x2),fi 19 s3]) (fun s3 g w H1=>B7 (I (List.map (fun(x:(List A0))=>[sr eAs1 x]) w++tl)) F [] H1) (fun x e l w H1=>e= .exit 0∧l=[]∧B7 (I (List.map (fun(x:(List A0))=>[sr eAs1 x]) w++tl)) F [] H1) (fun e l H1=>(e= .ret∧l=[(6,.b false)]∧B7 D F [] H1)) (by kernel_rfl) ?_ (w':=w5++[]) () hx ?_ ?_ ?_ ?_
 ·rintro s3 _ w6 w7 H o hO h;clear hx
  skip
  cbv;refine A9 hE h (fun _ h=>?_) fun _ h=>?_
  ·cbv;refine C5 hE eAt5 h fun x9 h=>?_;cbv;refine D1 hE (g:=fun r10=>.bool r10) h (c271 N bK x9) (.refl _) fun r10 h=>?_;cbv;refine A9 hE h (fun _ h=>?_) fun _ h=>?_
   ·cbv;refine KZ hE (f:=eAt7) Cx h fun l11 t12 h=>?_;cbv;refine D1 hE (g:=fun r13=>sr eAs1 r13) h (c269 N bK x9) (.refl _) fun r13 h=>?_;cbv;obtain⟨l14,hl,h⟩:=bind_some h;obtain⟨w15,h1,he⟩:=U8 h;clear h;have h:=h1;clear h1
    rw[he,append_assoc]at hO
    clear he
    rw[List.map_append,append_assoc]at hO
    refine Pj hE hI hD hy (ih l11 r13 l14 hl) hO (.cons (.ro _ _) (.refl _)) (fun v H hb hO=>?_) (fun v H hb hO=>?_)
    ·cases hb;clear hl;cbv;refine HS hE (nt_eq _) ?_;cbv;obtain⟨hw,rfl⟩:=C6 h
     rw[←hw]at hO
     exact⟨_,(),rfl,.e2 (.e4 .z),rfl,hO⟩
    cases hb;clear h hl;cbv;refine HR hE (nt_eq _) ?_;cbv;exact .inr ⟨_,⟨rfl,rfl,hO⟩,.b rfl (.z),rfl⟩
   cbv;obtain⟨hw,rfl⟩:=C6 h
   rw[←hw]at hO
   exact⟨_,(),rfl,.e2 (.e4 .z),rfl,hO⟩
  cbv;obtain⟨hw,rfl⟩:=C6 h
  rw[←hw]at hO
  exact .inl ⟨_,_,rfl,⟨rfl,rfl,hO⟩,.z,rfl⟩
 ·exact .e2 (.e4 .z)
 ·exact hO
 ·rintro e l H ⟨rfl,rfl,hO⟩;clear hx;cbv;obtain⟨hw,_⟩:=C6 h
  rw[←hw]at hO
  exact hK _ _ _ hO rfl
 rintro e l H hX;obtain⟨rfl,rfl,hO⟩:=hX;clear h;cbv;exact hKD _ _ _ hO rfl
def cf241 :Cf:=⟨[],[(3,23),(5,13),(10,25)],[],[],[],[]⟩
theorem c241 (N aI aA aL aH r) (h:P4 N aI aA aL aH=some r):B2 prog 241 [.eref (B0 aI) 0,(B8 aA),sr eAs1 aL,sr eAs1 aH] (.bool r):=by
 unfold P4 at h
 refine K5 cf241 func241 call241 ntmps241 ?_;intro E H0 K hE hK hO;cbv;refine A9 hE h (fun _ h=>?_) fun _ h=>?_
 ·cbv;refine D1 hE (g:=fun r1=>vi r1) h (c270 N aH) (.refl _) fun r1 h=>?_;cbv;refine C5 hE eAs8 h fun x2 h=>?_;cbv;refine C5 hE eAt4 h fun x3 h=>?_;cbv;refine C5 hE eAs8 h fun x4 h=>?_;cbv;cases h;exact hK hO (.refl _)
 cbv;refine A9 hE h (fun _ h=>?_) fun _ h=>?_
 ·cbv;refine D1 hE (g:=fun r5=>sr eAs1 r5) h (c269 N aL aH) (.refl _) fun r5 h=>?_;cbv;refine E5 hE ?_;cbv;refine D1 hE (g:=fun r6=>(Qh r6)) h (c266 N aI r5 (Ar.len aI.cY)) (.refl _) fun r6 h=>?_;cbv;refine A5 hE h (c265 N aA.cS r6 (-1) (⟨0,0,0,0,[]⟩:A4)) (.cons (.refl _) (.cons (.refl _) (.cons (.refl _) (.cons (.agg (.cons (.refl _) (.cons (.refl _) (.cons (.refl _) (.cons (.refl _) (.cons (.lit _ (F3)) (.refl _))))))) (.refl _))))) fun r7 h=>?_;cbv;cases h;exact hK hO (.refl _)
 cbv;refine A5 hE h (c269 N aL aH) (.refl _) fun r8 h=>?_;cbv;refine C5 hE eAt4 h fun x9 h=>?_;cbv;obtain⟨s11,hx,h⟩:=bind_some h;refine G6 cf241 hE Q4 (fun s10=>[(0,.v (.eref (B0 aI) 0)),(3,.v (sr eAs1 aH)),(5,.v (.eref (D4 aA) 0)),(9,.v (sr eAs1 r8)),fi 10 s10]) (fun s10 H1=>B7 Eq H0 [] H1) (fun x e l H1=>match(generalizing:=false) x with| .inl y=>e= .exit 1∧l=[]∧B7 Eq H0 [] H1| .inr y=>e= .ret∧l=[(8,.b false)]∧B7 Eq H0 [] H1) (by kernel_rfl) ?_ hx ?_ hO ?_
 ·intro s10 H o hO h;clear hx;cbv;refine A5 hE h (c270 N aH) (.refl _) fun r12 h=>?_;cbv;refine A9 hE h (fun _ h=>?_) fun _ h=>?_
  ·cbv;refine C5 hE eAs8 h fun x13 h=>?_;cbv;refine A9 hE h (fun _ h=>?_) fun _ h=>?_
   ·cbv;refine D1 hE (g:=fun r14=>.bool r14) h (c272 N aH s10) (.refl _) fun r14 h=>?_;cbv;refine A9 hE h (fun _ h=>?_) fun _ h=>?_
    ·cbv;refine A5 hE h (c231 N aI aA.cS r8 aA.Var s10) (.refl _) fun r15 h=>?_;cbv;refine A9 hE h (fun _ h=>?_) fun _ h=>?_
     ·cbv;cases h;exact⟨_,_,rfl,⟨rfl,rfl,hO⟩,.b rfl (.z),rfl⟩
     cbv;cases h;exact⟨_,rfl,.e rfl (.e4 .z),rfl,hO⟩
    cbv;cases h;exact⟨_,rfl,.e rfl (.e4 .z),rfl,hO⟩
   cbv;cases h;exact⟨_,rfl,.e rfl (.e4 .z),rfl,hO⟩
  cbv;cases h;exact⟨_,_,rfl,⟨rfl,rfl,hO⟩,.z,rfl⟩
 ·exact .e rfl (.e4 .z)
 clear hx
 rcases s11 with y16|y17
 ·rintro e l H ⟨rfl,rfl,hO⟩;cbv;cases h;exact hK hO (.refl _)
 rintro e l H ⟨rfl,rfl,hO⟩;cbv;cases h;exact hK hO (.refl _)
def cf127 :Cf:=⟨[8,9],[(3,3)],[(39,12)],[],[],[]⟩
def NC (N n:Nat):Prop:=∀(aI:A8) (aA:A1) (aL:List A0) (aO:Int) (r:(List (List A0))),C3 N n aI aA aL aO=some r→B2 prog 127 [.eref (B0 aI) 0,(B8 aA),sr eAs1 aL,vi aO] (sr eAs5 r)
def cf191 :Cf:=⟨[9],[(2,7),(5,8)],[],[],[(400000005,9)],[]⟩
def An6 (N n:Nat):Prop:=∀(aI:A8) (aA:A1) (aL:List A0) (aO:Int) (r:(List (List A0))),L7 N n aI aA aL aO=some r→An prog 191 [.eref (B0 aI) 0,(B8 aA),sr eAs1 aL,vi aO] (fun v=>EU prog v (r.map fun(x:(List A0))=>[sr eAs1 x]))
def An5 (N n:Nat):Prop:=∀(aI:A8) (aA:A1) (aL:List A0) (aO:Int) (r:(List (List A0))),L8 N n aI aA aL aO=some r→An prog 192 [.eref (B0 aI) 0,(B8 aA),sr eAs1 aL,vi aO] (fun v=>EU prog v (r.map fun(x:(List A0))=>[sr eAs1 x]))
def An4 (N n:Nat):Prop:=∀(aI:A8) (aA:A1) (aL:List A0) (aO:Int) (r:(List (List A0))),L9 N n aI aA aL aO=some r→An prog 193 [.eref (B0 aI) 0,(B8 aA),sr eAs1 aL,vi aO] (fun v=>EU prog v (r.map fun(x:(List A0))=>[sr eAs1 x]))
def An3 (N n:Nat):Prop:=∀(aI:A8) (aA:A1) (aL:List A0) (aO:Int) (r:(List (List A0))),K9 N n aI aA aL aO=some r→An prog 194 [.eref (B0 aI) 0,(B8 aA),sr eAs1 aL,vi aO] (fun v=>EU prog v (r.map fun(x:(List A0))=>[sr eAs1 x]))
def An2 (N n:Nat):Prop:=∀(aI:A8) (aA:A1) (aL:List A0) (aO:Int) (r:(List (List A0))),E8 N n aI aA aL aO=some r→An prog 195 [.eref (B0 aI) 0,(B8 aA),sr eAs1 aL,vi aO] (fun v=>EU prog v (r.map fun(x:(List A0))=>[sr eAs1 x]))
def cf233 :Cf:=⟨[1000009],[],[],[],[],[]⟩
def Ae2 (N n:Nat):Prop:=∀(aI:A8) (aA:A1) (aL:List A0) (aO:Int) (bW:V) (bT:(List A0)→Int→Option (List (List A0))) (cJ:∀y1 y2 q,bT y1 y2=some q→R9 prog bW [sr eAs1 y1,vi y2] (sr eAs5 q)) (cK:OneV bW) (r:(List (List A0))),K8 N n aI aA aL aO bT=some r→An prog 233 [.eref (B0 aI) 0,(B8 aA),sr eAs1 aL,vi aO,bW] (fun v=>EU prog v (r.map fun(x:(List A0))=>[sr eAs1 x]))
def An1 (N n:Nat):Prop:=∀(aL:List A0) (aO:Int) (aJ:A8) (aN:A1) (r:(List (List A0))),J9 N n aL aO aJ aN=some r→B2 prog 234 [sr eAs1 aL,vi aO,.eref [.eref (B0 aJ) 0] 0,.eref (D4 aN) 0] (sr eAs5 r)
def An0 (N n:Nat):Prop:=∀(aG:A1) (aJ:A8) (aN:List A0) (aR:Int) (r:(List (List A0))),P5 N n aG aJ aN aR=some r→FE prog 235 (fun yv=>[yv,.eref (D4 aG) 0,.eref [.eref (B0 aJ) 0] 0,.eref [sr eAs1 aN] 0,.eref [vi aR] 0]) (List.map (fun(x:(List A0))=>[sr eAs1 x]) r) rbN
def Am9 (N n:Nat):Prop:=∀(aG:A1) (aJ:A8) (aN:List A0) (aR:Int) (r:(List (List A0))),P6 N n aG aJ aN aR=some r→FE prog 236 (fun yv=>[yv,.eref (D4 aG) 0,.eref [.eref (B0 aJ) 0] 0,.eref [sr eAs1 aN] 0,.eref [vi aR] 0]) (List.map (fun(x:(List A0))=>[sr eAs1 x]) r) rbN
def cf238 :Cf:=⟨[1000005],[(1,10),(6,8)],[],[],[],[]⟩
def Am8 (N n:Nat):Prop:=∀(aG:A8) (aJ:A1) (aN:List A0) (aR:Int) (r:(List (List A0))),O0 N n aG aJ aN aR=some r→FE prog 238 (fun yv=>[yv,.eref [.eref (B0 aG) 0] 0,.eref (D4 aJ) 0,.eref [sr eAs1 aN] 0,.eref [vi aR] 0]) (List.map (fun(x:(List A0))=>[sr eAs1 x]) r) rbN
def Am7 (N n:Nat):Prop:=∀(aL:List A0) (aO:Int) (aJ:A8) (aN:A1) (r:(List (List A0))),G8 N n aL aO aJ aN=some r→B2 prog 239 [sr eAs1 aL,vi aO,.eref [.eref (B0 aJ) 0] 0,.eref (D4 aN) 0] (sr eAs5 r)
def cf240 :Cf:=⟨[],[(0,10)],[],[],[],[]⟩
def Am6 (N n:Nat):Prop:=∀(aG:A8) (aJ:A1) (aN:List A0) (aR:Int) (r:(List (List A0))),N9 N n aG aJ aN aR=some r→FE prog 240 (fun yv=>[yv,.eref [.eref (B0 aG) 0] 0,.eref (D4 aJ) 0,.eref [sr eAs1 aN] 0,.eref [vi aR] 0]) (List.map (fun(x:(List A0))=>[sr eAs1 x]) r) rbN
def cf268 :Cf:=⟨[],[(3,10)],[],[],[],[]⟩
def Am5 (N n:Nat):Prop:=∀(aG:A8) (aJ:A1) (aN:List A0) (aR:Int) (bU:V) (bV:(List A0)→Int→Option (List (List A0))) (cL:∀y1 y2 q,bV y1 y2=some q→R9 prog bU [sr eAs1 y1,vi y2] (sr eAs5 q)) (r:(List (List A0))),N8 N n aG aJ aN aR bV=some r→FE prog 268 (fun yv=>[yv,.eref [.eref (B0 aG) 0] 0,.eref (D4 aJ) 0,.eref [sr eAs1 aN] 0,.eref [vi aR] 0,.eref [bU] 0]) (List.map (fun(x:(List A0))=>[sr eAs1 x]) r) rbN
theorem k127 (N n:Nat) (ih191:An6 N n) (ih192:An5 N n) (ih193:An4 N n) (ih194:An3 N n) (ih195:An2 N n):NC N (n+1):=by
 intro aI aA aL aO r h
 unfold C3 at h
 refine K5 cf127 func127 call127 ntmps127 ?_;intro E H0 K hE hK hO;cbv;refine D0 hE hO fun b1 H hO=>?_;cbv;refine D0 hE hO fun b2 H hO=>?_;cbv;refine Ag1 hE .string V.str V.bool hO fun m3 o4 H ho4 hO=>?_;cbv;refine D1 hE (g:=fun r5=>.agg [.func (.func 190) [] [],.func (.func 191) [] [],.func (.func 192) [] [],.func (.func 193) [] [],.func (.func 194) [] [],.func (.func 195) [] [],.func (.func 195) [] [],.func (.func 195) [] []]) h (c159 N) (.refl _) fun r5 h=>?_;cbv;refine Aa6 hE (Good:=fun v6 (f7:A8→A1→(List A0)→Int→Option (List (List A0)))=>∀y1 y2 y3 y4 q,f7 y1 y2 y3 y4=some q→TS prog v6 [.eref (B0 y1) 0,(B8 y2),sr eAs1 y3,vi y4] (fun w=>EU prog w (q.map fun(x:(List A0))=>[sr eAs1 x]))) (xs:=[.func (.func 190) [] [],.func (.func 191) [] [],.func (.func 192) [] [],.func (.func 193) [] [],.func (.func 194) [] [],.func (.func 195) [] [],.func (.func 195) [] [],.func (.func 195) [] []]) (.cons (fun y1 y2 y3 y4 r hx=>An.value (F:=[]) (C:=[]) (c190 N y1 y2 y3 y4 r hx)) (.cons (fun y1 y2 y3 y4 r hx=>An.value (F:=[]) (C:=[]) (ih191 y1 y2 y3 y4 r hx)) (.cons (fun y1 y2 y3 y4 r hx=>An.value (F:=[]) (C:=[]) (ih192 y1 y2 y3 y4 r hx)) (.cons (fun y1 y2 y3 y4 r hx=>An.value (F:=[]) (C:=[]) (ih193 y1 y2 y3 y4 r hx)) (.cons (fun y1 y2 y3 y4 r hx=>An.value (F:=[]) (C:=[]) (ih194 y1 y2 y3 y4 r hx)) (.cons (fun y1 y2 y3 y4 r hx=>An.value (F:=[]) (C:=[]) (ih195 y1 y2 y3 y4 r hx)) (.cons (fun y1 y2 y3 y4 r hx=>An.value (F:=[]) (C:=[]) (ih195 y1 y2 y3 y4 r hx)) (.cons (fun y1 y2 y3 y4 r hx=>An.value (F:=[]) (C:=[]) (ih195 y1 y2 y3 y4 r hx)) (.nil))))))))) h fun v6 f7 hv6 h=>?_;cbv;refine Yb hE h (fun r8 hx=>hv6 aI aA aL aO r8 hx) (.refl _) fun r8 v9 hv9 h=>?_;cbv;replace hO:=hO.tl0 (t:=.nil) rfl;obtain⟨o16,hx,h⟩:=bind_some h;replace hO:=hO.cast (L':=[.tl .nil,.blk m3 (.obj o4),cb b2 [.sl (lst eAs5 ([])) .nil],cb b1 [.sl [] .nil]]) (by simp only[ob,cb,sr,←F3]<;>rfl);refine La cf127 hE Q4 (ι:=Unit) (enc:=fun(x:(List A0))=>[sr eAs1 x]) (fun(s11:(List (ByteArray×Bool))×(List (List A0))) F H=>∃g:E3×Obj,(BF g.1∧WN .string V.str V.bool g.2 s11.1)∧B7 Eq F [.tl g.1,.blk m3 (.obj g.2),cb b2 [.sl (lst eAs5 s11.2) g.1],cb b1 [.sl [] .nil]] H) (fun(r:((List (ByteArray×Bool))×(List (List A0)))) e F H=>∃g:E3×Obj,(e= .ret∧BF g.1∧WN .string V.str V.bool g.2 r.1)∧B7 Eq F [.tl g.1,.blk m3 (.obj g.2),cb b2 [.sl (lst eAs5 r.2) g.1],cb b1 [.sl [] .nil]] H) (fun i s11 y10=>[(4,.v (.eref [.eref (B0 aI) 0] 0)),(8,.v (.ref b1 0)),(9,.v (.ref b2 0)),(10,.v (.eref [.map m3] 0)),(12,.v (sr eAs1 y10))]) (fun i s11 y10 F H=>∃g:E3×Obj,(BF g.1∧WN .string V.str V.bool g.2 s11.1)∧B7 Eq F [.tl g.1,.blk m3 (.obj g.2),cb b2 [.sl (lst eAs5 s11.2) g.1],cb b1 [.sl [] .nil]] H) (fun _=>E0.ex fun _=>B7.stable G0 _) (fun _ _=>E0.ex fun _=>B7.stable G0 _) (fun _ _ _=>E0.ex fun _=>B7.stable G0 _) hv9 hx (⟨⟨.nil,o4⟩,⟨trivial,ho4⟩,hO⟩) (by decide) (fun _=>rfl) (by kernel_rfl) (by kernel_rfl) ?_ ?_ ?_ ?_
 ·rintro E i13 y10 s11 F12 H hE ⟨⟨t14,q15⟩,⟨ht14,hq15⟩,hO⟩;clear hx h;cbv;exact⟨(),⟨⟨t14,q15⟩,⟨ht14,hq15⟩,hO⟩,.e rfl (.e4 .z),rfl⟩
 ·rintro E i13 _ y10 s11 F12 H o hE hF h ⟨⟨t14,q15⟩,⟨ht14,hq15⟩,hO⟩;clear hx;cbv;refine A5 hE h (c160 N y10) (.refl _) fun r17 h=>?_;cbv;refine Ta hE (kt:=9) (et:=4) (by kernel_rfl) (by kernel_rfl) Re (false:Bool) (by kernel_rfl) rfl hO hq15 1 rfl h fun r18 h=>?_;cbv;refine A9 hE h (fun _ h=>?_) fun _ h=>?_
  ·cbv;cases h;exact⟨_,rfl,⟨⟨t14,q15⟩,⟨ht14,hq15⟩,hO⟩⟩
  cbv;refine SZ hE (kt:=9) (et:=4) (by kernel_rfl) (by kernel_rfl) Re JR hO hq15 1 rfl h fun l20 o19 H ho19 h hO=>?_;cbv;refine B5 hE hO 2 rfl ?_;cbv;refine FO (f:=eAs5) hE Gz (by decide) hO 0 rfl ht14 (l:=s11.2) (m:=[y10]) (.refl _) (.lstc (.eq (eAt5 y10) (.refl _)) (.lst0)) h fun l22 t21 H hO ht21 h=>?_;cbv;refine B4 hE hO 2 rfl rfl fun H hO=>?_;cbv;refine B5 hE hO 2 rfl ?_;cbv;refine E5 hE ?_;cbv;obtain⟨s23,hx,h⟩:=bind_some h;refine Z8 cf127 hE Q4 (fun e l H1=>e= .normal∧l=[(4,.v (.eref [.eref (B0 aI) 0] 0)),(8,.v (.ref b1 0))]∧B7 Eq F12 [.tl t21,.blk m3 (.obj o19),cb b2 [.sl (lst eAs5 l22) t21],cb b1 [.sl [] .nil]] H1) (by kernel_rfl) ?_ ?_
  ·clear h;have h:=hx;clear hx;cbv;refine A9 hE h (fun _ h=>?_) fun _ h=>?_
   ·cbv;cases h
   cbv;cases h;exact⟨_,⟨rfl,rfl,hO⟩,.e2 .z,rfl⟩
  clear hx;rintro e l H ⟨rfl,rfl,hO⟩;cbv;refine A9 hE h (fun _ h=>?_) fun _ h=>?_
  ·cbv;refine B4 hE hO 3 rfl rfl fun H hO=>?_;cbv;cases h;exact⟨_,rfl,rfl,⟨⟨t21,o19⟩,⟨rfl,⟨ht21,ho19⟩⟩,hO⟩⟩
  cbv;cases h;exact⟨_,rfl,⟨⟨t21,o19⟩,⟨ht21,ho19⟩,hO⟩⟩
 ·rintro d24 s28 H rfl hd ⟨⟨t29,q30⟩,⟨ht29,hq30⟩,hO⟩;have hO:B7 Eq H0 [.tl t29,.blk m3 (.obj q30),cb b2 [.sl (lst eAs5 s28.2) t29],cb b1 [.sl [] .nil],.blk d24 DB] H:=B7.dblk hd hO;clear hd;clear hx;cbv;refine B5 hE hO 2 rfl ?_;cbv;refine B4 hE hO 3 rfl rfl fun H hO=>?_;cbv;refine Jc hE hO 4 rfl fun H hO=>?_;cbv;refine B5 hE hO 3 rfl ?_;cbv;cases h;exact hK hO (.ro _ _)
 rintro d24 y31 e H rfl hd hX;clear hx
 rcases hX with⟨⟨t32,q33⟩,⟨rfl,ht32,hq33⟩,hO⟩
 have hO:B7 Eq H0 [.tl t32,.blk m3 (.obj q33),cb b2 [.sl (lst eAs5 y31.2) t32],cb b1 [.sl [] .nil],.blk d24 DB] H:=B7.dblk hd hO;clear hd;cbv;refine Jc hE hO 4 rfl fun H hO=>?_;cbv;refine B5 hE hO 3 rfl ?_;cbv;cases h;exact hK hO (.lit _ (F3))
theorem k191 (N n:Nat)(ih127:NC N n)(ih233:Ae2 N n)(ih234:An1 N n):An6 N (n+1):=by
 intro aI aA aL aO r h
 unfold L7 at h
 refine Q9 cf191 Q4 func191 (by rfl) (by kernel_rfl) call191 ntmps191 (by rfl) (by rfl) ?_;intro E H0 K hE hK;have hO:B7 Eq H0 [] H0:=.start G0 rfl;cbv;refine E5 hE ?_;cbv;refine A9 hE h (fun _ h=>?_) fun _ h=>?_
 ·cbv;refine C5 hE eAs4 h fun x1 h=>?_;cbv;refine A5 hE h (ih127 aI x1 aL aO) (.refl _) fun r2 h=>?_;cbv;refine Hy hE h (c232 N r2) (.refl _) fun r3 v4 hv4 h=>?_;cbv;cases h;exact hK _ _ _ hO hv4
 cbv;refine D0 hE hO fun b5 H hO=>?_;cbv;refine B4 hE hO 0 rfl rfl fun H hO=>?_;cbv;refine KZ hE (f:=eAs6) Kl h fun l6 t7 h=>?_;cbv;refine B4 hE hO 0 rfl rfl fun H hO=>?_;cbv;refine Aj7 hE hO 0 rfl (.cons (.refl _) (.cons (.ro _ _) (.refl _))) fun H hO=>?_;cbv;refine C5 hE eAs4 h fun x8 h=>?_;cbv;refine Hy hE h (fun r9 hx=>ih233 aI x8 aL aO (.func (.func 234) [] [.eref [.eref (B0 aI) 0] 0,.eref [vi aA.Op,sr eAs6 l6,vi aA.Typ,vi aA.Var,vi aA.cU,vi aA.Span,vi aA.cS.Op,sr eAt1 aA.cS.cQ,vi aA.cS.Var,vi aA.cS.Field,vi aA.cS.Kind,vi aA.cS.Value.Kind,vi aA.cS.Value.Num,.str aA.cS.Value.Text] 0]) (fun y1 y2=>J9 N n y1 y2 aI ({aA with cQ:=l6})) (fun y1 y2 r hx=>B2.value (F:=[]) (C:=[.eref [.eref (B0 aI) 0] 0,.eref [vi aA.Op,sr eAs6 l6,vi aA.Typ,vi aA.Var,vi aA.cU,vi aA.Span,vi aA.cS.Op,sr eAt1 aA.cS.cQ,vi aA.cS.Var,vi aA.cS.Field,vi aA.cS.Kind,vi aA.cS.Value.Kind,vi aA.cS.Value.Num,.str aA.cS.Value.Text] 0]) (ih234 y1 y2 aI ({aA with cQ:=l6}) r hx)) ⟨rfl,rfl⟩ r9 hx) (.refl _) fun r9 v10 hv10 h=>?_;cbv;cases h;exact hK _ _ _ hO hv10
theorem k192 (N n:Nat)(ih235:An0 N n):An5 N (n+1):=by
 intro aI aA aL aO r h
 unfold L8 at h
 refine Q9 cf0 Q4 func192 (by rfl) (by kernel_rfl) call192 ntmps192 (by rfl) (by rfl) ?_;intro E H0 K hE hK;have hO:B7 Eq H0 [] H0:=.start G0 rfl;cbv;exact hK _ _ _ hO (U6 call235 (ih235 aA aI aL aO r h))
theorem k193 (N n:Nat)(ih236:Am9 N n):An4 N (n+1):=by
 intro aI aA aL aO r h
 unfold L9 at h
 refine Q9 cf0 Q4 func193 (by rfl) (by kernel_rfl) call193 ntmps193 (by rfl) (by rfl) ?_;intro E H0 K hE hK;have hO:B7 Eq H0 [] H0:=.start G0 rfl;cbv;exact hK _ _ _ hO (U6 call236 (ih236 aA aI aL aO r h))
theorem k194 (N n:Nat)(ih238:Am8 N n):An3 N (n+1):=by
 intro aI aA aL aO r h
 unfold K9 at h
 refine Q9 cf0 Q4 func194 (by rfl) (by kernel_rfl) call194 ntmps194 (by rfl) (by rfl) ?_;intro E H0 K hE hK;have hO:B7 Eq H0 [] H0:=.start G0 rfl;cbv;exact hK _ _ _ hO (U6 call238 (ih238 aI aA aL aO r h))
theorem k195 (N n:Nat)(ih240:Am6 N n):An2 N (n+1):=by
 intro aI aA aL aO r h
 unfold E8 at h
 refine Q9 cf0 Q4 func195 (by rfl) (by kernel_rfl) call195 ntmps195 (by rfl) (by rfl) ?_;intro E H0 K hE hK;have hO:B7 Eq H0 [] H0:=.start G0 rfl;cbv;exact hK _ _ _ hO (U6 call240 (ih240 aI aA aL aO r h))
theorem k233 (N n:Nat)(ih268:Am5 N n):Ae2 N (n+1):=by
 intro aI aA aL aO bW bT cJ cK r h
 unfold K8 at h
 refine Q9 cf233 Q4 func233 (by rfl) (by kernel_rfl) call233 ntmps233 (by rfl) (by rfl) ?_;intro E H0 K hE hK;have hO:B7 Eq H0 [] H0:=.start G0 rfl;cbv;refine Mk hE cK ?_;cbv;exact hK _ _ _ hO (U6 call268 (ih268 aI aA aL aO bW bT cJ r h))
theorem k234 (N n:Nat)(ih127:NC N n):An1 N (n+1):=by
 intro aL aO aJ aN r h
 unfold J9 at h
 refine K5 cf0 func234 call234 ntmps234 ?_;intro E H0 K hE hK hO;cbv;refine A5 hE h (ih127 aJ aN aL aO) (.refl _) fun r1 h=>?_;cbv;cases h;exact hK hO (.refl _)
theorem k235 (N n:Nat) (ih127:NC N n):An0 N (n+1):=by
 intro aG aJ aN aR r h
 unfold P5 at h
 obtain⟨⟨w0,u0⟩,h1,hr⟩:=bind_some h;clear h;have hr:=AP hr;subst hr;have h:=h1;clear h1;refine N4 cf0 Q4 func235 (by rfl) (by kernel_rfl) call235 ntmps235 (by rfl) (fun _=>rfl) ?_;intro yv I D hI hD hy tl F E H K hE hO hK hKD
 have hO:B7 (I (List.map (fun(x:(List A0))=>[sr eAs1 x]) (w0++[])++tl)) F [] H:=by rw[append_nil];exact hO
 cbv;refine E5 hE ?_;cbv;obtain⟨w2,w3,s6,hx,h1,he⟩:=P8 h;clear h;have h:=h1;clear h1
 rw[he,append_assoc]at hO
 clear he;refine Ci cf0 hE Q4 (γ:=Unit) (fun s1 g=>[(0,.v (yv)),(2,.v (.eref [.eref (B0 aJ) 0] 0)),(3,.v (.eref [sr eAs1 aN] 0)),(4,.v (.eref [vi aR] 0)),(11,.v (sr eAs6 aG.cQ)),fi 12 (Ar.len aG.cQ),fi 13 s1]) (fun s1 g w H1=>B7 (I (List.map (fun(x:(List A0))=>[sr eAs1 x]) w++tl)) F [] H1) (fun x e l w H1=>e= .exit 0∧l=[]∧B7 (I (List.map (fun(x:(List A0))=>[sr eAs1 x]) w++tl)) F [] H1) (fun e l H1=>(e= .ret∧l=[]∧B7 D F [] H1)) (by kernel_rfl) ?_ (w':=w3++[]) () hx ?_ ?_ ?_ ?_
 ·rintro s1 _ w4 w5 H o hO h;clear hx
  skip
  cbv;refine A9 hE h (fun _ h=>?_) fun _ h=>?_
  ·cbv;refine C5 hE eAs4 h fun x7 h=>?_;cbv;refine A5 hE h (ih127 aJ x7 aN aR) (.refl _) fun r8 h=>?_;cbv;refine E5 hE ?_;cbv;obtain⟨w10,w11,s14,hx,h1,he⟩:=P8 h;clear h;have h:=h1;clear h1
   rw[he,append_assoc]at hO
   clear he;refine Ci cf0 hE Q4 (γ:=Unit) (fun s9 g=>[(0,.v (yv)),(2,.v (.eref [.eref (B0 aJ) 0] 0)),(3,.v (.eref [sr eAs1 aN] 0)),(4,.v (.eref [vi aR] 0)),(11,.v (sr eAs6 aG.cQ)),fi 12 (Ar.len aG.cQ),fi 13 s1,(21,.v (sr eAs5 r8)),fi 22 (Ar.len r8),fi 23 s9]) (fun s9 g w H1=>B7 (I (List.map (fun(x:(List A0))=>[sr eAs1 x]) w++tl)) F [] H1) (fun x e l w H1=>e= .exit 2∧l=[(0,.v (yv)),(2,.v (.eref [.eref (B0 aJ) 0] 0)),(3,.v (.eref [sr eAs1 aN] 0)),(4,.v (.eref [vi aR] 0)),(11,.v (sr eAs6 aG.cQ)),fi 12 (Ar.len aG.cQ),fi 13 s1]∧B7 (I (List.map (fun(x:(List A0))=>[sr eAs1 x]) w++tl)) F [] H1) (fun e l H1=>(e= .ret∧l=[]∧B7 D F [] H1)) (by kernel_rfl) ?_ (w':=w11++w5) () hx ?_ ?_ ?_ ?_
   ·rintro s9 _ w12 w13 H o hO h;clear hx
    skip
    cbv;refine A9 hE h (fun _ h=>?_) fun _ h=>?_
    ·cbv;refine C5 hE eAt5 h fun x15 h=>?_;cbv;obtain⟨w16,h1,he⟩:=U8 h;clear h;have h:=h1;clear h1
     rw[he,append_assoc]at hO
     clear he;have hO:B7 (I ([sr eAs1 x15]::(List.map (fun(x:(List A0))=>[sr eAs1 x]) (w16++w13)++tl))) F [] _:=hO;refine DG hE hI hD hy hO (.refl _) (fun H hO=>?_) (fun H hO=>?_)
     ·cbv;refine HS hE (nt_eq _) ?_;cbv;obtain⟨hw,rfl⟩:=C6 h
      rw[←hw]at hO
      exact⟨_,(),rfl,.e2 (.e4 (.e4 .z)),rfl,hO⟩
     clear h;cbv;refine HR hE (nt_eq _) ?_;cbv;exact .inr ⟨_,⟨rfl,rfl,hO⟩,.z,rfl⟩
    cbv;obtain⟨hw,rfl⟩:=C6 h
    rw[←hw]at hO
    exact .inl ⟨_,_,rfl,⟨rfl,rfl,hO⟩,.e rfl (.e2 (.e4 .z)),rfl⟩
   ·exact .e2 (.e4 (.e4 .z))
   ·exact hO
   ·rintro e l H ⟨rfl,rfl,hO⟩;clear hx;cbv;obtain⟨hw,rfl⟩:=C6 h
    rw[←hw]at hO
    exact⟨_,(),rfl,.e rfl (.e2 (.e4 .z)),rfl,hO⟩
   rintro e l H hX;obtain⟨rfl,rfl,hO⟩:=hX;clear h;cbv;exact .inr ⟨_,⟨rfl,rfl,hO⟩,.z,rfl⟩
  cbv;obtain⟨hw,rfl⟩:=C6 h
  rw[←hw]at hO
  exact .inl ⟨_,_,rfl,⟨rfl,rfl,hO⟩,.z,rfl⟩
 ·exact .e rfl (.e2 (.e4 .z))
 ·exact hO
 ·rintro e l H ⟨rfl,rfl,hO⟩;clear hx;cbv;obtain⟨hw,_⟩:=C6 h
  rw[←hw]at hO
  exact hK _ _ _ hO trivial
 rintro e l H hX;obtain⟨rfl,rfl,hO⟩:=hX;clear h;cbv;exact hKD _ _ _ hO trivial
end Go.Ab
