/- GTCo2 GTCo3 -/
import Derived.Test.YtanbgjgaafeplaaGreatDoorG12
set_option linter.all false
open List (append_assoc append_nil)
open Go.Ab.Ar (an lst nt_eq wr)
namespace Go.Ab
open Go.RowKit Go.Proofs Go.Proofs.Tryz I0
variable [Ar][I0]
set_option maxRecDepth 100000
def cf141 :Cf:=⟨[],[(1,9)],[],[],[],[]⟩
theorem c141 (N aO bC r)(h:W6 N aO bC=some r):B2 prog 141 [(AY aO),(AY bC)] (vi r):=by
 unfold W6 at h
 refine I6 cf141 func141 call141 ntmps141 ?_;intro E H0 K hE hK hO;cbv;refine D5 hE (g:=fun r1=>vi r1) h (c139 N aO.Ref bC.Ref) (.refl _) fun r1 h=>?_;cbv;refine A3 hE h (c143 N aO.Var bC.Var) (.refl _) fun r2 h=>?_;cbv;refine A3 hE h (c142 N ([r1,r2])) (.cons (.lit _ (F9 (rfl) (F9 (rfl) (C6)))) (.refl _)) fun r3 h=>?_;cbv;cases h;exact hK hO (.refl _)
theorem c102 (N aC aD r)(h:Ao N aC aD=some r):B2 prog 102 [(AX aC),(AX aD)] (vi r):=by
 unfold Ao at h
 refine I6 cf0 func102 call102 ntmps102 ?_;intro E H0 K hE hK hO;cbv;refine A3 hE (g:=fun r1=>vi r1) h (fun r1 hx=>c140 N aC.cR aD.cR (.func (.func 141) [] []) (fun y1 y2=>W6 N y1 y2) (fun y1 y2 r hx=>B2.value (F:=[]) (C:=[]) (c141 N y1 y2 r hx)) r1 hx) (.refl _) fun r1 h=>?_;cbv;cases h;exact hK hO (.refl _)
theorem c156 (N aB r)(h:CT N aB=some r):B2 prog 156 [(BC aB)] (.bool r):=by
 unfold CT at h
 refine I6 cf0 func156 call156 ntmps156 ?_;intro E H0 K hE hK hO;cbv;cases h;exact hK hO (.refl _)
def cf157 :Cf:=⟨[],[(1,3),(3,14)],[],[],[],[]⟩
theorem c157 (N aC aD r)(h:BA N aC aD=some r):B2 prog 157 [(BC aC),(BC aD)] (vi r):=by
 unfold BA at h
 refine I6 cf157 func157 call157 ntmps157 ?_;intro E H0 K hE hK hO;cbv;refine D5 hE (g:=fun r1=>(HJ r1)) h (c96 N aC) (.refl _) fun r1 h=>?_;cbv;refine A3 hE h (c96 N aD) (.refl _) fun r2 h=>?_;cbv;refine A8 hE h (fun _ h=>?_) fun _ h=>?_
 ·cbv;cases h;exact hK hO (.refl _)
 cbv;refine D5 hE (g:=fun r3=>vi r3) h (c143 N aC.Time aD.Time) (.refl _) fun r3 h=>?_;cbv;refine D5 hE (g:=fun r4=>vi r4) h (c143 N aC.Source aD.Source) (.refl _) fun r4 h=>?_;cbv;refine A3 hE h (c143 N aC.Seq aD.Seq) (.refl _) fun r5 h=>?_;cbv;refine A3 hE h (c142 N ([r3,r4,r5])) (.cons (.lit _ (F9 (rfl) (F9 (rfl) (F9 (rfl) (C6))))) (.refl _)) fun r6 h=>?_;cbv;cases h;exact hK hO (.refl _)
def cf158 :Cf:=⟨[2],[],[],[],[],[]⟩
theorem c158 (N aB r)(h:Cx N aB=some r):B2 prog 158 [(BC aB)] ((IS r)):=by
 unfold Cx at h
 refine I6 cf158 func158 call158 ntmps158 ?_;intro E H0 K hE hK hO;cbv;refine C4 hE hO fun b1 H hO=>?_;cbv;refine A9 hE hO 0 rfl rfl fun H hO=>?_;cbv;refine B4 hE hO 0 rfl ?_;cbv;cases h;exact hK hO (.refl _)
def cf126 :Cf:=⟨[5],[(9,9)],[],[],[],[]⟩
theorem c126 (N aF r) (h:Cb N aF=some r):B2 prog 126 [sr eAo3 aF] (vi r):=by
 unfold Cb at h
 refine I6 cf126 func126 call126 ntmps126 ?_;intro E H0 K hE hK hO;cbv;refine D9 hE ?_;cbv;refine A8 hE h (fun _ h=>?_) fun _ h=>?_
 ·cbv;cases h;exact hK hO (.refl _)
 cbv;refine Ac2 hE Rf eAp8 V.bool hO fun m1 o2 H ho2 hO=>?_;cbv;refine D9 hE ?_;cbv;obtain⟨s5,hx,h⟩:=bind_some h;refine W1 cf126 hE N5 (γ:=Obj) (fun s3 g=>[(0,.v (sr eAo3 aF)),(3,.v (.map m1)),(10,.v (sr eAo3 aF)),fi 11 (Ar.len aF),fi 12 s3.1]) (fun s3 g H1=>Wr Rf eAp8 V.bool g s3.2∧B7 Eq H0 [.blk m1 (.obj g)] H1) (fun x e l H1=>match(generalizing:=false) x with| .inl y=>∃u1:Obj,Wr Rf eAp8 V.bool u1 y∧e= .exit 0∧l=[]∧B7 Eq H0 [.blk m1 (.obj u1)] H1| .inr y=>∃u1:Obj,Wr Rf eAp8 V.bool u1 y.2∧e= .ret∧l=[fi 2 y.1]∧B7 Eq H0 [.blk m1 (.obj u1)] H1) (by kernel_rfl) ?_ o2 hx ?_ ?_ ?_
 ·rintro s3 q4 H o ⟨hq4,hO⟩ h;clear hx;cbv;refine A8 hE h (fun _ h=>?_) fun _ h=>?_
  ·cbv;refine B9 hE eAo9 h fun x6 h=>?_;cbv;refine C4 hE hO fun b7 H hO=>?_;cbv;refine A9 hE hO 0 rfl rfl fun H hO=>?_;cbv;refine B4 hE hO 0 rfl ?_;cbv;refine A3 hE h (c156 N x6) (.refl _) fun r8 h=>?_;cbv;refine A8 hE h (fun _ h=>?_) fun _ h=>?_
   ·cbv;cases h;exact⟨_,_,rfl,⟨q4,hq4,rfl,rfl,hO.tail⟩,.e rfl .z,rfl⟩
   cbv;refine A8 hE h (fun _ h=>?_) fun _ h=>?_
   ·cbv;refine B9 hE eAo9 h fun x9 h=>?_;cbv;refine B4 hE hO 0 rfl ?_;cbv;refine A3 hE h (c157 N x9 x6) (.refl _) fun r10 h=>?_;cbv;refine A8 hE h (fun _ h=>?_) fun _ h=>?_
    ·cbv;cases h;exact⟨_,_,rfl,⟨q4,hq4,rfl,rfl,hO.tail⟩,.e rfl .z,rfl⟩
    cbv;refine B4 hE hO 0 rfl ?_;cbv;refine A3 hE h (c158 N x6) (.refl _) fun r11 h=>?_;cbv;refine XC (eAq0 r11) ?_;refine SR hE (kt:=212) (et:=4) (by kernel_rfl) (by kernel_rfl) Uo (false:Bool) (by kernel_rfl) rfl hO hq4 1 rfl h fun r12 h=>?_;cbv;refine A8 hE h (fun _ h=>?_) fun _ h=>?_
    ·cbv;cases h;exact⟨_,_,rfl,⟨q4,hq4,rfl,rfl,hO.tail⟩,.e rfl .z,rfl⟩
    cbv;refine B4 hE hO 0 rfl ?_;cbv;refine A3 hE h (c158 N x6) (.refl _) fun r13 h=>?_;cbv;refine Un (eAq0 r13) ?_;refine SQ hE (kt:=212) (et:=4) (by kernel_rfl) (by kernel_rfl) Uo JR hO hq4 1 rfl h fun l15 o14 H ho14 h hO=>?_;cbv;cases h;exact⟨_,o14,rfl,.e rfl (.e4 .z),rfl,ho14,hO.tail⟩
   cbv;refine B4 hE hO 0 rfl ?_;cbv;refine A3 hE h (c158 N x6) (.refl _) fun r16 h=>?_;cbv;refine XC (eAq0 r16) ?_;refine SR hE (kt:=212) (et:=4) (by kernel_rfl) (by kernel_rfl) Uo (false:Bool) (by kernel_rfl) rfl hO hq4 1 rfl h fun r17 h=>?_;cbv;refine A8 hE h (fun _ h=>?_) fun _ h=>?_
   ·cbv;cases h;exact⟨_,_,rfl,⟨q4,hq4,rfl,rfl,hO.tail⟩,.e rfl .z,rfl⟩
   cbv;refine B4 hE hO 0 rfl ?_;cbv;refine A3 hE h (c158 N x6) (.refl _) fun r18 h=>?_;cbv;refine Un (eAq0 r18) ?_;refine SQ hE (kt:=212) (et:=4) (by kernel_rfl) (by kernel_rfl) Uo JR hO hq4 1 rfl h fun l20 o19 H ho19 h hO=>?_;cbv;cases h;exact⟨_,o19,rfl,.e rfl (.e4 .z),rfl,ho19,hO.tail⟩
  cbv;cases h;exact⟨_,_,rfl,⟨q4,hq4,rfl,rfl,hO⟩,.z,rfl⟩
 ·exact .e rfl (.e4 .z)
 ·exact⟨ho2,hO⟩
 clear hx
 rcases s5 with y21|y23
 ·rintro e l H ⟨q22,hq22,rfl,rfl,hO⟩;cbv;cases h;exact hK hO (.refl _)
 rintro e l H ⟨q24,hq24,rfl,rfl,hO⟩;cbv;cases h;exact hK hO (.refl _)
def cf159 :Cf:=⟨[0],[],[],[],[],[]⟩
theorem c159 (N r)(h:Av N=some r):B2 prog 159 [] (.agg [.func (.func 190) [] [],.func (.func 191) [] [],.func (.func 192) [] [],.func (.func 193) [] [],.func (.func 194) [] [],.func (.func 195) [] [],.func (.func 195) [] [],.func (.func 195) [] []]):=by
 unfold Av at h
 refine I6 cf159 func159 call159 ntmps159 ?_;intro E H0 K hE hK hO;cbv;refine C4 hE hO fun b1 H hO=>?_;cbv;refine A9 hE hO 0 rfl rfl fun H hO=>?_;cbv;refine B4 hE hO 0 rfl ?_;cbv;cases h;exact hK hO (.refl _)
theorem c291 (N aW r)(h:EM N aW=some r):B2 prog 291 [vi aW] (.str r):=RE Go.Proofs.Tryz.laysNm283 call291 h
theorem c273 (N bA aW aY r) (h:V6 N bA aW aY=some r):PJ prog 273 [.int .u64 aW,vi aY] 1 (lst (V.int .u8) bA) (lst (V.int .u8) r):=by
 unfold V6 at h
 intro H0 q0 hq0 hk0;refine Kb (T:=TT) (F:=upd H0 q0.id none) cf0 N5 func273 (by rfl) (by kernel_rfl) call273 ntmps273 (by rfl) (by rfl) ?_;intro E K hE hK hN;have hO:B7 Eq (upd H0 q0.id none) [ob q0 1 (V.int .u8) bA] H0:=B7.startO hk0;have hq0:Ej q0 (Ar.len bA):=OP hq0;cbv;refine A8 hE h (fun _ h=>?_) fun _ h=>?_
 ·cbv;refine A8 hE h (fun _ h=>?_) fun _ h=>?_
  ·cbv;refine A3 hE h (c291 N (wr .i64 aW)) (.refl _) fun r1 h=>?_;cbv;refine ZA hE (by decide) hO hq0 0 rfl h fun l3 q2 H hq2 hO h=>?_;cbv;cases h;exact hK q2 _ _ (Ja hE hq2) (hO)
  cbv;cases h
 cbv;cases h
theorem c242 (N bA aW aY r)(h:Y4 N bA aW aY=some r):PJ prog 242 [vi aW,vi aY] 1 (lst (V.int .u8) bA) (lst (V.int .u8) r):=by
 unfold Y4 at h
 intro H0 q0 hq0 hk0;refine Kb (T:=TT) (F:=upd H0 q0.id none) cf0 N5 func242 (by rfl) (by kernel_rfl) call242 ntmps242 (by rfl) (by rfl) ?_;intro E K hE hK hN;have hO:B7 Eq (upd H0 q0.id none) [ob q0 1 (V.int .u8) bA] H0:=B7.startO hk0;have hq0:Ej q0 (Ar.len bA):=OP hq0;cbv;refine A8 hE h (fun _ h=>?_) fun _ h=>?_
 ·cbv;refine Ir (f:=(V.int .u8)) hE (fun _=>rfl) (by decide) hO hq0 0 rfl (m:=[45]) (Ig (f:=(V.int .u8)) hE (fun _=>rfl) (.lstc (.refl _) (.lst0))) h fun l2 q1 H hq1 hO h=>?_;cbv;refine GR hE (f:=(V.int .u8)) hO hq1 0 rfl h (c273 N l2 (Ar.neg .u64 (wr .u64 aW)) aY) (.refl _) fun l3 q4 H hq4 hO h=>?_;cbv;cases h;exact hK q4 _ _ (Ja hE hq4) (hO)
 cbv;refine GR hE (f:=(V.int .u8)) hO hq0 0 rfl h (c273 N bA (wr .u64 aW) aY) (.refl _) fun l5 q6 H hq6 hO h=>?_;cbv;cases h;exact hK q6 _ _ (Ja hE hq6) (hO)
theorem c196 (N bA aW aY r)(h:G0 N bA aW aY=some r):PJ prog 196 [vi aW,vi aY] 1 (lst (V.int .u8) bA) (lst (V.int .u8) r):=by
 unfold G0 at h
 intro H0 q0 hq0 hk0;refine Kb (T:=TT) (F:=upd H0 q0.id none) cf0 N5 func196 (by rfl) (by kernel_rfl) call196 ntmps196 (by rfl) (by rfl) ?_;intro E K hE hK hN;have hO:B7 Eq (upd H0 q0.id none) [ob q0 1 (V.int .u8) bA] H0:=B7.startO hk0;have hq0:Ej q0 (Ar.len bA):=OP hq0;cbv;refine GR hE (f:=(V.int .u8)) hO hq0 0 rfl h (c242 N bA aW aY) (.refl _) fun l1 q2 H hq2 hO h=>?_;cbv;cases h;exact hK q2 _ _ (Ja hE hq2) (hO)
def cf160 :Cf:=⟨[6000003],[(3000006,0),(3000006,3),(3000006,4),(3000006,8)],[],[2000006],[],[]⟩
set_option maxHeartbeats 2000000 in
theorem c160 (N aH r) (h:M1 N aH=some r):B2 prog 160 [sr eAo1 aH] (.str r):=by
 unfold M1 at h
 refine I6 cf160 func160 call160 ntmps160 ?_;intro E H0 K hE hK hO;cbv;refine XA hE (f:=(V.int .u8)) hO fun q1 H hq1 hO=>?_;cbv;refine D9 hE ?_;cbv;obtain⟨s4,hx,h⟩:=bind_some h;refine W1 cf160 hE N5 (γ:=OG) (fun s2 g=>[(3,.v (.own g.id g.lo g.n)),(6,.v (sr eAo1 aH)),fi 7 (Ar.len aH),fi 8 s2.1]) (fun s2 g H1=>Ej g (Ar.len s2.2)∧B7 Eq H0 [ob g 1 (V.int .u8) s2.2] H1) (fun x e l H1=>∃u1:OG,Ej u1 (Ar.len x)∧e= .exit 0∧l=[(3,.v (.own u1.id u1.lo u1.n))]∧B7 Eq H0 [ob u1 1 (V.int .u8) x] H1) (by kernel_rfl) ?_ q1 hx ?_ ?_ ?_
 ·rintro s2 q3 H o ⟨hq3,hO⟩ h;clear hx;cbv;refine A8 hE h (fun _ h=>?_) fun _ h=>?_
  ·cbv;refine B9 hE eAp4 h fun x5 h=>?_;cbv;refine GR hE (f:=(V.int .u8)) hO hq3 0 rfl h (c196 N s2.2 x5.cU 10) (.refl _) fun l6 q7 H hq7 hO h=>?_;cbv;obtain⟨s8,hx,h⟩:=bind_some h;refine U4 cf160 hE N5 (fun e l H1=>∃u1:OG,Ej u1 (Ar.len s8)∧e= .normal∧l=[(3,.v (.own u1.id u1.lo u1.n)),(6,.v (sr eAo1 aH)),fi 7 (Ar.len aH),fi 8 s2.1]∧B7 Eq H0 [ob u1 1 (V.int .u8) s8] H1) (by kernel_rfl) ?_ ?_
   ·clear h;have h:=hx;clear hx;cbv
    repeat' first|refine And.intro ?_ ?_|(refine Ir (f:=(V.int .u8)) hE (fun _=>rfl) (by decide) hO hq7 0 rfl (m:=[64]) (Ig (f:=(V.int .u8)) hE (fun _=>rfl) (.lstc (.refl _) (.lst0))) h fun l90 q89 H hq89 hO h=>?_;cbv)|(refine GR hE (f:=(V.int .u8)) hO hq89 0 rfl h (c196 N l90 x5.at_ 10) (.refl _) fun l209 q210 H hq210 hO h=>?_;cbv)|(refine Ir (f:=(V.int .u8)) hE (fun _=>rfl) (by decide) hO hq210 0 rfl (m:=[32]) (Ig (f:=(V.int .u8)) hE (fun _=>rfl) (.lstc (.refl _) (.lst0))) h fun l290 q289 H hq289 hO h=>?_;cbv)|(have h:=AK h;subst h;exact⟨_,⟨q289,hq289,rfl,rfl,hO⟩,.e4 .z,rfl⟩)
   clear hx;rintro e l H ⟨q409,hq409,rfl,rfl,hO⟩;cbv;cases h;exact⟨_,q409,rfl,.e4 .z,rfl,hq409,hO⟩
  cbv;cases h;exact⟨_,_,rfl,⟨q3,hq3,rfl,rfl,hO⟩,.e rfl .z,rfl⟩
 ·exact .e4 .z
 ·exact⟨hq1,hO⟩
 clear hx;rintro e l H ⟨q410,hq410,rfl,rfl,hO⟩;cbv;refine Af6 (e:=5) hE (by kernel_rfl) (by kernel_rfl) (by kernel_rfl) hO hq410 0 rfl h fun r411 h=>?_;cbv;cases h;exact hK hO (.refl _)
def cf307 :Cf:=⟨[2],[],[],[],[],[]⟩
theorem c307 (N aV r)(h:P4 N aV=some r):B2 prog 307 [vi aV] ((D4 r)):=by
 unfold P4 at h
 refine I6 cf307 func307 call307 ntmps307 ?_;intro E H0 K hE hK hO;cbv;refine C4 hE hO fun b1 H hO=>?_;cbv;refine A9 hE hO 0 rfl rfl fun H hO=>?_;cbv;refine B4 hE hO 0 rfl ?_;cbv;cases h;exact hK hO (.refl _)
def cf308 :Cf:=⟨[5],[],[],[],[],[]⟩
theorem c308 (N:Nat)(aC:Int)(aD:Int)(cA:V)(aI:Int→Option A7)(cH:∀y1 q,aI y1=some q→Q9 prog cA [vi y1] ((D4 q)))(r:A7)(h:AD N aC aD aI=some r):B2 prog 308 [vi aC,vi aD,.eref [cA] 0] ((D4 r)):=by
 unfold AD at h
 refine I6 cf308 func308 call308 ntmps308 ?_;intro E H0 K hE hK hO;cbv;refine C4 hE hO fun b1 H hO=>?_;cbv;refine Y6 hE (g:=fun r2=>(D4 r2)) h (fun r2 hx=>cH (Ar.ar .add .i64 aC aD) r2 hx) (.refl _) fun r2 h=>?_;cbv;refine A9 hE hO 0 rfl rfl fun H hO=>?_;cbv;refine B4 hE hO 0 rfl ?_;cbv;cases h;exact hK hO (.refl _)
def cf309 :Cf:=⟨[5],[],[],[],[],[]⟩
theorem c309 (N:Nat)(aC:Int)(aD:Int)(cA:V)(aI:Int→Option A7)(cH:∀y1 q,aI y1=some q→Q9 prog cA [vi y1] ((D4 q)))(r:A7)(h:AC N aC aD aI=some r):B2 prog 309 [vi aC,vi aD,.eref [cA] 0] ((D4 r)):=by
 unfold AC at h
 refine I6 cf309 func309 call309 ntmps309 ?_;intro E H0 K hE hK hO;cbv;refine C4 hE hO fun b1 H hO=>?_;cbv;refine Y6 hE (g:=fun r2=>(D4 r2)) h (fun r2 hx=>cH (Ar.ar .sub .i64 aC aD) r2 hx) (.refl _) fun r2 h=>?_;cbv;refine A9 hE hO 0 rfl rfl fun H hO=>?_;cbv;refine B4 hE hO 0 rfl ?_;cbv;cases h;exact hK hO (.refl _)
def cf299 :Cf:=⟨[2,3],[],[],[],[],[]⟩
theorem c299 (N aD r)(h:Fz N aD=some r):B2 prog 299 [.bool aD] ((D4 r)):=by
 unfold Fz at h
 refine I6 cf299 func299 call299 ntmps299 ?_;intro E H0 K hE hK hO;cbv;refine C4 hE hO fun b1 H hO=>?_;cbv;refine C4 hE hO fun b2 H hO=>?_;cbv;refine A9 hE hO 0 rfl rfl fun H hO=>?_;cbv;refine A8 hE h (fun _ h=>?_) fun _ h=>?_
 ·cbv;refine A9 hE hO 0 rfl rfl fun H hO=>?_;cbv;refine B4 hE hO 0 rfl ?_;cbv;refine A9 hE hO 1 rfl rfl fun H hO=>?_;cbv;refine B4 hE hO 1 rfl ?_;cbv;cases h;exact hK hO (.refl _)
 cbv;refine B4 hE hO 0 rfl ?_;cbv;refine A9 hE hO 1 rfl rfl fun H hO=>?_;cbv;refine B4 hE hO 1 rfl ?_;cbv;cases h;exact hK hO (.refl _)
def cf285 :Cf:=⟨[2],[],[],[],[],[]⟩
theorem c285 (N aD r)(h:Z4 N aD=some r):B2 prog 285 [.bool aD] ((D4 r)):=by
 unfold Z4 at h
 refine I6 cf285 func285 call285 ntmps285 ?_;intro E H0 K hE hK hO;cbv;refine C4 hE hO fun b1 H hO=>?_;cbv;refine A3 hE h (c299 N aD) (.refl _) fun r2 h=>?_;cbv;refine A9 hE hO 0 rfl rfl fun H hO=>?_;cbv;refine B4 hE hO 0 rfl ?_;cbv;cases h;exact hK hO (.refl _)
def cf310 :Cf:=⟨[4],[],[],[],[],[]⟩
theorem c310 (N aC aD r)(h:AB N aC aD=some r):B2 prog 310 [vi aC,vi aD] ((D4 r)):=by
 unfold AB at h
 refine I6 cf310 func310 call310 ntmps310 ?_;intro E H0 K hE hK hO;cbv;refine C4 hE hO fun b1 H hO=>?_;cbv;refine A3 hE h (c285 N (Ar.cmp .lss aC aD)) (.refl _) fun r2 h=>?_;cbv;refine A9 hE hO 0 rfl rfl fun H hO=>?_;cbv;refine B4 hE hO 0 rfl ?_;cbv;cases h;exact hK hO (.refl _)
def cf311 :Cf:=⟨[4],[],[],[],[],[]⟩
theorem c311 (N aC aD r)(h:AA N aC aD=some r):B2 prog 311 [vi aC,vi aD] ((D4 r)):=by
 unfold AA at h
 refine I6 cf311 func311 call311 ntmps311 ?_;intro E H0 K hE hK hO;cbv;refine C4 hE hO fun b1 H hO=>?_;cbv;refine A3 hE h (c285 N (Ar.cmp .leq aC aD)) (.refl _) fun r2 h=>?_;cbv;refine A9 hE hO 0 rfl rfl fun H hO=>?_;cbv;refine B4 hE hO 0 rfl ?_;cbv;cases h;exact hK hO (.refl _)
def cf312 :Cf:=⟨[4],[],[],[],[],[]⟩
theorem c312 (N aC aD r)(h:Az N aC aD=some r):B2 prog 312 [vi aC,vi aD] ((D4 r)):=by
 unfold Az at h
 refine I6 cf312 func312 call312 ntmps312 ?_;intro E H0 K hE hK hO;cbv;refine C4 hE hO fun b1 H hO=>?_;cbv;refine A3 hE h (c285 N (an (Ar.cmp .eql aC 1) (Ar.cmp .eql aD 1))) (.refl _) fun r2 h=>?_;cbv;refine A9 hE hO 0 rfl rfl fun H hO=>?_;cbv;refine B4 hE hO 0 rfl ?_;cbv;cases h;exact hK hO (.refl _)
def cf313 :Cf:=⟨[4],[],[],[],[],[]⟩
theorem c313 (N aC aD r)(h:Ay N aC aD=some r):B2 prog 313 [vi aC,vi aD] ((D4 r)):=by
 unfold Ay at h
 refine I6 cf313 func313 call313 ntmps313 ?_;intro E H0 K hE hK hO;cbv;refine C4 hE hO fun b1 H hO=>?_;cbv;refine A3 hE h (c285 N (Ar.or (Ar.cmp .eql aC 1) (Ar.cmp .eql aD 1))) (.refl _) fun r2 h=>?_;cbv;refine A9 hE hO 0 rfl rfl fun H hO=>?_;cbv;refine B4 hE hO 0 rfl ?_;cbv;cases h;exact hK hO (.refl _)
def cf314 :Cf:=⟨[4],[],[],[],[],[]⟩
theorem c314 (N aC aG r)(h:Ax N aC aG=some r):B2 prog 314 [vi aC,vi aG] ((D4 r)):=by
 unfold Ax at h
 refine I6 cf314 func314 call314 ntmps314 ?_;intro E H0 K hE hK hO;cbv;refine C4 hE hO fun b1 H hO=>?_;cbv;refine A3 hE h (c285 N (Ar.cmp .neq aC 1)) (.refl _) fun r2 h=>?_;cbv;refine A9 hE hO 0 rfl rfl fun H hO=>?_;cbv;refine B4 hE hO 0 rfl ?_;cbv;cases h;exact hK hO (.refl _)
theorem c297 (N r)(h:Gj N=some r):TF prog 297 [] Yi Yh:=by
 unfold Gj at h
 refine Tx (T:=TT) cf0 N5 func297 (by rfl) (by kernel_rfl) call297 ntmps297 (by rfl) (by rfl) ?_;intro E H0 K hE hK;have hO:B7 Eq H0 [] H0:=.start G8 rfl;cbv;refine Al5 hE hO fun m1 H hO=>?_;cbv;refine It hE (kt:=3) (et:=338) (by kernel_rfl) (by kernel_rfl) hO 0 rfl rfl fun H hO=>?_;cbv;refine It hE (kt:=3) (et:=338) (by kernel_rfl) (by kernel_rfl) hO 0 rfl rfl fun H hO=>?_;cbv;refine It hE (kt:=3) (et:=338) (by kernel_rfl) (by kernel_rfl) hO 0 rfl rfl fun H hO=>?_;cbv;refine It hE (kt:=3) (et:=338) (by kernel_rfl) (by kernel_rfl) hO 0 rfl rfl fun H hO=>?_;cbv;refine It hE (kt:=3) (et:=338) (by kernel_rfl) (by kernel_rfl) hO 0 rfl rfl fun H hO=>?_;cbv;refine It hE (kt:=3) (et:=338) (by kernel_rfl) (by kernel_rfl) hO 0 rfl rfl fun H hO=>?_;cbv;refine It hE (kt:=3) (et:=338) (by kernel_rfl) (by kernel_rfl) hO 0 rfl rfl fun H hO=>?_;cbv;exact hK _ _ 0 _ rfl hO
theorem c327 (N aO aL r)(h:M6 N aO aL=some r):B2 prog 327 [(AW aO),vi aL] (sr eAo3 r):=by
 unfold M6 at h
 refine I6 cf0 func327 call327 ntmps327 ?_;intro E H0 K hE hK hO;cbv;refine D9 hE ?_;cbv;refine A8 hE h (fun _ h=>?_) fun _ h=>?_
 ·cbv;cases h;exact hK hO (.lit _ (C6))
 cbv;refine B9 hE eAq4 h fun x1 h=>?_;cbv;cases h;exact hK hO (.refl _)
def cf329 :Cf:=⟨[4],[],[],[],[],[]⟩
theorem c329 (N aB bJ r)(h:Ai N aB bJ=some r):B2 prog 329 [(BC aB),vi bJ] (.tup [(D4 r.1),vi r.2]):=by
 unfold Ai at h
 refine I6 cf329 func329 call329 ntmps329 ?_;intro E H0 K hE hK hO;cbv;refine C4 hE hO fun b1 H hO=>?_;cbv;refine D9 hE ?_;cbv;refine A8 hE h (fun _ h=>?_) fun _ h=>?_
 ·cbv;refine A9 hE hO 0 rfl rfl fun H hO=>?_;cbv;refine B4 hE hO 0 rfl ?_;cbv;cases h;exact hK hO (.refl _)
 cbv;refine B9 hE eAo8 h fun x2 h=>?_;cbv;refine A9 hE hO 0 rfl rfl fun H hO=>?_;cbv;refine B4 hE hO 0 rfl ?_;cbv;cases h;exact hK hO (.refl _)
theorem c335 (N aQ r)(h:W7 N aQ=some r):B2 prog 335 [vi aQ] (.bool r):=by
 unfold W7 at h
 refine I6 cf0 func335 call335 ntmps335 ?_;intro E H0 K hE hK hO;cbv;cases h;exact hK hO (.refl _)
theorem c342 (N aQ aL r)(h:T4 N aQ aL=some r):B2 prog 342 [vi aQ,(D4 aL)] (.bool r):=by
 unfold T4 at h
 refine I6 cf0 func342 call342 ntmps342 ?_;intro E H0 K hE hK hO;cbv;cases h;exact hK hO (.refl _)
theorem c336 (N aQ aL r)(h:N2 N aQ aL=some r):B2 prog 336 [vi aQ,(D4 aL)] (vi r):=by
 unfold N2 at h
 refine I6 cf0 func336 call336 ntmps336 ?_;intro E H0 K hE hK hO;cbv;refine A3 hE h (c275 N aL) (.refl _) fun r1 h=>?_;cbv;refine A8 hE h (fun _ h=>?_) fun _ h=>?_
 ·cbv;cases h;exact hK hO (.refl _)
 cbv;refine A3 hE h (c342 N aQ aL) (.refl _) fun r2 h=>?_;cbv;refine A8 hE h (fun _ h=>?_) fun _ h=>?_
 ·cbv;cases h;exact hK hO (.refl _)
 cbv;cases h;exact hK hO (.refl _)
def cf337 :Cf:=⟨[3,6],[],[],[],[],[]⟩
theorem c337 (N:Nat) (cC:D0) (aF:List A7) (cI:V) (cD:D0→A7→Option D0) (cO:∀y1 y2 q,cD y1 y2=some q→Q9 prog cI [(J2 y1),(D4 y2)] ((J2 q))) (r:D0) (h:G2 N cC aF cD=some r):B2 prog 337 [(J2 cC),sr eAp0 aF,cI] ((J2 r)):=by
 unfold G2 at h
 refine I6 cf337 func337 call337 ntmps337 ?_;intro E H0 K hE hK hO;cbv;refine C4 hE hO fun b1 H hO=>?_;cbv;refine C4 hE hO fun b2 H hO=>?_;cbv;refine D9 hE ?_;cbv;obtain⟨s4,hx,h⟩:=bind_some h;refine E9 cf337 hE N5 (fun s3=>[(2,.v (cI)),(3,.v (.ref b1 0)),(6,.v (.ref b2 0)),(9,.v (sr eAp0 aF)),fi 10 (Ar.len aF),fi 11 s3.1]) (fun(s3:Int×D0) H1=>B7 Eq H0 [cb b2 [vi 0,vi 0,vi 0,vi 0,.str (⟨#[]⟩)],cb b1 (ET s3.2)] H1) (fun x e l H1=>e= .exit 0∧l=[(3,.v (.ref b1 0)),(6,.v (.ref b2 0))]∧B7 Eq H0 [cb b2 [vi 0,vi 0,vi 0,vi 0,.str (⟨#[]⟩)],cb b1 (ET x)] H1) (by kernel_rfl) ?_ hx ?_ hO ?_
 ·intro s3 H o hO h;clear hx;cbv;refine A8 hE h (fun _ h=>?_) fun _ h=>?_
  ·cbv;refine B9 hE eAo8 h fun x5 h=>?_;cbv;refine B4 hE hO 1 rfl ?_;cbv;refine Y6 hE (g:=fun r6=>(J2 r6)) h (fun r6 hx=>cO s3.2 x5 r6 hx) (.refl _) fun r6 h=>?_;cbv;refine A9 hE hO 1 rfl rfl fun H hO=>?_;cbv;cases h;exact⟨_,rfl,.e2 (.e4 .z),rfl,hO⟩
  cbv;cases h;exact⟨_,_,rfl,⟨rfl,rfl,hO⟩,.e2 .z,rfl⟩
 ·exact .e2 (.e4 .z)
 clear hx;rintro e l H ⟨rfl,rfl,hO⟩;cbv;refine B4 hE hO 1 rfl ?_;cbv;refine A9 hE hO 0 rfl rfl fun H hO=>?_;cbv;refine B4 hE hO 0 rfl ?_;cbv;cases h;exact hK hO (.refl _)
def cf345 :Cf:=⟨[0],[],[],[],[],[]⟩
theorem c345 (N r)(h:Br N=some r):B2 prog 345 [] ((D4 r)):=by
 unfold Br at h
 refine I6 cf345 func345 call345 ntmps345 ?_;intro E H0 K hE hK hO;cbv;refine C4 hE hO fun b1 H hO=>?_;cbv;refine A9 hE hO 0 rfl rfl fun H hO=>?_;cbv;refine B4 hE hO 0 rfl ?_;cbv;cases h;exact hK hO (.refl _)
def cf346 :Cf:=⟨[2],[],[],[],[],[]⟩
theorem c346 (N aZ aG r)(h:Bq N aZ aG=some r):B2 prog 346 [.eref (Q3 aZ) 0,.eref (Q3 aG) 0] ((D4 r)):=by
 unfold Bq at h
 refine I6 cf346 func346 call346 ntmps346 ?_;intro E H0 K hE hK hO;cbv;refine C4 hE hO fun b1 H hO=>?_;cbv;refine A9 hE hO 0 rfl rfl fun H hO=>?_;cbv;refine B4 hE hO 0 rfl ?_;cbv;cases h;exact hK hO (.refl _)
def cf347 :Cf:=⟨[2],[],[],[],[],[]⟩
theorem c347 (N aZ aG r)(h:Bp N aZ aG=some r):B2 prog 347 [.eref (Q3 aZ) 0,.eref (Q3 aG) 0] ((D4 r)):=by
 unfold Bp at h
 refine I6 cf347 func347 call347 ntmps347 ?_;intro E H0 K hE hK hO;cbv;refine C4 hE hO fun b1 H hO=>?_;cbv;refine A9 hE hO 0 rfl rfl fun H hO=>?_;cbv;refine B4 hE hO 0 rfl ?_;cbv;cases h;exact hK hO (.refl _)
def cf348 :Cf:=⟨[2],[],[],[],[],[]⟩
theorem c348 (N aZ aG r)(h:Bo N aZ aG=some r):B2 prog 348 [.eref (Q3 aZ) 0,.eref (Q3 aG) 0] ((D4 r)):=by
 unfold Bo at h
 refine I6 cf348 func348 call348 ntmps348 ?_;intro E H0 K hE hK hO;cbv;refine C4 hE hO fun b1 H hO=>?_;cbv;refine A9 hE hO 0 rfl rfl fun H hO=>?_;cbv;refine B4 hE hO 0 rfl ?_;cbv;cases h;exact hK hO (.refl _)
def cf349 :Cf:=⟨[1],[],[],[],[],[]⟩
theorem c349 (N aZ r)(h:Bn N aZ=some r):B2 prog 349 [.eref (Q3 aZ) 0] ((D4 r)):=by
 unfold Bn at h
 refine I6 cf349 func349 call349 ntmps349 ?_;intro E H0 K hE hK hO;cbv;refine C4 hE hO fun b1 H hO=>?_;cbv;refine A9 hE hO 0 rfl rfl fun H hO=>?_;cbv;refine B4 hE hO 0 rfl ?_;cbv;cases h;exact hK hO (.refl _)
def cf350 :Cf:=⟨[1],[],[],[],[],[]⟩
theorem c350 (N aZ r)(h:Bm N aZ=some r):B2 prog 350 [.eref (Q3 aZ) 0] ((D4 r)):=by
 unfold Bm at h
 refine I6 cf350 func350 call350 ntmps350 ?_;intro E H0 K hE hK hO;cbv;refine C4 hE hO fun b1 H hO=>?_;cbv;refine A9 hE hO 0 rfl rfl fun H hO=>?_;cbv;refine B4 hE hO 0 rfl ?_;cbv;cases h;exact hK hO (.refl _)
def cf343 :Cf:=⟨[6],[],[],[],[],[]⟩
theorem c343 (N aQ aC aD r)(h:X9 N aQ aC aD=some r):B2 prog 343 [vi aQ,(D4 aC),(D4 aD)] ((D4 r)):=by
 unfold X9 at h
 refine I6 cf343 func343 call343 ntmps343 ?_;intro E H0 K hE hK hO;cbv;refine C4 hE hO fun b1 H hO=>?_;cbv;refine ZE hE [0,1,2,3,4,5] (by rfl) ?_;cbv;refine A8 hE h (fun _ h=>?_) fun _ h=>?_
 ·cbv;refine A3 hE h (c345 N) (.refl _) fun r2 h=>?_;cbv;refine A9 hE hO 0 rfl rfl fun H hO=>?_;cbv;refine B4 hE hO 0 rfl ?_;cbv;cases h;exact hK hO (.refl _)
 cbv;refine A8 hE h (fun _ h=>?_) fun _ h=>?_
 ·cbv;refine Y6 hE (g:=fun r3=>(D4 r3)) h (fun r3 hx=>B2.value (F:=[]) (C:=[.eref (Q3 aC) 0,.eref (Q3 aD) 0]) (c346 N aC aD r3 hx)) (.refl _) fun r3 h=>?_;cbv;refine A9 hE hO 0 rfl rfl fun H hO=>?_;cbv;refine B4 hE hO 0 rfl ?_;cbv;cases h;exact hK hO (.refl _)
 cbv;refine A8 hE h (fun _ h=>?_) fun _ h=>?_
 ·cbv;refine Y6 hE (g:=fun r4=>(D4 r4)) h (fun r4 hx=>B2.value (F:=[]) (C:=[.eref (Q3 aC) 0,.eref (Q3 aD) 0]) (c347 N aC aD r4 hx)) (.refl _) fun r4 h=>?_;cbv;refine A9 hE hO 0 rfl rfl fun H hO=>?_;cbv;refine B4 hE hO 0 rfl ?_;cbv;cases h;exact hK hO (.refl _)
 cbv;refine A8 hE h (fun _ h=>?_) fun _ h=>?_
 ·cbv;refine Y6 hE (g:=fun r5=>(D4 r5)) h (fun r5 hx=>B2.value (F:=[]) (C:=[.eref (Q3 aC) 0,.eref (Q3 aD) 0]) (c348 N aC aD r5 hx)) (.refl _) fun r5 h=>?_;cbv;refine A9 hE hO 0 rfl rfl fun H hO=>?_;cbv;refine B4 hE hO 0 rfl ?_;cbv;cases h;exact hK hO (.refl _)
 cbv;refine A8 hE h (fun _ h=>?_) fun _ h=>?_
 ·cbv;refine Y6 hE (g:=fun r6=>(D4 r6)) h (fun r6 hx=>B2.value (F:=[]) (C:=[.eref (Q3 aC) 0]) (c349 N aC r6 hx)) (.refl _) fun r6 h=>?_;cbv;refine A9 hE hO 0 rfl rfl fun H hO=>?_;cbv;refine B4 hE hO 0 rfl ?_;cbv;cases h;exact hK hO (.refl _)
 cbv;refine A8 hE h (fun _ h=>?_) fun _ h=>?_
 ·cbv;refine Y6 hE (g:=fun r7=>(D4 r7)) h (fun r7 hx=>B2.value (F:=[]) (C:=[.eref (Q3 aD) 0]) (c350 N aD r7 hx)) (.refl _) fun r7 h=>?_;cbv;refine A9 hE hO 0 rfl rfl fun H hO=>?_;cbv;refine B4 hE hO 0 rfl ?_;cbv;cases h;exact hK hO (.refl _)
 cbv;cases h
def cf339 :Cf:=⟨[4],[(5,14)],[],[],[],[]⟩
theorem c339 (N aC aD r)(h:Bi N aC aD=some r):B2 prog 339 [(J2 aC),(J2 aD)] ((J2 r)):=by
 unfold Bi at h
 refine I6 cf339 func339 call339 ntmps339 ?_;intro E H0 K hE hK hO;cbv;refine C4 hE hO fun b1 H hO=>?_;cbv;refine A8 hE h (fun _ h=>?_) fun _ h=>?_
 ·cbv;refine A9 hE hO 0 rfl rfl fun H hO=>?_;cbv;refine B4 hE hO 0 rfl ?_;cbv;cases h;exact hK hO (.refl _)
 cbv;refine A8 hE h (fun _ h=>?_) fun _ h=>?_
 ·cbv;refine A9 hE hO 0 rfl rfl fun H hO=>?_;cbv;refine B4 hE hO 0 rfl ?_;cbv;cases h;exact hK hO (.refl _)
 cbv;refine D5 hE (g:=fun r2=>(D4 r2)) h (c343 N aC.Kind aC.Value aD.Value) (.refl _) fun r2 h=>?_;cbv;refine A9 hE hO 0 rfl rfl fun H hO=>?_;cbv;refine B4 hE hO 0 rfl ?_;cbv;cases h;exact hK hO (.refl _)
def cf340 :Cf:=⟨[4],[],[],[],[],[]⟩
theorem c340 (N aQ aL r)(h:Z5 N aQ aL=some r):B2 prog 340 [vi aQ,(D4 aL)] ((D4 r)):=by
 unfold Z5 at h
 refine I6 cf340 func340 call340 ntmps340 ?_;intro E H0 K hE hK hO;cbv;refine C4 hE hO fun b1 H hO=>?_;cbv;refine A8 hE h (fun _ h=>?_) fun _ h=>?_
 ·cbv;refine A9 hE hO 0 rfl rfl fun H hO=>?_;cbv;refine B4 hE hO 0 rfl ?_;cbv;cases h;exact hK hO (.refl _)
 cbv;refine A9 hE hO 0 rfl rfl fun H hO=>?_;cbv;refine B4 hE hO 0 rfl ?_;cbv;cases h;exact hK hO (.refl _)
def cf338 :Cf:=⟨[5],[(1,6)],[],[],[],[]⟩
theorem c338 (N aC aL aI r)(h:N0 N aC aL aI=some r):B2 prog 338 [(J2 aC),(D4 aL),.eref [vi aI] 0] ((J2 r)):=by
 unfold N0 at h
 refine I6 cf338 func338 call338 ntmps338 ?_;intro E H0 K hE hK hO;cbv;refine C4 hE hO fun b1 H hO=>?_;cbv;refine D5 hE (g:=fun r2=>(D4 r2)) h (c340 N aI aL) (.refl _) fun r2 h=>?_;cbv;refine A3 hE h (c339 N aC (⟨aI,1,r2⟩:D0)) (.refl _) fun r3 h=>?_;cbv;refine A9 hE hO 0 rfl rfl fun H hO=>?_;cbv;refine B4 hE hO 0 rfl ?_;cbv;cases h;exact hK hO (.refl _)
theorem c344 (N aC r) (h:Al N aC=some r):B2 prog 344 [(J2 aC)] (vi r):=by
 unfold Al at h
 refine I6 cf0 func344 call344 ntmps344 ?_;intro E H0 K hE hK hO;cbv;refine A3 hE h (c335 N aC.Kind) (.refl _) fun r1 h=>?_;cbv;refine A8 hE h (fun _ h=>?_) fun _ h=>?_
 ·cbv;cases h;exact hK hO (.refl _)
 cbv;refine A8 hE h (fun _ h=>?_) fun _ h=>?_
 ·cbv;cases h;exact hK hO (.refl _)
 cbv;refine A8 hE h (fun _ h=>?_) fun _ h=>?_
 ·cbv;refine A8 hE h (fun _ h=>?_) fun _ h=>?_
  ·cbv;cases h;exact hK hO (.refl _)
  cbv;cases h;exact hK hO (.refl _)
 cbv;refine A8 hE h (fun _ h=>?_) fun _ h=>?_
 ·cbv;refine A8 hE h (fun _ h=>?_) fun _ h=>?_
  ·cbv;cases h;exact hK hO (.refl _)
  cbv;cases h;exact hK hO (.refl _)
 cbv;refine A3 hE h (c275 N aC.Value) (.refl _) fun r2 h=>?_;cbv;refine A8 hE h (fun _ h=>?_) fun _ h=>?_
 ·cbv;refine A3 hE h (c342 N aC.Kind aC.Value) (.refl _) fun r3 h=>?_;cbv;refine A8 hE h (fun _ h=>?_) fun _ h=>?_
  ·cbv;cases h;exact hK hO (.refl _)
  cbv;cases h;exact hK hO (.refl _)
 cbv;cases h;exact hK hO (.refl _)
def cf341 :Cf:=⟨[4],[],[],[],[],[]⟩
theorem c341 (N aC bI r)(h:Bj N aC bI=some r):B2 prog 341 [(J2 aC),(D4 bI)] (.tup [(D4 r.1),vi r.2]):=by
 unfold Bj at h
 refine I6 cf341 func341 call341 ntmps341 ?_;intro E H0 K hE hK hO;cbv;refine C4 hE hO fun b1 H hO=>?_;cbv;refine A3 hE h (c344 N aC) (.refl _) fun r2 h=>?_;cbv;refine A8 hE h (fun _ h=>?_) fun _ h=>?_
 ·cbv;refine A9 hE hO 0 rfl rfl fun H hO=>?_;cbv;refine B4 hE hO 0 rfl ?_;cbv;cases h;exact hK hO (.refl _)
 cbv;refine A3 hE h (c336 N aC.Kind bI) (.refl _) fun r3 h=>?_;cbv;refine A8 hE h (fun _ h=>?_) fun _ h=>?_
 ·cbv;refine A9 hE hO 0 rfl rfl fun H hO=>?_;cbv;refine B4 hE hO 0 rfl ?_;cbv;cases h;exact hK hO (.refl _)
 cbv;refine A8 hE h (fun _ h=>?_) fun _ h=>?_
 ·cbv;refine A9 hE hO 0 rfl rfl fun H hO=>?_;cbv;refine B4 hE hO 0 rfl ?_;cbv;cases h;exact hK hO (.refl _)
 cbv;refine A8 hE h (fun _ h=>?_) fun _ h=>?_
 ·cbv;refine A9 hE hO 0 rfl rfl fun H hO=>?_;cbv;refine B4 hE hO 0 rfl ?_;cbv;cases h;exact hK hO (.refl _)
 cbv;refine A9 hE hO 0 rfl rfl fun H hO=>?_;cbv;refine B4 hE hO 0 rfl ?_;cbv;cases h;exact hK hO (.refl _)
def cf333 :Cf:=⟨[6],[],[],[],[],[]⟩
theorem c333 (N aQ aF bI r) (h:Cq N aQ aF bI=some r):B2 prog 333 [vi aQ,sr eAp0 aF,(D4 bI)] (.tup [(D4 r.1),vi r.2]):=by
 unfold Cq at h
 refine I6 cf333 func333 call333 ntmps333 ?_;intro E H0 K hE hK hO;cbv;refine C4 hE hO fun b1 H hO=>?_;cbv;refine A3 hE h (c335 N aQ) (.refl _) fun r2 h=>?_;cbv;refine A8 hE h (fun _ h=>?_) fun _ h=>?_
 ·cbv;refine A9 hE hO 0 rfl rfl fun H hO=>?_;cbv;refine B4 hE hO 0 rfl ?_;cbv;cases h;exact hK hO (.refl _)
 cbv;refine D9 hE ?_;cbv;refine A8 hE h (fun _ h=>?_) fun _ h=>?_
 ·cbv;refine A9 hE hO 0 rfl rfl fun H hO=>?_;cbv;refine B4 hE hO 0 rfl ?_;cbv;cases h;exact hK hO (.refl _)
 cbv;refine D9 hE ?_;cbv;obtain⟨s4,hx,h⟩:=bind_some h;refine E9 cf333 hE N5 (fun s3=>[(1,.v (sr eAp0 aF)),(3,.v (.eref [vi aQ] 0)),(5,.v (.eref (Q3 bI) 0)),(6,.v (.ref b1 0)),(22,.v (sr eAp0 aF)),fi 23 (Ar.len aF),fi 24 s3]) (fun s3 H1=>B7 Eq H0 [cb b1 [vi 0,vi 0,.str (⟨#[]⟩)]] H1) (fun x e l H1=>match(generalizing:=false) x with| .inl y=>e= .exit 1∧l=[(1,.v (sr eAp0 aF)),(3,.v (.eref [vi aQ] 0)),(5,.v (.eref (Q3 bI) 0)),(6,.v (.ref b1 0))]∧B7 Eq H0 [cb b1 [vi 0,vi 0,.str (⟨#[]⟩)]] H1| .inr y=>e= .ret∧l=[(6,.v (.ref b1 0)),fi 7 y]∧B7 Eq H0 [cb b1 [vi 0,vi 0,.str (⟨#[]⟩)]] H1) (by kernel_rfl) ?_ hx ?_ hO ?_
 ·intro s3 H o hO h;clear hx;cbv;refine A8 hE h (fun _ h=>?_) fun _ h=>?_
  ·cbv;refine B9 hE eAo8 h fun x5 h=>?_;cbv;refine A3 hE h (c336 N aQ x5) (.refl _) fun r6 h=>?_;cbv;refine A8 hE h (fun _ h=>?_) fun _ h=>?_
   ·cbv;refine A9 hE hO 0 rfl rfl fun H hO=>?_;cbv;cases h;exact⟨_,_,rfl,⟨rfl,rfl,hO⟩,.e2 .z,rfl⟩
   cbv;cases h;exact⟨_,rfl,.e rfl (.e2 (.e4 .z)),rfl,hO⟩
  cbv;cases h;exact⟨_,_,rfl,⟨rfl,rfl,hO⟩,.e4 .z,rfl⟩
 ·exact .e rfl (.e2 (.e4 .z))
 clear hx
 rcases s4 with y7|y10
 ·rintro e l H ⟨rfl,rfl,hO⟩;cbv;refine A3 hE (g:=fun r8=>(J2 r8)) h (fun r8 hx=>c337 N (⟨aQ,0,(⟨0,0,⟨#[]⟩⟩:A7)⟩:D0) aF (.func (.func 338) [] [.eref [vi aQ] 0]) (fun y1 y2=>N0 N y1 y2 aQ) (fun y1 y2 r hx=>B2.value (F:=[]) (C:=[.eref [vi aQ] 0]) (c338 N y1 y2 aQ r hx)) r8 hx) (.refl _) fun r8 h=>?_;cbv;refine A3 hE h (c341 N r8 bI) (.refl _) fun r9 h=>?_;cbv;refine A9 hE hO 0 rfl rfl fun H hO=>?_;cbv;refine B4 hE hO 0 rfl ?_;cbv;cases h;exact hK hO (.refl _)
 rintro e l H ⟨rfl,rfl,hO⟩;cbv;refine B4 hE hO 0 rfl ?_;cbv;cases h;exact hK hO (.refl _)
def cf328 :Cf:=⟨[4],[],[],[],[],[]⟩
theorem c328 (N aO aB r) (h:S1 N aO aB=some r):B2 prog 328 [(AW aO),(H5 aB)] (.tup [(D4 r.1),vi r.2]):=by
 unfold S1 at h
 refine I6 cf328 func328 call328 ntmps328 ?_;intro E H0 K hE hK hO;cbv;refine C4 hE hO fun b1 H hO=>?_;cbv;refine A3 hE h (c327 N aO aB.Var) (.refl _) fun r2 h=>?_;cbv;refine D9 hE ?_;cbv;replace hO:=hO.tl0 (t:=.nil) rfl;obtain⟨s5,hx,h⟩:=bind_some h;refine W1 cf328 hE N5 (γ:=D7) (fun s3 g=>[(3,.v (.eref (AR aB) 0)),(4,.v (.ref b1 0)),(6,.v (.sl (lst eAp0 s3.1) g)),(14,.v (sr eAo3 r2)),fi 15 (Ar.len r2),fi 16 s3.2]) (fun s3 g H1=>W4 g∧B7 Eq H0 [.tl g,cb b1 [vi 0,vi 0,.str (⟨#[]⟩)]] H1) (fun x e l H1=>match(generalizing:=false) x with| .inl y=>∃u1:D7,W4 u1∧e= .exit 0∧l=[(3,.v (.eref (AR aB) 0)),(4,.v (.ref b1 0)),(6,.v (.sl (lst eAp0 y) u1))]∧B7 Eq H0 [.tl u1,cb b1 [vi 0,vi 0,.str (⟨#[]⟩)]] H1| .inr y=>∃u1:D7,W4 u1∧e= .ret∧l=[(4,.v (.ref b1 0)),fi 5 y]∧B7 Eq H0 [.tl u1,cb b1 [vi 0,vi 0,.str (⟨#[]⟩)]] H1) (by kernel_rfl) ?_ .nil hx ?_ ?_ ?_
 ·rintro s3 t4 H o ⟨ht4,hO⟩ h;clear hx;cbv;refine A8 hE h (fun _ h=>?_) fun _ h=>?_
  ·cbv;refine B9 hE eAo9 h fun x6 h=>?_;cbv;refine A3 hE h (c329 N x6 aB.Field) (.refl _) fun r7 h=>?_;cbv;refine A8 hE h (fun _ h=>?_) fun _ h=>?_
   ·cbv;refine A9 hE hO 1 rfl rfl fun H hO=>?_;cbv;cases h;exact⟨_,_,rfl,⟨t4,ht4,rfl,rfl,hO⟩,.e2 .z,rfl⟩
   cbv;refine Cd (f:=eAp0) hE Nt (by decide) hO 0 rfl ht4 (l:=s3.1) (m:=[r7.1]) (.refl _) (.lstc (.eq (eAo8 r7.1) (.refl _)) (.lst0)) h fun l9 t8 H hO ht8 h=>?_;cbv;cases h;exact⟨_,t8,rfl,.e2 (.e4 .z),rfl,ht8,hO⟩
  cbv;cases h;exact⟨_,_,rfl,⟨t4,ht4,rfl,rfl,hO⟩,.e rfl (.e2 .z),rfl⟩
 ·exact .e2 (.v (.slt _ (.lst0)) (.e rfl (.e rfl (.e rfl (.z)))))
 ·exact⟨trivial,hO⟩
 clear hx
 rcases s5 with y10|y13
 ·rintro e l H ⟨t11,ht11,rfl,rfl,hO⟩;cbv;refine A3 hE h (c333 N aB.Kind y10 aB.Value) (.cons (.refl _) (.cons (.ro _ _) (.refl _))) fun r12 h=>?_;cbv;refine A9 hE hO 1 rfl rfl fun H hO=>?_;cbv;refine B4 hE hO 1 rfl ?_;cbv;cases h;exact hK hO (.refl _)
 rintro e l H ⟨t14,ht14,rfl,rfl,hO⟩;cbv;refine B4 hE hO 1 rfl ?_;cbv;cases h;exact hK hO (.refl _)
def cf315 :Cf:=⟨[4,7],[],[(38,12),(63,19)],[],[],[]⟩
theorem c315 (N aO aB r) (h:T8 N aO aB=some r):B2 prog 315 [(AW aO),(H5 aB)] (.tup [(D4 r.1),vi r.2]):=by
 unfold T8 at h
 refine I6 cf315 func315 call315 ntmps315 ?_;intro E H0 K hE hK hO;cbv;refine C4 hE hO fun b1 H hO=>?_;cbv;refine A3 hE h (c327 N aO aB.Var) (.refl _) fun r2 h=>?_;cbv;refine A8 hE h (fun _ h=>?_) fun _ h=>?_
 ·cbv;refine A9 hE hO 0 rfl rfl fun H hO=>?_;cbv;refine B4 hE hO 0 rfl ?_;cbv;cases h;exact hK hO (.refl _)
 cbv;refine A8 hE h (fun _ h=>?_) fun _ h=>?_
 ·cbv;refine D9 hE ?_;cbv;refine A9 hE hO 0 rfl rfl fun H hO=>?_;cbv;refine B4 hE hO 0 rfl ?_;cbv;cases h;exact hK hO (.refl _)
 cbv;refine A8 hE h (fun _ h=>?_) fun _ h=>?_
 ·cbv;refine A3 hE h (c328 N aO aB) (.refl _) fun r3 h=>?_;cbv;refine A9 hE hO 0 rfl rfl fun H hO=>?_;cbv;refine B4 hE hO 0 rfl ?_;cbv;cases h;exact hK hO (.refl _)
 cbv;refine C4 hE hO fun b4 H hO=>?_;cbv;refine A9 hE hO 0 rfl rfl fun H hO=>?_;cbv;obtain⟨s5,hx,h⟩:=bind_some h;refine U4 cf315 hE N5 (fun e l H1=>match(generalizing:=false) s5 with| .inl y=>e= .normal∧l=[(3,.v (.eref (AR aB) 0)),(4,.v (.ref b1 0)),(7,.v (.ref b4 0))]∧B7 Eq H0 [cb b4 (Lf y),cb b1 [vi 0,vi 0,.str (⟨#[]⟩)]] H1| .inr y=>e= .ret∧l=[(4,.v (.ref b1 0)),fi 5 10]∧B7 Eq H0 [cb b4 (Lf aO.event),cb b1 [vi 0,vi 0,.str (⟨#[]⟩)]] H1) (by kernel_rfl) ?_ ?_
 ·clear h;have h:=hx;clear hx;cbv;refine A8 hE h (fun _ h=>?_) fun _ h=>?_
  ·cbv;refine D9 hE ?_;cbv;refine A8 hE h (fun _ h=>?_) fun _ h=>?_
   ·cbv;refine A9 hE hO 1 rfl rfl fun H hO=>?_;cbv;cases h;exact⟨_,⟨rfl,rfl,hO⟩,.e2 .z,rfl⟩
   cbv;refine D9 hE ?_;cbv;refine B9 hE eAo9 h fun x6 h=>?_;cbv;refine A9 hE hO 0 rfl rfl fun H hO=>?_;cbv;cases h;exact⟨_,⟨rfl,rfl,hO⟩,.e rfl (.e2 .z),rfl⟩
  cbv;cases h;exact⟨_,⟨rfl,rfl,hO⟩,.e rfl (.e2 .z),rfl⟩
 clear hx
 rcases s5 with y7|y11
 ·rintro e l H ⟨rfl,rfl,hO⟩;cbv;refine A8 hE h (fun _ h=>?_) fun _ h=>?_
  ·cbv;refine B4 hE hO 0 rfl ?_;cbv;refine A9 hE hO 1 rfl rfl fun H hO=>?_;cbv;refine B4 hE hO 1 rfl ?_;cbv;cases h;exact hK hO (.refl _)
  cbv;refine B4 hE hO 0 rfl ?_;cbv;refine A3 hE h (c329 N y7 aB.Field) (.refl _) fun r8 h=>?_;cbv;obtain⟨s9,hx,h⟩:=bind_some h;refine U4 cf315 hE N5 (fun e l H1=>e= .normal∧l=[(4,.v (.ref b1 0)),(8,.v (.eref (Q3 r8.1) 0)),fi 9 s9]∧B7 Eq H0 [cb b4 (Lf y7),cb b1 [vi 0,vi 0,.str (⟨#[]⟩)]] H1) (by kernel_rfl) ?_ ?_
  ·clear h;have h:=hx;clear hx;cbv;refine A8 hE h (fun _ h=>?_) fun _ h=>?_
   ·cbv;refine A3 hE h (c275 N r8.1) (.refl _) fun r10 h=>?_;cbv;cases h;exact⟨_,⟨rfl,rfl,hO⟩,.e rfl (.e2 .z),rfl⟩
   cbv;cases h;exact⟨_,⟨rfl,rfl,hO⟩,.e rfl (.e2 .z),rfl⟩
  clear hx;rintro e l H ⟨rfl,rfl,hO⟩;cbv;refine A8 hE h (fun _ h=>?_) fun _ h=>?_
  ·cbv;refine A9 hE hO 1 rfl rfl fun H hO=>?_;cbv;refine B4 hE hO 1 rfl ?_;cbv;cases h;exact hK hO (.refl _)
  cbv;refine A9 hE hO 1 rfl rfl fun H hO=>?_;cbv;refine B4 hE hO 1 rfl ?_;cbv;cases h;exact hK hO (.refl _)
 rintro e l H ⟨rfl,rfl,hO⟩;cbv;refine B4 hE hO 1 rfl ?_;cbv;cases h;exact hK hO (.refl _)
def cf316 :Cf:=⟨[],[],[(15,8),(22,13)],[],[],[]⟩
theorem c316 (N aP bF r) (h:Bz N aP bF=some r):B2 prog 316 [vi aP,sr (V.int .i64) bF] (vi r):=by
 unfold Bz at h
 refine I6 cf316 func316 call316 ntmps316 ?_;intro E H0 K hE hK hO;cbv;refine D9 hE ?_;cbv;obtain⟨s2,hx,h⟩:=bind_some h;refine E9 cf316 hE N5 (fun s1=>[fi 0 aP,(1,.v (sr (V.int .i64) bF)),(8,.v (sr (V.int .i64) bF)),fi 9 (Ar.len bF),fi 10 s1]) (fun s1 H1=>B7 Eq H0 [] H1) (fun x e l H1=>match(generalizing:=false) x with| .inl y=>e= .exit 0∧l=[]∧B7 Eq H0 [] H1| .inr y=>e= .ret∧l=[fi 4 9]∧B7 Eq H0 [] H1) (by kernel_rfl) ?_ hx ?_ hO ?_
 ·intro s1 H o hO h;clear hx;cbv;refine A8 hE h (fun _ h=>?_) fun _ h=>?_
  ·cbv;refine B9 hE (fun _=>rfl) h fun x3 h=>?_;cbv;obtain⟨s4,hx,h⟩:=bind_some h;refine U4 cf316 hE N5 (fun e l H1=>e= .normal∧l=[fi 0 aP,(1,.v (sr (V.int .i64) bF)),fi 6 x3,(7,.b true),(8,.v (sr (V.int .i64) bF)),fi 9 (Ar.len bF),fi 10 s1,fi 14 aP,(15,.v (.bool s4))]∧B7 Eq H0 [] H1) (by kernel_rfl) ?_ ?_
   ·clear h;have h:=hx;clear hx;cbv;refine A8 hE h (fun _ h=>?_) fun _ h=>?_
    ·cbv;cases h;exact⟨_,⟨rfl,rfl,hO⟩,.e rfl (.e2 (.b rfl (.e rfl (.e rfl (.e rfl (.e rfl (.e rfl (.z)))))))),rfl⟩
    cbv;refine A8 hE h (fun _ h=>?_) fun _ h=>?_
    ·cbv;cases h;exact⟨_,⟨rfl,rfl,hO⟩,.e rfl (.e2 (.b rfl (.e rfl (.e rfl (.e rfl (.e rfl (.e rfl (.z)))))))),rfl⟩
    cbv;refine A8 hE h (fun _ h=>?_) fun _ h=>?_
    ·cbv;cases h;exact⟨_,⟨rfl,rfl,hO⟩,.e rfl (.e2 (.b rfl (.e rfl (.e rfl (.e rfl (.e rfl (.e rfl (.z)))))))),rfl⟩
    cbv;cases h;exact⟨_,⟨rfl,rfl,hO⟩,.e rfl (.e2 (.b rfl (.e rfl (.e rfl (.e rfl (.e rfl (.e rfl (.z)))))))),rfl⟩
   clear hx;rintro e l H ⟨rfl,rfl,hO⟩;cbv;refine A8 hE h (fun _ h=>?_) fun _ h=>?_
   ·cbv;refine A8 hE h (fun _ h=>?_) fun _ h=>?_
    ·cbv;cases h;exact⟨_,_,rfl,⟨rfl,rfl,hO⟩,.e rfl .z,rfl⟩
    cbv;cases h;exact⟨_,rfl,.e rfl (.e4 .z),rfl,hO⟩
   cbv;obtain⟨s5,hx,h⟩:=bind_some h;refine U4 cf316 hE N5 (fun e l H1=>e= .normal∧l=[fi 0 aP,(1,.v (sr (V.int .i64) bF)),fi 6 x3,(7,.b true),(8,.v (sr (V.int .i64) bF)),fi 9 (Ar.len bF),fi 10 s1,fi 14 aP,(22,.v (.bool s5))]∧B7 Eq H0 [] H1) (by kernel_rfl) ?_ ?_
   ·clear h;have h:=hx;clear hx;cbv;refine A8 hE h (fun _ h=>?_) fun _ h=>?_
    ·cbv;cases h;exact⟨_,⟨rfl,rfl,hO⟩,.e rfl (.e2 (.b rfl (.e rfl (.e rfl (.e rfl (.e rfl (.e rfl (.z)))))))),rfl⟩
    cbv;refine A8 hE h (fun _ h=>?_) fun _ h=>?_
    ·cbv;cases h;exact⟨_,⟨rfl,rfl,hO⟩,.e rfl (.e2 (.b rfl (.e rfl (.e rfl (.e rfl (.e rfl (.e rfl (.z)))))))),rfl⟩
    cbv;cases h;exact⟨_,⟨rfl,rfl,hO⟩,.e rfl (.e2 (.b rfl (.e rfl (.e rfl (.e rfl (.e rfl (.e rfl (.z)))))))),rfl⟩
   clear hx;rintro e l H ⟨rfl,rfl,hO⟩;cbv;refine A8 hE h (fun _ h=>?_) fun _ h=>?_
   ·cbv;refine A8 hE h (fun _ h=>?_) fun _ h=>?_
    ·cbv;cases h;exact⟨_,_,rfl,⟨rfl,rfl,hO⟩,.e rfl .z,rfl⟩
    cbv;cases h;exact⟨_,rfl,.e rfl (.e4 .z),rfl,hO⟩
   cbv;refine A8 hE h (fun _ h=>?_) fun _ h=>?_
   ·cbv;refine B9 hE (fun _=>rfl) h fun x6 h=>?_;cbv;refine A8 hE h (fun _ h=>?_) fun _ h=>?_
    ·cbv;cases h;exact⟨_,_,rfl,⟨rfl,rfl,hO⟩,.e rfl .z,rfl⟩
    cbv;cases h;exact⟨_,rfl,.e rfl (.e4 .z),rfl,hO⟩
   cbv;cases h;exact⟨_,rfl,.e rfl (.e4 .z),rfl,hO⟩
  cbv;cases h;exact⟨_,_,rfl,⟨rfl,rfl,hO⟩,.z,rfl⟩
 ·exact .e rfl (.e4 .z)
 clear hx
 rcases s2 with y7|y8
 ·rintro e l H ⟨rfl,rfl,hO⟩;cbv;cases h;exact hK hO (.refl _)
 rintro e l H ⟨rfl,rfl,hO⟩;cbv;cases h;exact hK hO (.refl _)
end Go.Ab
namespace Go.Ab
open Go.RowKit Go.Proofs Go.Proofs.Tryz I0
variable [Ar][I0]
set_option maxRecDepth 100000
def cf298 :Cf:=⟨[4,3000042,8000042,9000042],[(11,8),(17,6),(18,16)],[],[],[],[]⟩
theorem c298 (N:Nat):∀n aO aB r,H7 N n aO aB=some r→B2 prog 298 [(AW aO),(H5 aB)] (.tup [(D4 r.1),vi r.2]):=by
 intro n
 induction n with
 |zero=>intro aO aB r h;cases h
 |succ n ih=>
 intro aO aB r h
 unfold H7 at h
 refine I6 cf298 func298 call298 ntmps298 ?_;intro E H0 K hE hK hO;cbv;refine C4 hE hO fun b1 H hO=>?_;cbv;refine D9 hE ?_;cbv;refine A8 hE h (fun _ h=>?_) fun _ h=>?_
 ·cbv;refine A3 hE h (c315 N aO aB) (.refl _) fun r2 h=>?_;cbv;refine A9 hE hO 0 rfl rfl fun H hO=>?_;cbv;refine B4 hE hO 0 rfl ?_;cbv;cases h;exact hK hO (.refl _)
 cbv;refine D9 hE ?_;cbv;replace hO:=hO.tl0 (t:=.nil) rfl;replace hO:=hO.tl0 (t:=.nil) rfl;obtain⟨s6,hx,h⟩:=bind_some h;refine W1 cf298 hE N5 (γ:=D7×D7) (fun s3 g=>[(2,.v (.eref (CN aO) 0)),(3,.v (.eref (AR aB) 0)),(4,.v (.ref b1 0)),(6,.v (.sl (lst eAp0 s3.1) g.2)),(7,.v (.sl (lst (V.int .i64) s3.2.1) g.1)),(23,.v (sr eAo6 aB.cP)),fi 24 (Ar.len aB.cP),fi 25 s3.2.2]) (fun s3 g H1=>W4 g.1∧W4 g.2∧B7 Eq H0 [.tl g.1,.tl g.2,cb b1 [vi 0,vi 0,.str (⟨#[]⟩)]] H1) (fun x e l H1=>match(generalizing:=false) x with| .inl y=>∃u1:D7,W4 u1∧∃u2:D7,W4 u2∧e= .exit 0∧l=[(2,.v (.eref (CN aO) 0)),(3,.v (.eref (AR aB) 0)),(4,.v (.ref b1 0)),(6,.v (.sl (lst eAp0 y.1) u2)),(7,.v (.sl (lst (V.int .i64) y.2) u1))]∧B7 Eq H0 [.tl u1,.tl u2,cb b1 [vi 0,vi 0,.str (⟨#[]⟩)]] H1| .inr y=>∃u1:D7,W4 u1∧∃u2:D7,W4 u2∧e= .ret∧l=[(4,.v (.ref b1 0)),fi 5 y]∧B7 Eq H0 [.tl u1,.tl u2,cb b1 [vi 0,vi 0,.str (⟨#[]⟩)]] H1) (by kernel_rfl) ?_ (⟨.nil,.nil⟩) hx ?_ ?_ ?_
 ·rintro s3 ⟨t4,t5⟩ H o ⟨ht4,ht5,hO⟩ h;clear hx;cbv;refine A8 hE h (fun _ h=>?_) fun _ h=>?_
  ·cbv;refine B9 hE eAp2 h fun x7 h=>?_;cbv;refine A3 hE h (ih aO x7) (.refl _) fun r8 h=>?_;cbv;refine A8 hE h (fun _ h=>?_) fun _ h=>?_
   ·cbv;refine A9 hE hO 2 rfl rfl fun H hO=>?_;cbv;cases h;exact⟨_,_,rfl,⟨t4,ht4,t5,ht5,rfl,rfl,hO⟩,.e2 .z,rfl⟩
   cbv;refine Ui hE hO 1 rfl ht5 fun H hO=>?_;cbv;refine Mc hE trivial ?_;cbv;refine GS (f:=eAp0) hE Nt (by decide) (l:=s3.1) (m:=[r8.1]) (.refl _) (.lstc (.eq (eAo8 r8.1) (.refl _)) (.lst0)) h fun l9 h=>?_;cbv;refine Um hE hO 1 rfl fun t10 H hO ht10=>?_;cbv;refine Cd (f:=(V.int .i64)) hE (fun _=>rfl) (by decide) hO 0 rfl ht4 (l:=s3.2.1) (m:=[r8.1.Kind]) (.refl _) (.lstc (.refl _) (.lst0)) h fun l12 t11 H hO ht11 h=>?_;cbv;cases h;exact⟨_,⟨t11,t10⟩,rfl,.e4 (.e4 .z),rfl,ht11,ht10,hO⟩
  cbv;cases h;exact⟨_,_,rfl,⟨t4,ht4,t5,ht5,rfl,rfl,hO⟩,.e rfl (.e4 .z),rfl⟩
 ·exact .e rfl (.e2 (.v (.slt _ (.lst0)) (.v (.slt _ (.lst0)) (.e rfl (.e rfl (.e rfl (.z)))))))
 ·exact⟨trivial,trivial,hO⟩
 clear hx
 rcases s6 with y13|y43
 ·rintro e l H ⟨t14,ht14,t15,ht15,rfl,rfl,hO⟩;cbv;refine A3 hE h (c316 N aB.Op y13.2) (.cons (.refl _) (.cons (.ro _ _) (.refl _))) fun r16 h=>?_;cbv;refine A8 hE h (fun _ h=>?_) fun _ h=>?_
  ·cbv;refine A9 hE hO 2 rfl rfl fun H hO=>?_;cbv;refine B4 hE hO 2 rfl ?_;cbv;cases h;exact hK hO (.refl _)
  cbv;refine A8 hE h (fun _ h=>?_) fun _ h=>?_
  ·cbv;refine B9 hE eAo8 h fun x17 h=>?_;cbv;refine B9 hE eAo8 h fun x18 h=>?_;cbv;refine A3 hE h (c285 N (an (Ar.cmp .eql x17.Kind x18.Kind) (an (Ar.cmp .eql x17.Num x18.Num) (an (Ar.scmp .eql x17.Text x18.Text) true)))) (.refl _) fun r19 h=>?_;cbv;refine A9 hE hO 2 rfl rfl fun H hO=>?_;cbv;refine B4 hE hO 2 rfl ?_;cbv;cases h;exact hK hO (.refl _)
  cbv;refine Ag0 hE (kt:=3) (et:=338) (z:=.nilf) (by kernel_rfl) (by kernel_rfl) (by kernel_rfl) rfl ?_;cbv;refine A8 hE h (fun _ h=>?_) fun _ h=>?_
  ·cbv;refine B9 hE eAo8 h fun x20 h=>?_;cbv;refine D9 hE ?_;cbv;refine B9 hE eAo8 h fun x21 h=>?_;cbv;refine Y6 hE (g:=fun r22=>(D4 r22)) h (fun r22 hx=>B2.value (F:=[]) (C:=[.eref [.func (.func 307) [] []] 0]) (c308 N x20.Num x21.Num (.func (.func 307) [] []) (fun y1=>P4 N y1) (fun y1 r hx=>B2.value (F:=[]) (C:=[]) (c307 N y1 r hx)) r22 hx)) (.refl _) fun r22 h=>?_;cbv;refine A9 hE hO 2 rfl rfl fun H hO=>?_;cbv;refine B4 hE hO 2 rfl ?_;cbv;cases h;exact hK hO (.refl _)
  cbv;refine A8 hE h (fun _ h=>?_) fun _ h=>?_
  ·cbv;refine B9 hE eAo8 h fun x23 h=>?_;cbv;refine D9 hE ?_;cbv;refine B9 hE eAo8 h fun x24 h=>?_;cbv;refine Y6 hE (g:=fun r25=>(D4 r25)) h (fun r25 hx=>B2.value (F:=[]) (C:=[.eref [.func (.func 307) [] []] 0]) (c309 N x23.Num x24.Num (.func (.func 307) [] []) (fun y1=>P4 N y1) (fun y1 r hx=>B2.value (F:=[]) (C:=[]) (c307 N y1 r hx)) r25 hx)) (.refl _) fun r25 h=>?_;cbv;refine A9 hE hO 2 rfl rfl fun H hO=>?_;cbv;refine B4 hE hO 2 rfl ?_;cbv;cases h;exact hK hO (.refl _)
  cbv;refine A8 hE h (fun _ h=>?_) fun _ h=>?_
  ·cbv;refine B9 hE eAo8 h fun x26 h=>?_;cbv;refine D9 hE ?_;cbv;refine B9 hE eAo8 h fun x27 h=>?_;cbv;refine A3 hE h (c310 N x26.Num x27.Num) (.refl _) fun r28 h=>?_;cbv;refine A9 hE hO 2 rfl rfl fun H hO=>?_;cbv;refine B4 hE hO 2 rfl ?_;cbv;cases h;exact hK hO (.refl _)
  cbv;refine A8 hE h (fun _ h=>?_) fun _ h=>?_
  ·cbv;refine B9 hE eAo8 h fun x29 h=>?_;cbv;refine D9 hE ?_;cbv;refine B9 hE eAo8 h fun x30 h=>?_;cbv;refine A3 hE h (c311 N x29.Num x30.Num) (.refl _) fun r31 h=>?_;cbv;refine A9 hE hO 2 rfl rfl fun H hO=>?_;cbv;refine B4 hE hO 2 rfl ?_;cbv;cases h;exact hK hO (.refl _)
  cbv;refine A8 hE h (fun _ h=>?_) fun _ h=>?_
  ·cbv;refine B9 hE eAo8 h fun x32 h=>?_;cbv;refine D9 hE ?_;cbv;refine B9 hE eAo8 h fun x33 h=>?_;cbv;refine A3 hE h (c312 N x32.Num x33.Num) (.refl _) fun r34 h=>?_;cbv;refine A9 hE hO 2 rfl rfl fun H hO=>?_;cbv;refine B4 hE hO 2 rfl ?_;cbv;cases h;exact hK hO (.refl _)
  cbv;refine A8 hE h (fun _ h=>?_) fun _ h=>?_
  ·cbv;refine B9 hE eAo8 h fun x35 h=>?_;cbv;refine D9 hE ?_;cbv;refine B9 hE eAo8 h fun x36 h=>?_;cbv;refine A3 hE h (c313 N x35.Num x36.Num) (.refl _) fun r37 h=>?_;cbv;refine A9 hE hO 2 rfl rfl fun H hO=>?_;cbv;refine B4 hE hO 2 rfl ?_;cbv;cases h;exact hK hO (.refl _)
  cbv;refine A8 hE h (fun _ h=>?_) fun _ h=>?_
  ·cbv;refine B9 hE eAo8 h fun x38 h=>?_;cbv;refine D9 hE ?_;cbv;refine B9 hE eAo8 h fun x39 h=>?_;cbv;refine A3 hE h (c314 N x38.Num x39.Num) (.refl _) fun r40 h=>?_;cbv;refine A9 hE hO 2 rfl rfl fun H hO=>?_;cbv;refine B4 hE hO 2 rfl ?_;cbv;cases h;exact hK hO (.refl _)
  cbv;refine B9 hE eAo8 h fun x41 h=>?_;cbv;refine D9 hE ?_;cbv;refine B9 hE eAo8 h fun x42 h=>?_;cbv;cases h
 rintro e l H ⟨t44,ht44,t45,ht45,rfl,rfl,hO⟩;cbv;refine B4 hE hO 2 rfl ?_;cbv;cases h;exact hK hO (.refl _)
def cf284 :Cf:=⟨[8],[(3000004,0),(3000004,1),(3000004,2),(3000004,4),(3000004,5),(3000004,7),(3000004,8),(3000004,10)],[],[2000004],[],[]⟩
theorem c284 (N aB bL bE bM r)(h:Fq N aB bL bE bM=some r):B2 prog 284 [(H5 aB),(PV bL),vi bE,(BC bM)] (.tup [(D4 r.1),vi r.2]):=by
 unfold Fq at h
 refine I6 cf284 func284 call284 ntmps284 ?_;intro E H0 K hE hK hO;cbv;refine C4 hE hO fun b1 H hO=>?_;cbv;refine A3 hE h (c178 N aB) (.refl _) fun r2 h=>?_;cbv;refine A8 hE h (fun _ h=>?_) fun _ h=>?_
 ·cbv;refine A9 hE hO 0 rfl rfl fun H hO=>?_;cbv;refine B4 hE hO 0 rfl ?_;cbv;cases h;exact hK hO (.refl _)
 cbv;obtain⟨s3,hx,h⟩:=bind_some h;refine U4 cf284 hE N5 (fun e l H1=>e= .normal∧l=[(8,.v (.ref b1 0)),fi 9 s3.1]∧B7 Eq H0 [cb b1 (Q3 s3.2)] H1) (by kernel_rfl) ?_ ?_
 ·clear h;have h:=hx;clear hx;cbv;refine XF hE (c297 N () rfl) (.refl _) hO fun m125 H hO=>?_;cbv;refine ZC hE (g:=fun r244=>.tup [(D4 r244.1),vi r244.2]) h (c298 N N (⟨bL,bE,bM,()⟩:P9) aB) (fun _=>.tup2 (.agg rfl) (.int _ _)) (.agg (.le (.refl _) (.le (.refl _) (.le (.refl _) (.le (.refl _) (.le (.refl _) (.le (.refl _) (.le (.refl _) (.fm (hO.get 0 rfl) (.nil))))))))) (.le (.refl _) (.nil))) fun r244 h=>?_;cbv;refine A9 hE hO 1 rfl rfl fun H hO=>?_;cbv;cases h;exact⟨_,⟨rfl,rfl,hO.tail⟩,.e2 .z,rfl⟩
 clear hx;rintro e l H ⟨rfl,rfl,hO⟩;cbv;refine B4 hE hO 0 rfl ?_;cbv;cases h;exact hK hO (.refl _)
def cf265 :Cf:=⟨[],[(2,5)],[],[],[],[]⟩
theorem c265 (N aB bL bE bM r)(h:CH N aB bL bE bM=some r):B2 prog 265 [(H5 aB),(PV bL),vi bE,(BC bM)] (.bool r):=by
 unfold CH at h
 refine I6 cf265 func265 call265 ntmps265 ?_;intro E H0 K hE hK hO;cbv;refine A3 hE h (c284 N aB bL bE bM) (.refl _) fun r1 h=>?_;cbv;refine A8 hE h (fun _ h=>?_) fun _ h=>?_
 ·cbv;refine D5 hE (g:=fun r2=>(D4 r2)) h (c285 N true) (.refl _) fun r2 h=>?_;cbv;cases h;exact hK hO (.refl _)
 cbv;cases h;exact hK hO (.refl _)
def cf266 :Cf:=⟨[6,7,3000041,8000041,9000041],[(6,20)],[],[],[(44,1000007)],[]⟩
theorem c266 (N aJ aH bZ r) (h:P7 N aJ aH bZ=some r):B2 prog 266 [.eref (B1 aJ) 0,sr eAo1 aH,vi bZ] ((PV r)):=by
 unfold P7 at h
 refine I6 cf266 func266 call266 ntmps266 ?_;intro E H0 K hE hK hO;cbv;refine C4 hE hO fun b1 H hO=>?_;cbv;refine Al3 hE (f:=eAo3) (by decide) hO 1 h fun l3 w2 H hw2 h hO=>?_;have hO:B7 Eq H0 (.blk w2.q.id (.arr 1 (w2.q.pre++lst (Dv eAo3) w2.row++w2.q.rest))::cb b1 [.sl [] .nil]::(HF w2++[])) H:=hO;cbv;refine C4 hE hO fun b4 H hO=>?_;cbv;refine A9 hE hO 0 rfl rfl fun H hO=>?_;cbv;refine D9 hE ?_;cbv;obtain⟨s7,hx,h⟩:=bind_some h;refine W1 cf266 hE N5 (γ:=Rw A5) (fun s5 g=>[(0,.v (.eref (B1 aJ) 0)),fi 2 bZ,(6,.v (.ref b1 0)),(7,.v (.ref b4 0)),(12,.v (sr eAo1 aH)),fi 13 (Ar.len aH),fi 14 s5.1]) (fun s5 g H1=>CP g s5.2∧B7 Eq H0 (cb b4 [.own g.q.id g.q.lo g.q.n]:: .blk g.q.id (.arr 1 (g.q.pre++lst (Dv eAo3) g.row++g.q.rest))::cb b1 [.sl [] .nil]::(HF g++[])) H1) (fun x e l H1=>∃u1:Rw A5,CP u1 x∧e= .exit 0∧l=[(6,.v (.ref b1 0)),(7,.v (.ref b4 0))]∧B7 Eq H0 (cb b4 [.own u1.q.id u1.q.lo u1.q.n]:: .blk u1.q.id (.arr 1 (u1.q.pre++lst (Dv eAo3) u1.row++u1.q.rest))::cb b1 [.sl [] .nil]::(HF u1++[])) H1) (by kernel_rfl) ?_ w2 hx ?_ ?_ ?_
 ·rintro s5 w6 H o ⟨hw6,hO⟩ h;clear hx;cbv;refine A8 hE h (fun _ h=>?_) fun _ h=>?_
  ·cbv;refine B9 hE eAp4 h fun x8 h=>?_;cbv;refine A8 hE h (fun _ h=>?_) fun _ h=>?_
   ·cbv;obtain⟨x9,hxx9,h⟩:=bind_some h
    obtain⟨hjx9,t10,hrx9,hax9⟩:=hw6.at hxx9
    obtain⟨Rx9,hO,hbx9⟩:=hO.rtake (w:=w6) (T1:=[]) (T2:=[]) 3 rfl hrx9;refine Ui hE hO 0 rfl hax9 fun H hO=>?_;cbv;refine B4 hE hO 1 rfl ?_;cbv;refine B4 hE hO 1 rfl ?_;cbv;refine Yp hE (f:=Dv eAo3) hO hw6.ok 2 rfl hjx9 ?_;cbv;refine ZV hE (f:=Dv eAo3) (fun _=>rfl) hO hw6.ok 2 rfl hjx9.1 hrx9 ?_;cbv;refine B9 hE eAo9 h fun x14 h=>?_;cbv;refine Mc hE trivial ?_;cbv;refine GS (f:=eAo3) hE DL (by decide) (l:=x9) (m:=[x14]) (.refl _) (.lstc (.eq (eAo9 x14) (.refl _)) (.lst0)) h fun l15 h=>?_;cbv;refine Um hE hO 0 rfl fun t11 H hO htt11=>?_;cbv;refine Yp hE (f:=Dv eAo3) hO hw6.ok 2 rfl hjx9 ?_;cbv;refine Yo hE (f:=Dv eAo3) (tz:=1) (x':=(l15,t11)) (fun _=>⟨.sl (lst eAo3 l15) t11,.refl _,rfl,rfl,rfl⟩) (by decide) hO hw6.ok 2 rfl hjx9 fun H hO=>?_;cbv;obtain⟨l13,hu,h⟩:=bind_some h;obtain⟨w12,hqw12,hw12,hO⟩:∃w0:Rw A5,w0.q=w6.q∧CP w0 l13∧B7 Eq H0 (cb b4 [.own w0.q.id w0.q.lo w0.q.n]:: .blk w0.q.id (.arr 1 (w0.q.pre++lst (Dv eAo3) w0.row++w0.q.rest))::cb b1 [.sl [] .nil]::(HF w0++[])) H:=⟨(⟨w6.q,w6.row.set (x8.cU).toNat (l15,t11)⟩:Rw A5),rfl,by rw[WO hu];exact hw6.put _ htt11,(by have e:=hbx9 (l15,t11) H [cb b4 [.own w6.q.id w6.q.lo w6.q.n],.blk w6.q.id (.arr 1 (w6.q.pre++lst (Dv eAo3) (w6.row.set (x8.cU).toNat (l15,t11))++w6.q.rest)),cb b1 [.sl [] .nil]] hO;simp only[List.cons_append,List.nil_append,append_nil]at e ⊢;exact e)⟩
    try rw[←hqw12]
    cases h;exact⟨_,w12,rfl,.e rfl (.e2 (.e4 .z)),rfl,hw12,hO⟩
   cbv;cases h;exact⟨_,w6,rfl,.e rfl (.e2 (.e4 .z)),rfl,hw6,hO⟩
  cbv;cases h;exact⟨_,_,rfl,⟨w6,hw6,rfl,rfl,hO⟩,.e2 .z,rfl⟩
 ·exact .e rfl (.e2 (.e4 .z))
 ·exact⟨hw2,hO⟩
 clear hx;rintro e l H ⟨w16,hw16,rfl,rfl,hO⟩;cbv;refine Xx hE (e:=eAp9) eAq4 hO hw16 0 1 rfl rfl rfl (by decide) fun H hO=>?_;have hO:B7 Eq H0 [cb b4 [sr eAp9 s7],cb b1 [.sl [] .nil]] H:=hO.rdrop (w:=w16) (T1:=[]) (T2:=[]) 2 rfl;cbv;refine B4 hE hO 0 rfl ?_;cbv;refine A9 hE hO 1 rfl rfl fun H hO=>?_;cbv;refine B4 hE hO 1 rfl ?_;cbv;cases h;exact hK hO (.refl _)
def cf231 :Cf:=⟨[],[(1,13)],[],[],[],[]⟩
theorem c231 (N aJ bP aH bE bG r)(h:G5 N aJ bP aH bE bG=some r):B2 prog 231 [.eref (B1 aJ) 0,(H5 bP),sr eAo1 aH,vi bE,vi bG] (.bool r):=by
 unfold G5 at h
 refine I6 cf231 func231 call231 ntmps231 ?_;intro E H0 K hE hK hO;cbv;refine D5 hE (g:=fun r1=>(PV r1)) h (c266 N aJ aH bG) (.refl _) fun r1 h=>?_;cbv;refine B9 hE eAo9 h fun x2 h=>?_;cbv;refine A3 hE h (c265 N bP r1 bE x2) (.refl _) fun r3 h=>?_;cbv;cases h;exact hK hO (.refl _)
def cf230 :Cf:=⟨[],[(3,28)],[],[],[],[]⟩
theorem c230 (N aG aI aN aR r) (h:S4 N aG aI aN aR=some r):Fu prog 230 (fun yv=>[yv,.eref [vi aG] 0,.eref [.eref (B1 aI) 0] 0,.eref (C0 aN) 0,.eref [sr eAo1 aR] 0]) (List.map (fun(x:(List A1))=>[sr eAo1 x]) r) rbN:=by
 unfold S4 at h
 obtain⟨⟨w0,u0⟩,h1,hr⟩:=bind_some h;clear h;have hr:=AK hr;subst hr;have h:=h1;clear h1;refine O0 cf230 N5 func230 (by rfl) (by kernel_rfl) call230 ntmps230 (by rfl) (fun _=>rfl) ?_;intro yv I D hI hD hy tl F E H K hE hO hK hKD
 have hO:B7 (I (List.map (fun(x:(List A1))=>[sr eAo1 x]) (w0++[])++tl)) F [] H:=by rw[append_nil];exact hO
 cbv;obtain⟨w2,w3,s6,hx,h1,he⟩:=Q7 h;clear h;have h:=h1;clear h1
 rw[he,append_assoc]at hO
 clear he;refine Cc cf230 hE N5 (γ:=Unit) (fun s1 g=>[(0,.v (yv)),(2,.v (.eref [.eref (B1 aI) 0] 0)),(3,.v (.eref (C0 aN) 0)),(4,.v (.eref [sr eAo1 aR] 0)),fi 6 s1]) (fun s1 g w H1=>B7 (I (List.map (fun(x:(List A1))=>[sr eAo1 x]) w++tl)) F [] H1) (fun x e l w H1=>e= .exit 0∧l=[]∧B7 (I (List.map (fun(x:(List A1))=>[sr eAo1 x]) w++tl)) F [] H1) (fun e l H1=>(e= .ret∧l=[]∧B7 D F [] H1)) (by kernel_rfl) ?_ (w':=w3++[]) () hx ?_ ?_ ?_ ?_
 ·rintro s1 _ w4 w5 H o hO h;clear hx
  skip
  cbv;refine D9 hE ?_;cbv;refine A8 hE h (fun _ h=>?_) fun _ h=>?_
  ·cbv;refine B9 hE eAo9 h fun x7 h=>?_;cbv;refine A8 hE h (fun _ h=>?_) fun _ h=>?_
   ·cbv;refine D5 hE (g:=fun r8=>.bool r8) h (c231 N aI aN.cQ aR aN.Var s1) (.refl _) fun r8 h=>?_;cbv;refine A8 hE h (fun _ h=>?_) fun _ h=>?_
    ·cbv;obtain⟨w9,h1,he⟩:=V4 h;clear h;have h:=h1;clear h1
     rw[he,append_assoc]at hO
     clear he;have hO:B7 (I ([sr eAo1 ([(⟨aN.Var,s1⟩:A1)])]::(List.map (fun(x:(List A1))=>[sr eAo1 x]) (w9++w5)++tl))) F [] _:=hO;refine DD hE hI hD hy hO (.cons (.lit _ (F9 ((eAp4 (⟨aN.Var,s1⟩:A1)).symm) (C6))) (.refl _)) (fun H hO=>?_) (fun H hO=>?_)
     ·cbv;refine HQ hE (nt_eq _) ?_;cbv;obtain⟨hw,rfl⟩:=C9 h
      rw[←hw]at hO
      exact⟨_,(),rfl,.e rfl (.e4 .z),rfl,hO⟩
     clear h;cbv;refine HP hE (nt_eq _) ?_;cbv;exact .inr ⟨_,⟨rfl,rfl,hO⟩,.z,rfl⟩
    cbv;obtain⟨hw,rfl⟩:=C9 h
    rw[←hw]at hO
    exact⟨_,(),rfl,.e rfl (.e4 .z),rfl,hO⟩
   cbv;obtain⟨hw,rfl⟩:=C9 h
   rw[←hw]at hO
   exact⟨_,(),rfl,.e rfl (.e4 .z),rfl,hO⟩
  cbv;obtain⟨hw,rfl⟩:=C9 h
  rw[←hw]at hO
  exact .inl ⟨_,_,rfl,⟨rfl,rfl,hO⟩,.z,rfl⟩
 ·exact .e rfl (.e4 .z)
 ·exact hO
 ·rintro e l H ⟨rfl,rfl,hO⟩;clear hx;cbv;obtain⟨hw,_⟩:=C9 h
  rw[←hw]at hO
  exact hK _ _ _ hO trivial
 rintro e l H hX;obtain⟨rfl,rfl,hO⟩:=hX;clear h;cbv;exact hKD _ _ _ hO trivial
theorem c190 (N aJ aA aM aK r)(h:J8 N aJ aA aM aK=some r):Am prog 190 [.eref (B1 aJ) 0,(B6 aA),sr eAo1 aM,vi aK] (fun v=>EL prog v (r.map fun(x:(List A1))=>[sr eAo1 x])):=by
 unfold J8 at h
 refine R5 cf0 N5 func190 (by rfl) (by kernel_rfl) call190 ntmps190 (by rfl) (by rfl) ?_;intro E H0 K hE hK;have hO:B7 Eq H0 [] H0:=.start G8 rfl;cbv;exact hK _ _ _ hO (V2 call230 (c230 N aK aJ aA aM r h))
theorem c267 (N aG r) (h:E4 N aG=some r):Fu prog 267 (fun yv=>[yv,.eref [sr eAo7 aG] 0]) (List.map (fun(x:(List A1))=>[sr eAo1 x]) r) rbN:=by
 unfold E4 at h
 obtain⟨⟨w0,u0⟩,h1,hr⟩:=bind_some h;clear h;have hr:=AK hr;subst hr;have h:=h1;clear h1;refine O0 cf0 N5 func267 (by rfl) (by kernel_rfl) call267 ntmps267 (by rfl) (fun _=>rfl) ?_;intro yv I D hI hD hy tl F E H K hE hO hK hKD
 have hO:B7 (I (List.map (fun(x:(List A1))=>[sr eAo1 x]) (w0++[])++tl)) F [] H:=by rw[append_nil];exact hO
 cbv;refine D9 hE ?_;cbv;obtain⟨w2,w3,s6,hx,h1,he⟩:=Q7 h;clear h;have h:=h1;clear h1
 rw[he,append_assoc]at hO
 clear he;refine Cc cf0 hE N5 (γ:=Unit) (fun s1 g=>[(0,.v (yv)),(5,.v (sr eAo7 aG)),fi 6 (Ar.len aG),fi 7 s1]) (fun s1 g w H1=>B7 (I (List.map (fun(x:(List A1))=>[sr eAo1 x]) w++tl)) F [] H1) (fun x e l w H1=>e= .exit 0∧l=[]∧B7 (I (List.map (fun(x:(List A1))=>[sr eAo1 x]) w++tl)) F [] H1) (fun e l H1=>(e= .ret∧l=[]∧B7 D F [] H1)) (by kernel_rfl) ?_ (w':=w3++[]) () hx ?_ ?_ ?_ ?_
 ·rintro s1 _ w4 w5 H o hO h;clear hx
  skip
  cbv;refine A8 hE h (fun _ h=>?_) fun _ h=>?_
  ·cbv;refine B9 hE eAp6 h fun x7 h=>?_;cbv;obtain⟨w8,h1,he⟩:=V4 h;clear h;have h:=h1;clear h1
   rw[he,append_assoc]at hO
   clear he;have hO:B7 (I ([sr eAo1 x7]::(List.map (fun(x:(List A1))=>[sr eAo1 x]) (w8++w5)++tl))) F [] _:=hO;refine DD hE hI hD hy hO (.refl _) (fun H hO=>?_) (fun H hO=>?_)
   ·cbv;refine HQ hE (nt_eq _) ?_;cbv;obtain⟨hw,rfl⟩:=C9 h
    rw[←hw]at hO
    exact⟨_,(),rfl,.e4 .z,rfl,hO⟩
   clear h;cbv;refine HP hE (nt_eq _) ?_;cbv;exact .inr ⟨_,⟨rfl,rfl,hO⟩,.z,rfl⟩
  cbv;obtain⟨hw,rfl⟩:=C9 h
  rw[←hw]at hO
  exact .inl ⟨_,_,rfl,⟨rfl,rfl,hO⟩,.z,rfl⟩
 ·exact .e4 .z
 ·exact hO
 ·rintro e l H ⟨rfl,rfl,hO⟩;clear hx;cbv;obtain⟨hw,_⟩:=C9 h
  rw[←hw]at hO
  exact hK _ _ _ hO trivial
 rintro e l H hX;obtain⟨rfl,rfl,hO⟩:=hX;clear h;cbv;exact hKD _ _ _ hO trivial
theorem c232 (N aH r)(h:O2 N aH=some r):Am prog 232 [sr eAo7 aH] (fun v=>EL prog v (r.map fun(x:(List A1))=>[sr eAo1 x])):=by
 unfold O2 at h
 refine R5 cf0 N5 func232 (by rfl) (by kernel_rfl) call232 ntmps232 (by rfl) (by rfl) ?_;intro E H0 K hE hK;have hO:B7 Eq H0 [] H0:=.start G8 rfl;cbv;exact hK _ _ _ hO (V2 call267 (c267 N aH r h))
theorem c286 {cmp:A1→A1→Option Int}{g:Nat}{C:List V}(eg:∀vals w,(callFunc g vals).run prog w= .ok (.enter g vals) w)(hc:∀y1 y2 r,cmp y1 y2=some r→B2 prog g ([(L9 y1),(L9 y2)]++C) (vi r)){l r:List A1}(h:GC cmp l=some r):
 PI prog 286 (.func (.func g) [] C) 2 (lst eAo1 l) (lst eAo1 r):=KE Go.Proofs.Tryz.sorts286 call286 (va:=fun x=>(EI x)) eAp4 (fun _=>rfl) eg hc h
theorem c287 (N aO bC r)(h:AZ N aO bC=some r):B2 prog 287 [(L9 aO),(L9 bC)] (vi r):=by
 unfold AZ at h
 refine I6 cf0 func287 call287 ntmps287 ?_;intro E H0 K hE hK hO;cbv;cases h;exact hK hO (.refl _)
theorem c269 (N aC aD r)(h:K7 N aC aD=some r):B2 prog 269 [sr eAo1 aC,sr eAo1 aD] (sr eAo1 r):=by
 unfold K7 at h
 refine MM (T:=TT) cf0 N5 func269 (by rfl) (by kernel_rfl) call269 ntmps269 (by rfl) (by rfl) ?_;intro E H0 K hE hK hF;have hO:B7 Eq H0 [] H0:=.start G8 rfl;cbv;refine D9 hE ?_;cbv;refine D9 hE ?_;cbv;refine Uj hE (f:=eAo1) (by decide) (z0:=((⟨0,0⟩:A1):A1)) ((.eq (eAp4 _) (.refl _))) hO h fun l2 q1 H hq1 h hO=>?_;cbv;refine Ir (f:=eAo1) hE Y3 (by decide) hO hq1 0 rfl (m:=aC) (Ig (f:=eAo1) hE Y3 (.refl _)) h fun l4 q3 H hq3 hO h=>?_;cbv;refine Ir (f:=eAo1) hE Y3 (by decide) hO hq3 0 rfl (m:=aD) (Ig (f:=eAo1) hE Y3 (.refl _)) h fun l6 q5 H hq5 hO h=>?_;cbv;refine QV hE hO hq5 0 rfl h (fun l7 hx=>c286 (g:=287) (C:=[]) call287 (fun y1 y2 r hx=>c287 N y1 y2 r hx) hx) fun l7 H hq5 hO h=>?_;cbv;cases h;exact hF q5 _ _ 0 _ _ hO rfl (Ja hE hq5) (.refl _)
theorem c270 (N aH r)(h:K4 N aH=some r):B2 prog 270 [sr eAo1 aH] (vi r):=by
 unfold K4 at h
 refine I6 cf0 func270 call270 ntmps270 ?_;intro E H0 K hE hK hO;cbv;refine D9 hE ?_;cbv;refine B9 hE eAp4 h fun x1 h=>?_;cbv;cases h;exact hK hO (.refl _)
theorem c301 (N:Nat) (aH:List A1) (aT:V) (aS:A1→Option Bool) (bD:∀y1 q,aS y1=some q→Q9 prog aT [(L9 y1)] (.bool q)) (r:Int) (h:O3 N aH aS=some r):B2 prog 301 [sr eAo1 aH,aT] (vi r):=by
 unfold O3 at h
 refine I6 cf0 func301 call301 ntmps301 ?_;intro E H0 K hE hK hO;cbv;refine D9 hE ?_;cbv;obtain⟨s2,hx,h⟩:=bind_some h;refine E9 cf0 hE N5 (fun s1=>[(0,.v (sr eAo1 aH)),(1,.v (aT)),fi 7 (Ar.len aH),fi 8 s1]) (fun s1 H1=>B7 Eq H0 [] H1) (fun x e l H1=>match(generalizing:=false) x with| .inl y=>e= .exit 0∧l=[]∧B7 Eq H0 [] H1| .inr y=>e= .ret∧l=[fi 4 y]∧B7 Eq H0 [] H1) (by kernel_rfl) ?_ hx ?_ hO ?_
 ·intro s1 H o hO h;clear hx;cbv;refine A8 hE h (fun _ h=>?_) fun _ h=>?_
  ·cbv;refine B9 hE eAp4 h fun x3 h=>?_;cbv;refine Y6 hE (g:=fun r4=>.bool r4) h (fun r4 hx=>bD x3 r4 hx) (.refl _) fun r4 h=>?_;cbv;refine A8 hE h (fun _ h=>?_) fun _ h=>?_
   ·cbv;cases h;exact⟨_,_,rfl,⟨rfl,rfl,hO⟩,.e rfl .z,rfl⟩
   cbv;cases h;exact⟨_,rfl,.e4 .z,rfl,hO⟩
  cbv;cases h;exact⟨_,_,rfl,⟨rfl,rfl,hO⟩,.z,rfl⟩
 ·exact .e4 .z
 clear hx
 rcases s2 with y5|y6
 ·rintro e l H ⟨rfl,rfl,hO⟩;cbv;cases h;exact hK hO (.refl _)
 rintro e l H ⟨rfl,rfl,hO⟩;cbv;cases h;exact hK hO (.refl _)
theorem c288 (N:Nat)(aH:List A1)(aT:V)(aS:A1→Option Bool)(bD:∀y1 q,aS y1=some q→Q9 prog aT [(L9 y1)] (.bool q))(r:Bool)(h:G3 N aH aS=some r):B2 prog 288 [sr eAo1 aH,aT] (.bool r):=by
 unfold G3 at h
 refine I6 cf0 func288 call288 ntmps288 ?_;intro E H0 K hE hK hO;cbv;refine A3 hE h (c301 N aH aT aS bD) (.refl _) fun r1 h=>?_;cbv;cases h;exact hK hO (.refl _)
theorem c290 (N aO aG r)(h:T6 N aO aG=some r):B2 prog 290 [(L9 aO),.eref [vi aG] 0] (.bool r):=by
 unfold T6 at h
 refine I6 cf0 func290 call290 ntmps290 ?_;intro E H0 K hE hK hO;cbv;cases h;exact hK hO (.refl _)
theorem c272 (N aH bG r)(h:S3 N aH bG=some r):B2 prog 272 [sr eAo1 aH,vi bG] (.bool r):=by
 unfold S3 at h
 refine I6 cf0 func272 call272 ntmps272 ?_;intro E H0 K hE hK hO;cbv;refine A3 hE (g:=fun r1=>.bool r1) h (fun r1 hx=>c288 N aH (.func (.func 290) [] [.eref [vi bG] 0]) (fun y1=>T6 N y1 bG) (fun y1 r hx=>B2.value (F:=[]) (C:=[.eref [vi bG] 0]) (c290 N y1 bG r hx)) r1 hx) (.refl _) fun r1 h=>?_;cbv;cases h;exact hK hO (.refl _)
theorem c289 (N aO aG r)(h:W9 N aO aG=some r):B2 prog 289 [(L9 aO),.eref [sr eAo1 aG] 0] (.bool r):=by
 unfold W9 at h
 refine I6 cf0 func289 call289 ntmps289 ?_;intro E H0 K hE hK hO;cbv;refine A3 hE h (c272 N aG aO.at_) (.refl _) fun r1 h=>?_;cbv;cases h;exact hK hO (.refl _)
theorem c271 (N aC aD r)(h:Aj N aC aD=some r):B2 prog 271 [sr eAo1 aC,sr eAo1 aD] (.bool r):=by
 unfold Aj at h
 refine I6 cf0 func271 call271 ntmps271 ?_;intro E H0 K hE hK hO;cbv;refine A3 hE (g:=fun r1=>.bool r1) h (fun r1 hx=>c288 N aC (.func (.func 289) [] [.eref [sr eAo1 aD] 0]) (fun y1=>W9 N y1 aD) (fun y1 r hx=>B2.value (F:=[]) (C:=[.eref [sr eAo1 aD] 0]) (c289 N y1 aD r hx)) r1 hx) (.refl _) fun r1 h=>?_;cbv;cases h;exact hK hO (.refl _)
def cf237 :Cf:=⟨[],[(6,11)],[],[],[],[]⟩
theorem c237 (N:Nat):∀n bR bK r,S7 N n bR bK=some r→Fu prog 237 (fun yv=>[sr eAp7 bR,sr eAo1 bK,yv]) (List.map (fun(x:(List A1))=>[sr eAo1 x]) r) rbB:=by
 intro n
 induction n with
 |zero=>intro bR bK r h;cases h
 |succ n ih=>
 intro bR bK r h
 unfold S7 at h
 obtain⟨⟨w0,u0⟩,h1,hr⟩:=bind_some h;clear h;have hr:=AK hr;subst hr;have h:=h1;clear h1;refine O0 cf237 N5 func237 (by rfl) (by kernel_rfl) call237 ntmps237 (by rfl) (fun _=>rfl) ?_;intro yv I D hI hD hy tl F E H K hE hO hK hKD
 have hO:B7 (I (List.map (fun(x:(List A1))=>[sr eAo1 x]) (w0++[])++tl)) F [] H:=by rw[append_nil];exact hO
 cbv;refine D9 hE ?_;cbv;refine A8 hE h (fun _ h=>?_) fun _ h=>?_
 ·cbv;obtain⟨w1,h1,he⟩:=V4 h;clear h;have h:=h1;clear h1
  rw[he,append_assoc]at hO
  clear he;have hO:B7 (I ([sr eAo1 bK]::(List.map (fun(x:(List A1))=>[sr eAo1 x]) (w1++[])++tl))) F [] _:=hO;refine DD hE hI hD hy hO (.refl _) (fun H hO=>?_) (fun H hO=>?_)
  ·cbv;obtain⟨hw,_⟩:=C9 h
   rw[←hw]at hO
   exact hK _ _ _ hO rfl
  clear h;cbv;exact hKD _ _ _ hO rfl
 cbv;refine B9 hE eAq1 h fun x2 h=>?_;cbv;refine D9 hE ?_;cbv;obtain⟨w4,w5,s8,hx,h1,he⟩:=Q7 h;clear h;have h:=h1;clear h1
 rw[he,append_assoc]at hO
 clear he;refine Cc cf237 hE N5 (γ:=Unit) (fun s3 g=>[(0,.v (sr eAp7 bR)),(1,.v (sr eAo1 bK)),(2,.v (yv)),(17,.v (sr eAo7 x2)),fi 18 (Ar.len x2),fi 19 s3]) (fun s3 g w H1=>B7 (I (List.map (fun(x:(List A1))=>[sr eAo1 x]) w++tl)) F [] H1) (fun x e l w H1=>e= .exit 0∧l=[]∧B7 (I (List.map (fun(x:(List A1))=>[sr eAo1 x]) w++tl)) F [] H1) (fun e l H1=>(e= .ret∧l=[(6,.b false)]∧B7 D F [] H1)) (by kernel_rfl) ?_ (w':=w5++[]) () hx ?_ ?_ ?_ ?_
 ·rintro s3 _ w6 w7 H o hO h;clear hx
  skip
  cbv;refine A8 hE h (fun _ h=>?_) fun _ h=>?_
  ·cbv;refine B9 hE eAp6 h fun x9 h=>?_;cbv;refine D5 hE (g:=fun r10=>.bool r10) h (c271 N bK x9) (.refl _) fun r10 h=>?_;cbv;refine A8 hE h (fun _ h=>?_) fun _ h=>?_
   ·cbv;refine EA hE (f:=eAp7) Cu h fun l11 t12 h=>?_;cbv;refine D5 hE (g:=fun r13=>sr eAo1 r13) h (c269 N bK x9) (.refl _) fun r13 h=>?_;cbv;obtain⟨l14,hl,h⟩:=bind_some h;obtain⟨w15,h1,he⟩:=V4 h;clear h;have h:=h1;clear h1
    rw[he,append_assoc]at hO
    clear he
    rw[List.map_append,append_assoc]at hO
    refine OQ hE hI hD hy (ih l11 r13 l14 hl) hO (.cons (.ro _ _) (.refl _)) (fun v H hb hO=>?_) (fun v H hb hO=>?_)
    ·cases hb;clear hl;cbv;refine HQ hE (nt_eq _) ?_;cbv;obtain⟨hw,rfl⟩:=C9 h
     rw[←hw]at hO
     exact⟨_,(),rfl,.e2 (.e4 .z),rfl,hO⟩
    cases hb;clear h hl;cbv;refine HP hE (nt_eq _) ?_;cbv;exact .inr ⟨_,⟨rfl,rfl,hO⟩,.b rfl (.z),rfl⟩
   cbv;obtain⟨hw,rfl⟩:=C9 h
   rw[←hw]at hO
   exact⟨_,(),rfl,.e2 (.e4 .z),rfl,hO⟩
  cbv;obtain⟨hw,rfl⟩:=C9 h
  rw[←hw]at hO
  exact .inl ⟨_,_,rfl,⟨rfl,rfl,hO⟩,.z,rfl⟩
 ·exact .e2 (.e4 .z)
 ·exact hO
 ·rintro e l H ⟨rfl,rfl,hO⟩;clear hx;cbv;obtain⟨hw,_⟩:=C9 h
  rw[←hw]at hO
  exact hK _ _ _ hO rfl
 rintro e l H hX;obtain⟨rfl,rfl,hO⟩:=hX;clear h;cbv;exact hKD _ _ _ hO rfl
def cf241 :Cf:=⟨[],[(3,23),(5,13),(10,25)],[],[],[],[]⟩
theorem c241 (N aJ aA aM aH r) (h:Q4 N aJ aA aM aH=some r):B2 prog 241 [.eref (B1 aJ) 0,(B6 aA),sr eAo1 aM,sr eAo1 aH] (.bool r):=by
 unfold Q4 at h
 refine I6 cf241 func241 call241 ntmps241 ?_;intro E H0 K hE hK hO;cbv;refine A8 hE h (fun _ h=>?_) fun _ h=>?_
 ·cbv;refine D5 hE (g:=fun r1=>vi r1) h (c270 N aH) (.refl _) fun r1 h=>?_;cbv;refine B9 hE eAo9 h fun x2 h=>?_;cbv;refine B9 hE eAp4 h fun x3 h=>?_;cbv;refine B9 hE eAo9 h fun x4 h=>?_;cbv;cases h;exact hK hO (.refl _)
 cbv;refine A8 hE h (fun _ h=>?_) fun _ h=>?_
 ·cbv;refine D5 hE (g:=fun r5=>sr eAo1 r5) h (c269 N aM aH) (.refl _) fun r5 h=>?_;cbv;refine D9 hE ?_;cbv;refine D5 hE (g:=fun r6=>(PV r6)) h (c266 N aJ r5 (Ar.len aJ.cX)) (.refl _) fun r6 h=>?_;cbv;refine A3 hE h (c265 N aA.cQ r6 (-1) (⟨0,0,0,0,[]⟩:A5)) (.cons (.refl _) (.cons (.refl _) (.cons (.refl _) (.cons (.agg (.cons (.refl _) (.cons (.refl _) (.cons (.refl _) (.cons (.refl _) (.cons (.lit _ (C6)) (.refl _))))))) (.refl _))))) fun r7 h=>?_;cbv;cases h;exact hK hO (.refl _)
 cbv;refine A3 hE h (c269 N aM aH) (.refl _) fun r8 h=>?_;cbv;refine B9 hE eAp4 h fun x9 h=>?_;cbv;obtain⟨s11,hx,h⟩:=bind_some h;refine E9 cf241 hE N5 (fun s10=>[(0,.v (.eref (B1 aJ) 0)),(3,.v (sr eAo1 aH)),(5,.v (.eref (C0 aA) 0)),(9,.v (sr eAo1 r8)),fi 10 s10]) (fun s10 H1=>B7 Eq H0 [] H1) (fun x e l H1=>match(generalizing:=false) x with| .inl y=>e= .exit 1∧l=[]∧B7 Eq H0 [] H1| .inr y=>e= .ret∧l=[(8,.b false)]∧B7 Eq H0 [] H1) (by kernel_rfl) ?_ hx ?_ hO ?_
 ·intro s10 H o hO h;clear hx;cbv;refine A3 hE h (c270 N aH) (.refl _) fun r12 h=>?_;cbv;refine A8 hE h (fun _ h=>?_) fun _ h=>?_
  ·cbv;refine B9 hE eAo9 h fun x13 h=>?_;cbv;refine A8 hE h (fun _ h=>?_) fun _ h=>?_
   ·cbv;refine D5 hE (g:=fun r14=>.bool r14) h (c272 N aH s10) (.refl _) fun r14 h=>?_;cbv;refine A8 hE h (fun _ h=>?_) fun _ h=>?_
    ·cbv;refine A3 hE h (c231 N aJ aA.cQ r8 aA.Var s10) (.refl _) fun r15 h=>?_;cbv;refine A8 hE h (fun _ h=>?_) fun _ h=>?_
     ·cbv;cases h;exact⟨_,_,rfl,⟨rfl,rfl,hO⟩,.b rfl (.z),rfl⟩
     cbv;cases h;exact⟨_,rfl,.e rfl (.e4 .z),rfl,hO⟩
    cbv;cases h;exact⟨_,rfl,.e rfl (.e4 .z),rfl,hO⟩
   cbv;cases h;exact⟨_,rfl,.e rfl (.e4 .z),rfl,hO⟩
  cbv;cases h;exact⟨_,_,rfl,⟨rfl,rfl,hO⟩,.z,rfl⟩
 ·exact .e rfl (.e4 .z)
 clear hx
 rcases s11 with y16|y17
 ·rintro e l H ⟨rfl,rfl,hO⟩;cbv;cases h;exact hK hO (.refl _)
 rintro e l H ⟨rfl,rfl,hO⟩;cbv;cases h;exact hK hO (.refl _)
def cf127 :Cf:=⟨[8,9],[(3,3)],[(39,12)],[],[],[]⟩
def Nn (N n:Nat):Prop:=∀(aJ:B0) (aA:A0) (aM:List A1) (aK:Int) (r:(List (List A1))),C5 N n aJ aA aM aK=some r→B2 prog 127 [.eref (B1 aJ) 0,(B6 aA),sr eAo1 aM,vi aK] (sr eAo7 r)
def cf191 :Cf:=⟨[9],[(2,7),(5,8)],[],[],[(400000005,9)],[]⟩
def Aj7 (N n:Nat):Prop:=∀(aJ:B0) (aA:A0) (aM:List A1) (aK:Int) (r:(List (List A1))),L5 N n aJ aA aM aK=some r→Am prog 191 [.eref (B1 aJ) 0,(B6 aA),sr eAo1 aM,vi aK] (fun v=>EL prog v (r.map fun(x:(List A1))=>[sr eAo1 x]))
def Aj6 (N n:Nat):Prop:=∀(aJ:B0) (aA:A0) (aM:List A1) (aK:Int) (r:(List (List A1))),L6 N n aJ aA aM aK=some r→Am prog 192 [.eref (B1 aJ) 0,(B6 aA),sr eAo1 aM,vi aK] (fun v=>EL prog v (r.map fun(x:(List A1))=>[sr eAo1 x]))
def Aj5 (N n:Nat):Prop:=∀(aJ:B0) (aA:A0) (aM:List A1) (aK:Int) (r:(List (List A1))),L7 N n aJ aA aM aK=some r→Am prog 193 [.eref (B1 aJ) 0,(B6 aA),sr eAo1 aM,vi aK] (fun v=>EL prog v (r.map fun(x:(List A1))=>[sr eAo1 x]))
def Aj4 (N n:Nat):Prop:=∀(aJ:B0) (aA:A0) (aM:List A1) (aK:Int) (r:(List (List A1))),K6 N n aJ aA aM aK=some r→Am prog 194 [.eref (B1 aJ) 0,(B6 aA),sr eAo1 aM,vi aK] (fun v=>EL prog v (r.map fun(x:(List A1))=>[sr eAo1 x]))
def Aj3 (N n:Nat):Prop:=∀(aJ:B0) (aA:A0) (aM:List A1) (aK:Int) (r:(List (List A1))),E6 N n aJ aA aM aK=some r→Am prog 195 [.eref (B1 aJ) 0,(B6 aA),sr eAo1 aM,vi aK] (fun v=>EL prog v (r.map fun(x:(List A1))=>[sr eAo1 x]))
def cf233 :Cf:=⟨[1000009],[],[],[],[],[]⟩
def Aa8 (N n:Nat):Prop:=∀(aJ:B0) (aA:A0) (aM:List A1) (aK:Int) (bY:V) (bU:(List A1)→Int→Option (List (List A1))) (cJ:∀y1 y2 q,bU y1 y2=some q→Q9 prog bY [sr eAo1 y1,vi y2] (sr eAo7 q)) (cK:OneV bY) (r:(List (List A1))),K5 N n aJ aA aM aK bU=some r→Am prog 233 [.eref (B1 aJ) 0,(B6 aA),sr eAo1 aM,vi aK,bY] (fun v=>EL prog v (r.map fun(x:(List A1))=>[sr eAo1 x]))
def Aj2 (N n:Nat):Prop:=∀(aM:List A1) (aK:Int) (aI:B0) (aN:A0) (r:(List (List A1))),J7 N n aM aK aI aN=some r→B2 prog 234 [sr eAo1 aM,vi aK,.eref [.eref (B1 aI) 0] 0,.eref (C0 aN) 0] (sr eAo7 r)
def Aj1 (N n:Nat):Prop:=∀(aG:A0) (aI:B0) (aN:List A1) (aR:Int) (r:(List (List A1))),Q5 N n aG aI aN aR=some r→Fu prog 235 (fun yv=>[yv,.eref (C0 aG) 0,.eref [.eref (B1 aI) 0] 0,.eref [sr eAo1 aN] 0,.eref [vi aR] 0]) (List.map (fun(x:(List A1))=>[sr eAo1 x]) r) rbN
def Aj0 (N n:Nat):Prop:=∀(aG:A0) (aI:B0) (aN:List A1) (aR:Int) (r:(List (List A1))),Q6 N n aG aI aN aR=some r→Fu prog 236 (fun yv=>[yv,.eref (C0 aG) 0,.eref [.eref (B1 aI) 0] 0,.eref [sr eAo1 aN] 0,.eref [vi aR] 0]) (List.map (fun(x:(List A1))=>[sr eAo1 x]) r) rbN
def cf238 :Cf:=⟨[1000005],[(1,10),(6,8)],[],[],[],[]⟩
def Ai9 (N n:Nat):Prop:=∀(aG:B0) (aI:A0) (aN:List A1) (aR:Int) (r:(List (List A1))),O6 N n aG aI aN aR=some r→Fu prog 238 (fun yv=>[yv,.eref [.eref (B1 aG) 0] 0,.eref (C0 aI) 0,.eref [sr eAo1 aN] 0,.eref [vi aR] 0]) (List.map (fun(x:(List A1))=>[sr eAo1 x]) r) rbN
def Ai8 (N n:Nat):Prop:=∀(aM:List A1) (aK:Int) (aI:B0) (aN:A0) (r:(List (List A1))),G7 N n aM aK aI aN=some r→B2 prog 239 [sr eAo1 aM,vi aK,.eref [.eref (B1 aI) 0] 0,.eref (C0 aN) 0] (sr eAo7 r)
def cf240 :Cf:=⟨[],[(0,10)],[],[],[],[]⟩
def Ai7 (N n:Nat):Prop:=∀(aG:B0) (aI:A0) (aN:List A1) (aR:Int) (r:(List (List A1))),O5 N n aG aI aN aR=some r→Fu prog 240 (fun yv=>[yv,.eref [.eref (B1 aG) 0] 0,.eref (C0 aI) 0,.eref [sr eAo1 aN] 0,.eref [vi aR] 0]) (List.map (fun(x:(List A1))=>[sr eAo1 x]) r) rbN
def cf268 :Cf:=⟨[],[(3,10)],[],[],[],[]⟩
def Ai6 (N n:Nat):Prop:=∀(aG:B0) (aI:A0) (aN:List A1) (aR:Int) (bV:V) (bX:(List A1)→Int→Option (List (List A1))) (cL:∀y1 y2 q,bX y1 y2=some q→Q9 prog bV [sr eAo1 y1,vi y2] (sr eAo7 q)) (r:(List (List A1))),O4 N n aG aI aN aR bX=some r→Fu prog 268 (fun yv=>[yv,.eref [.eref (B1 aG) 0] 0,.eref (C0 aI) 0,.eref [sr eAo1 aN] 0,.eref [vi aR] 0,.eref [bV] 0]) (List.map (fun(x:(List A1))=>[sr eAo1 x]) r) rbN
theorem k127 (N n:Nat) (ih191:Aj7 N n) (ih192:Aj6 N n) (ih193:Aj5 N n) (ih194:Aj4 N n) (ih195:Aj3 N n):Nn N (n+1):=by
 intro aJ aA aM aK r h
 unfold C5 at h
 refine I6 cf127 func127 call127 ntmps127 ?_;intro E H0 K hE hK hO;cbv;refine C4 hE hO fun b1 H hO=>?_;cbv;refine C4 hE hO fun b2 H hO=>?_;cbv;refine Ac2 hE .string V.str V.bool hO fun m3 o4 H ho4 hO=>?_;cbv;refine D5 hE (g:=fun r5=>.agg [.func (.func 190) [] [],.func (.func 191) [] [],.func (.func 192) [] [],.func (.func 193) [] [],.func (.func 194) [] [],.func (.func 195) [] [],.func (.func 195) [] [],.func (.func 195) [] []]) h (c159 N) (.refl _) fun r5 h=>?_;cbv;refine ZD hE (Good:=fun v6 (f7:B0→A0→(List A1)→Int→Option (List (List A1)))=>∀y1 y2 y3 y4 q,f7 y1 y2 y3 y4=some q→TE prog v6 [.eref (B1 y1) 0,(B6 y2),sr eAo1 y3,vi y4] (fun w=>EL prog w (q.map fun(x:(List A1))=>[sr eAo1 x]))) (xs:=[.func (.func 190) [] [],.func (.func 191) [] [],.func (.func 192) [] [],.func (.func 193) [] [],.func (.func 194) [] [],.func (.func 195) [] [],.func (.func 195) [] [],.func (.func 195) [] []]) (.cons (fun y1 y2 y3 y4 r hx=>Am.value (F:=[]) (C:=[]) (c190 N y1 y2 y3 y4 r hx)) (.cons (fun y1 y2 y3 y4 r hx=>Am.value (F:=[]) (C:=[]) (ih191 y1 y2 y3 y4 r hx)) (.cons (fun y1 y2 y3 y4 r hx=>Am.value (F:=[]) (C:=[]) (ih192 y1 y2 y3 y4 r hx)) (.cons (fun y1 y2 y3 y4 r hx=>Am.value (F:=[]) (C:=[]) (ih193 y1 y2 y3 y4 r hx)) (.cons (fun y1 y2 y3 y4 r hx=>Am.value (F:=[]) (C:=[]) (ih194 y1 y2 y3 y4 r hx)) (.cons (fun y1 y2 y3 y4 r hx=>Am.value (F:=[]) (C:=[]) (ih195 y1 y2 y3 y4 r hx)) (.cons (fun y1 y2 y3 y4 r hx=>Am.value (F:=[]) (C:=[]) (ih195 y1 y2 y3 y4 r hx)) (.cons (fun y1 y2 y3 y4 r hx=>Am.value (F:=[]) (C:=[]) (ih195 y1 y2 y3 y4 r hx)) (.nil))))))))) h fun v6 f7 hv6 h=>?_;cbv;refine XE hE h (fun r8 hx=>hv6 aJ aA aM aK r8 hx) (.refl _) fun r8 v9 hv9 h=>?_;cbv;replace hO:=hO.tl0 (t:=.nil) rfl;obtain⟨o16,hx,h⟩:=bind_some h;replace hO:=hO.cast (L':=[.tl .nil,.blk m3 (.obj o4),cb b2 [.sl (lst eAo7 ([])) .nil],cb b1 [.sl [] .nil]]) (by simp only[ob,cb,sr,←C6]<;>rfl);refine KW cf127 hE N5 (ι:=Unit) (enc:=fun(x:(List A1))=>[sr eAo1 x]) (fun(s11:(List (ByteArray×Bool))×(List (List A1))) F H=>∃g:D7×Obj,(W4 g.1∧Wr .string V.str V.bool g.2 s11.1)∧B7 Eq F [.tl g.1,.blk m3 (.obj g.2),cb b2 [.sl (lst eAo7 s11.2) g.1],cb b1 [.sl [] .nil]] H) (fun(r:((List (ByteArray×Bool))×(List (List A1)))) e F H=>∃g:D7×Obj,(e= .ret∧W4 g.1∧Wr .string V.str V.bool g.2 r.1)∧B7 Eq F [.tl g.1,.blk m3 (.obj g.2),cb b2 [.sl (lst eAo7 r.2) g.1],cb b1 [.sl [] .nil]] H) (fun i s11 y10=>[(4,.v (.eref [.eref (B1 aJ) 0] 0)),(8,.v (.ref b1 0)),(9,.v (.ref b2 0)),(10,.v (.eref [.map m3] 0)),(12,.v (sr eAo1 y10))]) (fun i s11 y10 F H=>∃g:D7×Obj,(W4 g.1∧Wr .string V.str V.bool g.2 s11.1)∧B7 Eq F [.tl g.1,.blk m3 (.obj g.2),cb b2 [.sl (lst eAo7 s11.2) g.1],cb b1 [.sl [] .nil]] H) (fun _=>E0.ex fun _=>B7.stable G8 _) (fun _ _=>E0.ex fun _=>B7.stable G8 _) (fun _ _ _=>E0.ex fun _=>B7.stable G8 _) hv9 hx (⟨⟨.nil,o4⟩,⟨trivial,ho4⟩,hO⟩) (by decide) (fun _=>rfl) (by kernel_rfl) (by kernel_rfl) ?_ ?_ ?_ ?_
 ·rintro E i13 y10 s11 F12 H hE ⟨⟨t14,q15⟩,⟨ht14,hq15⟩,hO⟩;clear hx h;cbv;exact⟨(),⟨⟨t14,q15⟩,⟨ht14,hq15⟩,hO⟩,.e rfl (.e4 .z),rfl⟩
 ·rintro E i13 _ y10 s11 F12 H o hE hF h ⟨⟨t14,q15⟩,⟨ht14,hq15⟩,hO⟩;clear hx;cbv;refine A3 hE h (c160 N y10) (.refl _) fun r17 h=>?_;cbv;refine SR hE (kt:=9) (et:=4) (by kernel_rfl) (by kernel_rfl) QW (false:Bool) (by kernel_rfl) rfl hO hq15 1 rfl h fun r18 h=>?_;cbv;refine A8 hE h (fun _ h=>?_) fun _ h=>?_
  ·cbv;cases h;exact⟨_,rfl,⟨⟨t14,q15⟩,⟨ht14,hq15⟩,hO⟩⟩
  cbv;refine SQ hE (kt:=9) (et:=4) (by kernel_rfl) (by kernel_rfl) QW JR hO hq15 1 rfl h fun l20 o19 H ho19 h hO=>?_;cbv;refine B4 hE hO 2 rfl ?_;cbv;refine Cd (f:=eAo7) hE GA (by decide) hO 0 rfl ht14 (l:=s11.2) (m:=[y10]) (.refl _) (.lstc (.eq (eAp6 y10) (.refl _)) (.lst0)) h fun l22 t21 H hO ht21 h=>?_;cbv;refine A9 hE hO 2 rfl rfl fun H hO=>?_;cbv;refine B4 hE hO 2 rfl ?_;cbv;refine D9 hE ?_;cbv;obtain⟨s23,hx,h⟩:=bind_some h;refine U4 cf127 hE N5 (fun e l H1=>e= .normal∧l=[(4,.v (.eref [.eref (B1 aJ) 0] 0)),(8,.v (.ref b1 0))]∧B7 Eq F12 [.tl t21,.blk m3 (.obj o19),cb b2 [.sl (lst eAo7 l22) t21],cb b1 [.sl [] .nil]] H1) (by kernel_rfl) ?_ ?_
  ·clear h;have h:=hx;clear hx;cbv;refine A8 hE h (fun _ h=>?_) fun _ h=>?_
   ·cbv;cases h
   cbv;cases h;exact⟨_,⟨rfl,rfl,hO⟩,.e2 .z,rfl⟩
  clear hx;rintro e l H ⟨rfl,rfl,hO⟩;cbv;refine A8 hE h (fun _ h=>?_) fun _ h=>?_
  ·cbv;refine A9 hE hO 3 rfl rfl fun H hO=>?_;cbv;cases h;exact⟨_,rfl,rfl,⟨⟨t21,o19⟩,⟨rfl,⟨ht21,ho19⟩⟩,hO⟩⟩
  cbv;cases h;exact⟨_,rfl,⟨⟨t21,o19⟩,⟨ht21,ho19⟩,hO⟩⟩
 ·rintro d24 s28 H rfl hd ⟨⟨t29,q30⟩,⟨ht29,hq30⟩,hO⟩;have hO:B7 Eq H0 [.tl t29,.blk m3 (.obj q30),cb b2 [.sl (lst eAo7 s28.2) t29],cb b1 [.sl [] .nil],.blk d24 DB] H:=B7.dblk hd hO;clear hd;clear hx;cbv;refine B4 hE hO 2 rfl ?_;cbv;refine A9 hE hO 3 rfl rfl fun H hO=>?_;cbv;refine Jd hE hO 4 rfl fun H hO=>?_;cbv;refine B4 hE hO 3 rfl ?_;cbv;cases h;exact hK hO (.ro _ _)
 rintro d24 y31 e H rfl hd hX;clear hx
 rcases hX with⟨⟨t32,q33⟩,⟨rfl,ht32,hq33⟩,hO⟩
 have hO:B7 Eq H0 [.tl t32,.blk m3 (.obj q33),cb b2 [.sl (lst eAo7 y31.2) t32],cb b1 [.sl [] .nil],.blk d24 DB] H:=B7.dblk hd hO;clear hd;cbv;refine Jd hE hO 4 rfl fun H hO=>?_;cbv;refine B4 hE hO 3 rfl ?_;cbv;cases h;exact hK hO (.lit _ (C6))
theorem k191 (N n:Nat)(ih127:Nn N n)(ih233:Aa8 N n)(ih234:Aj2 N n):Aj7 N (n+1):=by
 intro aJ aA aM aK r h
 unfold L5 at h
 refine R5 cf191 N5 func191 (by rfl) (by kernel_rfl) call191 ntmps191 (by rfl) (by rfl) ?_;intro E H0 K hE hK;have hO:B7 Eq H0 [] H0:=.start G8 rfl;cbv;refine D9 hE ?_;cbv;refine A8 hE h (fun _ h=>?_) fun _ h=>?_
 ·cbv;refine B9 hE eAo4 h fun x1 h=>?_;cbv;refine A3 hE h (ih127 aJ x1 aM aK) (.refl _) fun r2 h=>?_;cbv;refine HA hE h (c232 N r2) (.refl _) fun r3 v4 hv4 h=>?_;cbv;cases h;exact hK _ _ _ hO hv4
 cbv;refine C4 hE hO fun b5 H hO=>?_;cbv;refine A9 hE hO 0 rfl rfl fun H hO=>?_;cbv;refine EA hE (f:=eAo2) N4 h fun l6 t7 h=>?_;cbv;refine A9 hE hO 0 rfl rfl fun H hO=>?_;cbv;refine Af9 hE hO 0 rfl (.cons (.refl _) (.cons (.ro _ _) (.refl _))) fun H hO=>?_;cbv;refine B9 hE eAo4 h fun x8 h=>?_;cbv;refine HA hE h (fun r9 hx=>ih233 aJ x8 aM aK (.func (.func 234) [] [.eref [.eref (B1 aJ) 0] 0,.eref [vi aA.Op,sr eAo2 l6,vi aA.Typ,vi aA.Var,vi aA.cS,vi aA.Span,vi aA.cQ.Op,sr eAo6 aA.cQ.cP,vi aA.cQ.Var,vi aA.cQ.Field,vi aA.cQ.Kind,vi aA.cQ.Value.Kind,vi aA.cQ.Value.Num,.str aA.cQ.Value.Text] 0]) (fun y1 y2=>J7 N n y1 y2 aJ ({aA with cP:=l6})) (fun y1 y2 r hx=>B2.value (F:=[]) (C:=[.eref [.eref (B1 aJ) 0] 0,.eref [vi aA.Op,sr eAo2 l6,vi aA.Typ,vi aA.Var,vi aA.cS,vi aA.Span,vi aA.cQ.Op,sr eAo6 aA.cQ.cP,vi aA.cQ.Var,vi aA.cQ.Field,vi aA.cQ.Kind,vi aA.cQ.Value.Kind,vi aA.cQ.Value.Num,.str aA.cQ.Value.Text] 0]) (ih234 y1 y2 aJ ({aA with cP:=l6}) r hx)) ⟨rfl,rfl⟩ r9 hx) (.refl _) fun r9 v10 hv10 h=>?_;cbv;cases h;exact hK _ _ _ hO hv10
theorem k192 (N n:Nat)(ih235:Aj1 N n):Aj6 N (n+1):=by
 intro aJ aA aM aK r h
 unfold L6 at h
 refine R5 cf0 N5 func192 (by rfl) (by kernel_rfl) call192 ntmps192 (by rfl) (by rfl) ?_;intro E H0 K hE hK;have hO:B7 Eq H0 [] H0:=.start G8 rfl;cbv;exact hK _ _ _ hO (V2 call235 (ih235 aA aJ aM aK r h))
theorem k193 (N n:Nat)(ih236:Aj0 N n):Aj5 N (n+1):=by
 intro aJ aA aM aK r h
 unfold L7 at h
 refine R5 cf0 N5 func193 (by rfl) (by kernel_rfl) call193 ntmps193 (by rfl) (by rfl) ?_;intro E H0 K hE hK;have hO:B7 Eq H0 [] H0:=.start G8 rfl;cbv;exact hK _ _ _ hO (V2 call236 (ih236 aA aJ aM aK r h))
theorem k194 (N n:Nat)(ih238:Ai9 N n):Aj4 N (n+1):=by
 intro aJ aA aM aK r h
 unfold K6 at h
 refine R5 cf0 N5 func194 (by rfl) (by kernel_rfl) call194 ntmps194 (by rfl) (by rfl) ?_;intro E H0 K hE hK;have hO:B7 Eq H0 [] H0:=.start G8 rfl;cbv;exact hK _ _ _ hO (V2 call238 (ih238 aJ aA aM aK r h))
theorem k195 (N n:Nat)(ih240:Ai7 N n):Aj3 N (n+1):=by
 intro aJ aA aM aK r h
 unfold E6 at h
 refine R5 cf0 N5 func195 (by rfl) (by kernel_rfl) call195 ntmps195 (by rfl) (by rfl) ?_;intro E H0 K hE hK;have hO:B7 Eq H0 [] H0:=.start G8 rfl;cbv;exact hK _ _ _ hO (V2 call240 (ih240 aJ aA aM aK r h))
theorem k233 (N n:Nat)(ih268:Ai6 N n):Aa8 N (n+1):=by
 intro aJ aA aM aK bY bU cJ cK r h
 unfold K5 at h
 refine R5 cf233 N5 func233 (by rfl) (by kernel_rfl) call233 ntmps233 (by rfl) (by rfl) ?_;intro E H0 K hE hK;have hO:B7 Eq H0 [] H0:=.start G8 rfl;cbv;refine Mc hE cK ?_;cbv;exact hK _ _ _ hO (V2 call268 (ih268 aJ aA aM aK bY bU cJ r h))
theorem k234 (N n:Nat)(ih127:Nn N n):Aj2 N (n+1):=by
 intro aM aK aI aN r h
 unfold J7 at h
 refine I6 cf0 func234 call234 ntmps234 ?_;intro E H0 K hE hK hO;cbv;refine A3 hE h (ih127 aI aN aM aK) (.refl _) fun r1 h=>?_;cbv;cases h;exact hK hO (.refl _)
theorem k235 (N n:Nat) (ih127:Nn N n):Aj1 N (n+1):=by
 intro aG aI aN aR r h
 unfold Q5 at h
 obtain⟨⟨w0,u0⟩,h1,hr⟩:=bind_some h;clear h;have hr:=AK hr;subst hr;have h:=h1;clear h1;refine O0 cf0 N5 func235 (by rfl) (by kernel_rfl) call235 ntmps235 (by rfl) (fun _=>rfl) ?_;intro yv I D hI hD hy tl F E H K hE hO hK hKD
 have hO:B7 (I (List.map (fun(x:(List A1))=>[sr eAo1 x]) (w0++[])++tl)) F [] H:=by rw[append_nil];exact hO
 cbv;refine D9 hE ?_;cbv;obtain⟨w2,w3,s6,hx,h1,he⟩:=Q7 h;clear h;have h:=h1;clear h1
 rw[he,append_assoc]at hO
 clear he;refine Cc cf0 hE N5 (γ:=Unit) (fun s1 g=>[(0,.v (yv)),(2,.v (.eref [.eref (B1 aI) 0] 0)),(3,.v (.eref [sr eAo1 aN] 0)),(4,.v (.eref [vi aR] 0)),(11,.v (sr eAo2 aG.cP)),fi 12 (Ar.len aG.cP),fi 13 s1]) (fun s1 g w H1=>B7 (I (List.map (fun(x:(List A1))=>[sr eAo1 x]) w++tl)) F [] H1) (fun x e l w H1=>e= .exit 0∧l=[]∧B7 (I (List.map (fun(x:(List A1))=>[sr eAo1 x]) w++tl)) F [] H1) (fun e l H1=>(e= .ret∧l=[]∧B7 D F [] H1)) (by kernel_rfl) ?_ (w':=w3++[]) () hx ?_ ?_ ?_ ?_
 ·rintro s1 _ w4 w5 H o hO h;clear hx
  skip
  cbv;refine A8 hE h (fun _ h=>?_) fun _ h=>?_
  ·cbv;refine B9 hE eAo4 h fun x7 h=>?_;cbv;refine A3 hE h (ih127 aI x7 aN aR) (.refl _) fun r8 h=>?_;cbv;refine D9 hE ?_;cbv;obtain⟨w10,w11,s14,hx,h1,he⟩:=Q7 h;clear h;have h:=h1;clear h1
   rw[he,append_assoc]at hO
   clear he;refine Cc cf0 hE N5 (γ:=Unit) (fun s9 g=>[(0,.v (yv)),(2,.v (.eref [.eref (B1 aI) 0] 0)),(3,.v (.eref [sr eAo1 aN] 0)),(4,.v (.eref [vi aR] 0)),(11,.v (sr eAo2 aG.cP)),fi 12 (Ar.len aG.cP),fi 13 s1,(21,.v (sr eAo7 r8)),fi 22 (Ar.len r8),fi 23 s9]) (fun s9 g w H1=>B7 (I (List.map (fun(x:(List A1))=>[sr eAo1 x]) w++tl)) F [] H1) (fun x e l w H1=>e= .exit 2∧l=[(0,.v (yv)),(2,.v (.eref [.eref (B1 aI) 0] 0)),(3,.v (.eref [sr eAo1 aN] 0)),(4,.v (.eref [vi aR] 0)),(11,.v (sr eAo2 aG.cP)),fi 12 (Ar.len aG.cP),fi 13 s1]∧B7 (I (List.map (fun(x:(List A1))=>[sr eAo1 x]) w++tl)) F [] H1) (fun e l H1=>(e= .ret∧l=[]∧B7 D F [] H1)) (by kernel_rfl) ?_ (w':=w11++w5) () hx ?_ ?_ ?_ ?_
   ·rintro s9 _ w12 w13 H o hO h;clear hx
    skip
    cbv;refine A8 hE h (fun _ h=>?_) fun _ h=>?_
    ·cbv;refine B9 hE eAp6 h fun x15 h=>?_;cbv;obtain⟨w16,h1,he⟩:=V4 h;clear h;have h:=h1;clear h1
     rw[he,append_assoc]at hO
     clear he;have hO:B7 (I ([sr eAo1 x15]::(List.map (fun(x:(List A1))=>[sr eAo1 x]) (w16++w13)++tl))) F [] _:=hO;refine DD hE hI hD hy hO (.refl _) (fun H hO=>?_) (fun H hO=>?_)
     ·cbv;refine HQ hE (nt_eq _) ?_;cbv;obtain⟨hw,rfl⟩:=C9 h
      rw[←hw]at hO
      exact⟨_,(),rfl,.e2 (.e4 (.e4 .z)),rfl,hO⟩
     clear h;cbv;refine HP hE (nt_eq _) ?_;cbv;exact .inr ⟨_,⟨rfl,rfl,hO⟩,.z,rfl⟩
    cbv;obtain⟨hw,rfl⟩:=C9 h
    rw[←hw]at hO
    exact .inl ⟨_,_,rfl,⟨rfl,rfl,hO⟩,.e rfl (.e2 (.e4 .z)),rfl⟩
   ·exact .e2 (.e4 (.e4 .z))
   ·exact hO
   ·rintro e l H ⟨rfl,rfl,hO⟩;clear hx;cbv;obtain⟨hw,rfl⟩:=C9 h
    rw[←hw]at hO
    exact⟨_,(),rfl,.e rfl (.e2 (.e4 .z)),rfl,hO⟩
   rintro e l H hX;obtain⟨rfl,rfl,hO⟩:=hX;clear h;cbv;exact .inr ⟨_,⟨rfl,rfl,hO⟩,.z,rfl⟩
  cbv;obtain⟨hw,rfl⟩:=C9 h
  rw[←hw]at hO
  exact .inl ⟨_,_,rfl,⟨rfl,rfl,hO⟩,.z,rfl⟩
 ·exact .e rfl (.e2 (.e4 .z))
 ·exact hO
 ·rintro e l H ⟨rfl,rfl,hO⟩;clear hx;cbv;obtain⟨hw,_⟩:=C9 h
  rw[←hw]at hO
  exact hK _ _ _ hO trivial
 rintro e l H hX;obtain⟨rfl,rfl,hO⟩:=hX;clear h;cbv;exact hKD _ _ _ hO trivial
end Go.Ab
