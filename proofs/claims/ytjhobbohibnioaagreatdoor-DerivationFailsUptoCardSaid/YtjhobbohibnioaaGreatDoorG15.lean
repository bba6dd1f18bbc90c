/- . -/
import Derived.Test.YtjhobbohibnioaaGreatDoorG14
import Derived.Deep.Slices
import Derived.Carry
import Derived.Lib.LaidTab
import Derived.Laws.Strings
set_option linter.all false
namespace Go.Ab
open Go.RowKit Go.Proofs Go.Proofs.Tryz R0
variable [Ar][R0]
set_option maxRecDepth 100000
def cf78:Cf:=⟨[6000011],[(3000003,0),(3000003,1),(3000003,2),(3000003,4),(3000003,5),(3000003,7)],[],[2000003],[],[]⟩
def c78 (N aS bN r)(h:Cw N aS bN=some r):C2 prog 78 [vi aS,vi bN] (sr eBo2 r):=by
 refine FE (T:=TT) cf78 S3 func78 (by rfl) (by kernel_rfl) call78 ntmps78 (by rfl) (by rfl) ?_;intro E H0 K hE hK hF;have hO:C8 Eq H0 [] H0:=.start M2 rfl;cbv;refine AK2 hE (f:=eBo2) (l:=([(⟨0,0,0,1,[]⟩:A8),(⟨0,1,1,aS,[]⟩:A8),(⟨0,2,1,bN,[]⟩:A8)]:List A8)) (.lstc (.eq (eBo8 (⟨0,0,0,1,[]⟩:A8)) (.agg (.r (.r (.r (.r (.cons (.lit _ (F3)) .z))))))) (.lstc (.eq (eBo8 (⟨0,1,1,aS,[]⟩:A8)) (.agg (.r (.r (.r (.r (.cons (.lit _ (F3)) .z))))))) (.lstc (.eq (eBo8 (⟨0,2,1,bN,[]⟩:A8)) (.agg (.r (.r (.r (.r (.cons (.lit _ (F3)) .z))))))) (.lst0)))) hO fun q1 H hq1 hO=>?_;cbv;apply C7 hE h<;>intro _ h
 ·cbv;cases h
 cbv;cases h;exact hF q1 _ _ 0 _ _ hO rfl (Fi hE hq1) .z
def cf79:Cf:=⟨[2],[],[],[],[],[]⟩
def c79 (N aH r)(h:Ay N aH=some r):C2 prog 79 [sr eBo3 aH] ((G2 r)):=by
 refine Q9 cf79 func79 call79 ntmps79 ?_;intro E H0 K hE hK hO;cbv;refine F2 hE hO fun b1 H hO=>?_;cbv;refine B3 hE h (c76 N 1 0) .z fun r2 h=>?_;cbv;refine D1 hE hO 0 rfl rfl fun H hO=>?_;cbv;apply C6 hE hO 0 rfl;cbv;cases h;exact hK hO (.agg (.r (.r (.r (.r (.cons (.lit _ (H8 ((eBo4 r2).symm) (H8 ((eBo4 (⟨(⟨0,0,0⟩:T4),0,aH⟩:A4)).symm) (F3)))) .z))))))
def cf24:Cf:=⟨[1,2],[(3,21),(5,11),(6,9),(7,11),(8,65)],[],[],[],[]⟩
set_option maxHeartbeats 2000000 in
theorem c24 (N r) (h:Bt N=some r):C2 prog 24 [] (.bool r):=by
 unfold Bt at h
 refine Q9 cf24 func24 call24 ntmps24 ?_;intro E H0 K hE hK hO;cbv;refine B3 hE h (c76 N 2 1) (.refl _) fun r1 h=>?_;cbv;refine B3 hE h (c76 N 3 2) (.refl _) fun r2 h=>?_;cbv;refine F2 hE hO fun b3 H hO=>?_;cbv;refine F2 hE hO fun b4 H hO=>?_;cbv;refine D1 hE hO 1 rfl rfl fun H hO=>?_;cbv;refine D1 hE hO 0 rfl rfl fun H hO=>?_;cbv;refine B3 hE h (c77 N 1) (.refl _) fun r5 h=>?_;cbv;refine B3 hE h (c78 N 2 3) (.refl _) fun r6 h=>?_;cbv;refine B3 hE h (c15 N r5 r6) (.refl _) fun r7 h=>?_;cbv;refine C6 hE hO 1 rfl ?_;cbv;refine C7 hE h (fun _ h=>?_) fun _ h=>?_
 ·cbv;cases h;exact hK hO (.refl _)
 cbv;refine E9 hE (g:=fun r8=>(G2 r8)) h (c79 N ([r1])) (.cons (.lit _ (H8 ((eBo4 r1).symm) (F3))) (.refl _)) fun r8 h=>?_;cbv;refine C6 hE hO 1 rfl ?_;cbv;refine C6 hE hO 0 rfl ?_;cbv;refine E9 hE (g:=fun r9=>(G2 r9)) h (c79 N ([r1,r2])) (.cons (.lit _ (H8 ((eBo4 r1).symm) (H8 ((eBo4 r2).symm) (F3)))) (.refl _)) fun r9 h=>?_;cbv;refine C6 hE hO 0 rfl ?_;cbv;refine E9 hE (g:=fun r10=>(G2 r10)) h (c79 N ([r2])) (.cons (.lit _ (H8 ((eBo4 r2).symm) (F3))) (.refl _)) fun r10 h=>?_;cbv;refine E9 hE (g:=fun r11=>.bool r11) h (c40 N r7.1 ([r8,r9,r10])) (.cons (.refl _) (.cons (.lit _ (H8 ((eBo4 r8).symm) (H8 ((eBo4 r9).symm) (H8 ((eBo4 r10).symm) (F3))))) (.refl _))) fun r11 h=>?_;cbv;refine C6 hE hO 1 rfl ?_;cbv;refine C6 hE hO 0 rfl ?_;cbv;refine C7 hE h (fun _ h=>?_) fun _ h=>?_
 ·cbv;cases h;exact hK hO (.refl _)
 cbv;refine B3 hE h (c79 N ([r1,r2])) (.cons (.lit _ (H8 ((eBo4 r1).symm) (H8 ((eBo4 r2).symm) (F3)))) (.refl _)) fun r12 h=>?_;cbv;refine B3 hE h (c29 N N r12) (.refl _) fun r13 h=>?_;cbv;refine C7 hE h (fun _ h=>?_) fun _ h=>?_
 ·cbv;cases h;exact hK hO (.refl _)
 cbv;refine E9 hE (g:=fun r14=>(D5 r14)) h (c77 N 1) (.refl _) fun r14 h=>?_;cbv;refine C6 hE hO 1 rfl ?_;cbv;refine C6 hE hO 0 rfl ?_;cbv;refine E9 hE (g:=fun r15=>(G2 r15)) h (c79 N ([r1,r2])) (.cons (.lit _ (H8 ((eBo4 r1).symm) (H8 ((eBo4 r2).symm) (F3)))) (.refl _)) fun r15 h=>?_;cbv;refine E9 hE (g:=fun r16=>.tup [(KJ r16.1),vi r16.2]) h (c17 N r14 r15) (.refl _) fun r16 h=>?_;cbv;refine E9 hE (g:=fun r17=>(D5 r17)) h (c77 N 1) (.refl _) fun r17 h=>?_;cbv;refine E9 hE (g:=fun r18=>sr eBo2 r18) h (c78 N 2 3) (.refl _) fun r18 h=>?_;cbv;refine E9 hE (g:=fun r19=>.tup [(G2 r19.1),vi r19.2]) h (c16 N r17 r18 r16.1) (.refl _) fun r19 h=>?_;cbv;refine E9 hE (g:=fun r20=>(D5 r20)) h (c77 N 1) (.refl _) fun r20 h=>?_;cbv;refine C6 hE hO 0 rfl ?_;cbv;refine C6 hE hO 1 rfl ?_;cbv;refine E9 hE (g:=fun r21=>(G2 r21)) h (c79 N ([r2,r1])) (.cons (.lit _ (H8 ((eBo4 r2).symm) (H8 ((eBo4 r1).symm) (F3)))) (.refl _)) fun r21 h=>?_;cbv;refine E9 hE (g:=fun r22=>.tup [(KJ r22.1),vi r22.2]) h (c17 N r20 r21) (.refl _) fun r22 h=>?_;cbv;refine C6 hE hO 1 rfl ?_;cbv;refine C6 hE hO 0 rfl ?_;cbv;refine C7 hE h (fun _ h=>?_) fun _ h=>?_
 ·cbv;refine E9 hE (g:=fun r23=>(G2 r23)) h (c79 N ([r1,r2])) (.cons (.lit _ (H8 ((eBo4 r1).symm) (H8 ((eBo4 r2).symm) (F3)))) (.refl _)) fun r23 h=>?_;cbv;refine E9 hE (g:=fun r24=>vi r24) h (c21 N N r19.1 r23) (.refl _) fun r24 h=>?_;cbv;refine K9 hE ?_;cbv;refine C7 hE h (fun _ h=>?_) fun _ h=>?_
  ·cbv;refine E9 hE (g:=fun r25=>(D5 r25)) h (c77 N 1) (.refl _) fun r25 h=>?_;cbv;refine E9 hE (g:=fun r26=>sr eBo2 r26) h (c78 N 2 3) (.refl _) fun r26 h=>?_;cbv;refine C6 hE hO 1 rfl ?_;cbv;refine C6 hE hO 0 rfl ?_;cbv;refine E9 hE (g:=fun r27=>(G2 r27)) h (c79 N ([r1,r2])) (.cons (.lit _ (H8 ((eBo4 r1).symm) (H8 ((eBo4 r2).symm) (F3)))) (.refl _)) fun r27 h=>?_;cbv;refine E9 hE (g:=fun r28=>vi r28) h (c31 N r25 r26 r27) (.refl _) fun r28 h=>?_;cbv;refine C7 hE h (fun _ h=>?_) fun _ h=>?_
   ·cbv;refine E9 hE (g:=fun r29=>(D5 r29)) h (c77 N 1) (.refl _) fun r29 h=>?_;cbv;refine E9 hE (g:=fun r30=>sr eBo2 r30) h (c78 N 2 3) (.refl _) fun r30 h=>?_;cbv;refine Sz hE (f:=eBo2) Nj h fun l31 t32 h=>?_;cbv;refine C6 hE hO 1 rfl ?_;cbv;refine C6 hE hO 0 rfl ?_;cbv;refine E9 hE (g:=fun r33=>(G2 r33)) h (c79 N ([r1,r2])) (.cons (.lit _ (H8 ((eBo4 r1).symm) (H8 ((eBo4 r2).symm) (F3)))) (.refl _)) fun r33 h=>?_;cbv;refine E9 hE (g:=fun r34=>vi r34) h (c31 N r29 l31 r33) (.cons (.refl _) (.cons (.ro _ _) (.refl _))) fun r34 h=>?_;cbv;refine C7 hE h (fun _ h=>?_) fun _ h=>?_
    ·cbv;refine E9 hE (g:=fun r35=>(D5 r35)) h (c77 N 0) (.refl _) fun r35 h=>?_;cbv;refine E9 hE (g:=fun r36=>sr eBo2 r36) h (c78 N 2 3) (.refl _) fun r36 h=>?_;cbv;refine C6 hE hO 1 rfl ?_;cbv;refine C6 hE hO 0 rfl ?_;cbv;refine E9 hE (g:=fun r37=>(G2 r37)) h (c79 N ([r1,r2])) (.cons (.lit _ (H8 ((eBo4 r1).symm) (H8 ((eBo4 r2).symm) (F3)))) (.refl _)) fun r37 h=>?_;cbv;refine E9 hE (g:=fun r38=>vi r38) h (c31 N r35 r36 r37) (.refl _) fun r38 h=>?_;cbv;refine C7 hE h (fun _ h=>?_) fun _ h=>?_
     ·cbv;refine E9 hE (g:=fun r39=>(D5 r39)) h (c77 N 1) (.refl _) fun r39 h=>?_;cbv;refine E9 hE (g:=fun r40=>sr eBo2 r40) h (c78 N 2 3) (.refl _) fun r40 h=>?_;cbv;refine C6 hE hO 0 rfl ?_;cbv;refine C6 hE hO 1 rfl ?_;cbv;refine E9 hE (g:=fun r41=>(G2 r41)) h (c79 N ([r2,r1])) (.cons (.lit _ (H8 ((eBo4 r2).symm) (H8 ((eBo4 r1).symm) (F3)))) (.refl _)) fun r41 h=>?_;cbv;refine E9 hE (g:=fun r42=>vi r42) h (c31 N r39 r40 r41) (.refl _) fun r42 h=>?_;cbv;refine C7 hE h (fun _ h=>?_) fun _ h=>?_
      ·cbv;refine B3 hE h (c28 N r16.1 r22.1) (.refl _) fun r43 h=>?_;cbv;cases h;exact hK hO (.refl _)
      cbv;cases h;exact hK hO (.refl _)
     cbv;cases h;exact hK hO (.refl _)
    cbv;cases h;exact hK hO (.refl _)
   cbv;cases h;exact hK hO (.refl _)
  cbv;cases h;exact hK hO (.refl _)
 cbv;cases h;exact hK hO (.refl _)
def cf47:Cf:=⟨[2],[],[],[],[],[]⟩
def c47 (N aC r)(h:Ko N aC=some r):C2 prog 47 [(BO aC)] ((DU r)):=by
 refine Q9 cf47 func47 call47 ntmps47 ?_;intro E H0 K hE hK hO;cbv;refine F2 hE hO fun b1 H hO=>?_;cbv;refine D1 hE hO 0 rfl rfl fun H hO=>?_;cbv;apply C6 hE hO 0 rfl;cbv;cases h;exact hK hO .z
def cf43:Cf:=⟨[],[(5,6)],[],[],[],[]⟩
def c43 (N aD bZ bV r) (h:S7 N aD bZ bV=some r):XW prog 43 [vi bZ,vi bV] 5 (Ar.lst eBo2 aD) (Ar.lst eBo2 r):=by
 unfold S7 at h
 obtain⟨x,h1,h2⟩:=bind_some h;cases M1 h2;obtain⟨h0,h1,h2,hr⟩:=AW9 (f:=eBo2) h1;rw[hr];clear hr h
 generalize Ar.lst eBo2 aD=xs at *
 rintro H ⟨id,lo,n,pre,rest⟩ ⟨e1,e2⟩ hk
 simp only at e1 e2 hk
 refine Am6 (T:=TT) cf43 S3 func43 (by rfl) (by kernel_rfl) call43 ntmps43 (by rfl) (by rfl) ?_;intro E K hE hK
 simp only at hK ⊢
 generalize hrow:pre++xs++rest=row at hk
 obtain⟨RL,hRL⟩:∃RL:Int,RL=(row.length:Nat):=⟨_,rfl⟩
 have hlen:lo+n≤RL:=by rw[hRL,←hrow,e1,e2];simp;omega
 have hn0:0≤lo∧0≤n∧bV≤n:=by omega
 have hdl:∀l2 n2:Int,0≤l2→0≤n2→l2+n2≤RL→n2=((Q3 row l2 n2).length:Nat):=fun l2 n2 a b c=>by rw[EQ a b (by rw[←hRL];exact c)];omega
 cbv;refine Ah6 hE ?_;cbv;refine Ay0 hE hk hRL bZ bV rfl rfl h0 h1 (by omega) hlen rfl ?_;cbv;refine Bf6 hE (fun hc=>?_) (fun hc=>?_)
 ·cbv
  have hij:bZ=bV:=by rw[Ar.cmp_eq]at hc;simpa[Pi]using hc
  refine hK id lo n row pre rest H ?_ e1 ?_ (.inl rfl) ?_
  ·rw[←hrow,hij,BF]
  ·rw[hij,BF];exact e2
  rw[BP];intro y b hy
  by_cases ey:y=id
  ·subst ey;rw[F5]at hy;cases hy;exact hk
  rwa[C9 _ _ ey]at hy
 cbv;refine Ah6 hE ?_;cbv;refine PK hE hk hRL 0 bZ rfl rfl (Ch _) h0 (by omega) fun l1 n1 q1 q2=>?_;cbv;refine PK hE hk hRL bV n rfl rfl (by omega) (by omega) hlen fun l2 n2 q3 q4=>?_;cbv;have hsl:=hdl l2 n2 (by omega) (by omega) (by omega);refine Bf5 hE hk hRL (AS6 hE hk) hsl (fun hfit m row1 q5 hr1=>?_) (fun hno=>absurd hno (by omega));cbv;refine Ah6 hE ?_;cbv
 have hR1:RL=(row1.length:Nat):=by rw[hr1,Jz (AS4 hRL hsl (by omega) (by omega) hfit)];exact hRL
 refine PK hE (F5 _ _ _) hR1 m n rfl rfl (by omega) (by omega) (by omega) fun l3 n3 q6 q7=>?_;cbv;refine AI0 hE (F5 _ _ _) fun row2 hr2=>?_;cbv;have hd:=AZ9 hrow.symm e1 e2 h0 h1 h2 (by omega) (by omega) q3 q4 hr1 (q5.trans (I4 (n1+ ·) hsl)) q6 q7 hr2;rw[BP];exact hK id l1 m row2 pre _ _ hd.1 (by omega) hd.2 (.inl rfl) (by rw[BP];exact .refl _)
def cf44:Cf:=⟨[7],[],[],[],[],[]⟩
def c44 (N aD r)(h:P5 N aD=some r):US prog 44 [sr eBo2 aD] 5 (Ar.lst eBo2 r):=by
 unfold P5 at h
 intro H0;refine KD (T:=TT) cf44 S3 func44 (by rfl) (by kernel_rfl) call44 ntmps44 (by rfl) (by rfl) ?_;intro E K hE hK hN;have hO:C8 Eq H0 [] H0:=.start M2 rfl;cbv;refine AK3 hE rfl (fun hx=>?_) ?_
 ·cbv;exact hN (Ad0 hx h) [] H0 hO
 cbv;refine Aq4 (f:=eBo2) hE Nj (by decide) hO (.inr rfl) (m:=aD) (Ow (f:=eBo2) hE Nj (.refl _)) h fun l q H hq hO h=>?_;cbv;cases h;exact hK q _ _ (Fi hE hq) hO
def c109 (N:Nat) (aD:List C1) (bC:V) (aT:C1→Option Bool) (bQ:∀y1 q,aT y1=some q→AA prog bC [(AQ y1)] (.bool q)) (r:Int) (h:Q7 N aD aT=some r):C2 prog 109 [sr eBo5 aD,bC] (vi r):=by
 unfold Q7 at h
 refine Q9 cf0 func109 call109 ntmps109 ?_;intro E H0 K hE hK hO;cbv;refine K9 hE ?_;cbv;obtain⟨s2,hx,h⟩:=bind_some h;refine I7 cf0 hE S3 (fun s1=>[(0,.v (sr eBo5 aD)),(1,.v (bC)),fi 7 (Ar.len aD),fi 8 s1]) (fun s1 H1=>C8 Eq H0 [] H1) (fun x e l H1=>match(generalizing:=false) x with| .inl y=>e= .exit 0∧l=[]∧C8 Eq H0 [] H1| .inr y=>e= .ret∧l=[fi 4 y]∧C8 Eq H0 [] H1) (by kernel_rfl) ?_ hx ?_ hO ?_
 ·intro s1 H o hO h;clear hx;cbv;refine C7 hE h (fun _ h=>?_) fun _ h=>?_
  ·cbv;refine F6 hE eBp1 h fun x3 h=>?_;cbv;refine BR hE (g:=fun r4=>.bool r4) h (fun r4 hx=>bQ x3 r4 hx) (.refl _) fun r4 h=>?_;cbv;refine C7 hE h (fun _ h=>?_) fun _ h=>?_
   ·cbv;cases h;exact⟨_,_,rfl,⟨rfl,rfl,hO⟩,.e rfl .z,rfl⟩
   cbv;cases h;exact⟨_,rfl,.e4 .z,rfl,hO⟩
  cbv;cases h;exact⟨_,_,rfl,⟨rfl,rfl,hO⟩,.z,rfl⟩
 ·exact .e4 .z
 clear hx
 rcases s2 with y5|y6
 ·rintro e l H ⟨rfl,rfl,hO⟩;cbv;cases h;exact hK hO (.refl _)
 rintro e l H ⟨rfl,rfl,hO⟩;cbv;cases h;exact hK hO (.refl _)
def c45 (N:Nat)(aD:List C1)(bC:V)(aT:C1→Option Bool)(bQ:∀y1 q,aT y1=some q→AA prog bC [(AQ y1)] (.bool q))(r:Bool)(h:M0 N aD aT=some r):C2 prog 45 [sr eBo5 aD,bC] (.bool r):=by
 unfold M0 at h
 refine Q9 cf0 func45 call45 ntmps45 ?_;intro E H0 K hE hK hO;cbv;refine B3 hE h (c109 N aD bC aT bQ) (.refl _) fun r1 h=>?_;cbv;cases h;exact hK hO (.refl _)
def cf46:Cf:=⟨[],[(1,7)],[],[],[],[]⟩
def c46 (N aF aO aU r)(h:W7 N aF aO aU=some r):C2 prog 46 [(AQ aF),.eref [sr eBo2 aO] 0,.eref [vi aU] 0] (.bool r):=by
 unfold W7 at h
 refine Q9 cf46 func46 call46 ntmps46 ?_;intro E H0 K hE hK hO;cbv;refine F6 hE eBo8 h fun x1 h=>?_;cbv;refine E9 hE (g:=fun r2=>(DU r2)) h (c47 N x1) (.refl _) fun r2 h=>?_;cbv;cases h;exact hK hO (.refl _)
def cf9:Cf:=⟨[],[(3000007,0),(3000007,2),(3000007,3),(3000007,4),(3000007,6)],[],[2000007],[(71,10),(72,11)],[]⟩
def c9 (N aA aD bI r) (h:Be N aA aD bI=some r):C2 prog 9 [(D5 aA),sr eBo2 aD,.int .u8 bI] (.bool r):=by
 unfold Be at h
 refine Q9 cf9 func9 call9 ntmps9 ?_;intro E H0 K hE hK hO;cbv;refine B3 hE h (c38 N aA aD) (.refl _) fun r1 h=>?_;cbv;refine C7 hE h (fun _ h=>?_) fun _ h=>?_
 ·cbv;refine B3 hE h (c24 N) (.refl _) fun r2 h=>?_;cbv;cases h;exact hK hO (.refl _)
 cbv;refine B3 hE h (c36 N aD) (.refl _) fun r3 h=>?_;cbv;refine C7 hE h (fun _ h=>?_) fun _ h=>?_
 ·cbv;refine B3 hE h (c24 N) (.refl _) fun r4 h=>?_;cbv;cases h;exact hK hO (.refl _)
 cbv;refine B3 hE h (c41 N aA) (.refl _) fun r5 h=>?_;cbv;refine C7 hE h (fun _ h=>?_) fun _ h=>?_
 ·cbv;refine B3 hE h (c24 N) (.refl _) fun r6 h=>?_;cbv;cases h;exact hK hO (.refl _)
 cbv;refine B3 hE h (c42 N aD) (.refl _) fun r7 h=>?_;cbv;refine K9 hE ?_;cbv;refine C7 hE h (fun _ h=>?_) fun _ h=>?_
 ·cbv;refine B3 hE h (c24 N) (.refl _) fun r8 h=>?_;cbv;cases h;exact hK hO (.refl _)
 cbv;refine B3 hE h (c15 N aA aD) (.refl _) fun r9 h=>?_;cbv;refine C7 hE h (fun _ h=>?_) fun _ h=>?_
 ·cbv;cases h;exact hK hO (.refl _)
 cbv;refine K9 hE ?_;cbv;refine PS hE h fun h=>?_;cbv;obtain⟨s10,hx,h⟩:=bind_some h;refine R8 cf9 hE S3 (fun e l H1=>∃u1:OG,Cd u1 (Ar.len s10)∧e= .normal∧l=[(3,.v (.eref (E0 aA) 0)),(4,.v (.eref [sr eBo2 aD] 0)),(7,.v (sr eBo3 r9.1)),(9,.v (.eref [vi (Ar.ar .rem .i64 (Ar.wr .i64 bI) (Ar.len aD))] 0)),(10,.v (.own u1.id u1.lo u1.n))]∧C8 Eq H0 [ob u1 5 eBo2 s10] H1) (by kernel_rfl) ?_ ?_
 ·clear h;have h:=hx;clear hx;cbv;obtain⟨l51,el51,h⟩:=bind_some h;obtain⟨l211,el211,h⟩:=bind_some h;refine Nv hE (f:=eBo2) (Bj el51) (c44 N aD) (.refl _) hO fun l51 q52 H hq52 hO hh=>?_;obtain rfl:=M1 hh;cbv;refine ZA hE (f:=eBo2) hO hq52 0 rfl (Bj el211) (c43 N l51 (Ar.ar .rem .i64 (Ar.wr .i64 bI) (Ar.len aD)) (Ar.ar .add .i64 (Ar.ar .rem .i64 (Ar.wr .i64 bI) (Ar.len aD)) 1)) (.refl _) fun l211 q212 H hq212 hO hh=>?_;obtain rfl:=M1 hh;cbv;cases h;exact⟨_,⟨q212,hq212,rfl,rfl,hO⟩,.e rfl (.e4 .z),rfl⟩
 clear hx;rintro e l H ⟨q331,hq331,rfl,rfl,hO⟩;cbv;refine Nv hE (f:=eBo2) h (c44 N aD) (.refl _) hO fun l332 q333 H hq333 hO h=>?_;cbv;refine BK hE hO hq333 0 rfl h fun h=>?_;cbv;refine CT hE eBo8 hO hq333 0 rfl h fun x334 h=>?_;cbv;refine BK hE hO hq333 0 rfl h fun h=>?_;cbv;refine Hb hE (f:=eBo2) (esz:=5) (tz:=1) (off:=2) (u:=(fun x335:A8=>{x335 with Typ:=Ar.ar .add .i64 x334.Typ 1})) (fun x335=>⟨.int .i64 (Ar.ar .add .i64 x334.Typ 1),.refl _,rfl,rfl,(by rw[eBo8,eBo8];rfl)⟩) (by decide) hO hq333 0 rfl h fun l336 H hq333 h hO=>?_;cbv;refine Ai6 hE hO hq331 1 rfl fun H hO=>?_;cbv;refine K9 hE ?_;cbv;refine Ai6 hE hO hq333 0 rfl fun H hO=>?_;cbv;obtain⟨s338,hx,h⟩:=bind_some h;refine I7 cf9 hE S3 (fun s337=>[(3,.v (.eref (E0 aA) 0)),(4,.v (.eref [sr eBo2 aD] 0)),(9,.v (.eref [vi (Ar.ar .rem .i64 (Ar.wr .i64 bI) (Ar.len aD))] 0)),(10,.v (sr eBo2 s10)),(11,.v (sr eBo2 l336)),(70,.v (sr eBo3 r9.1)),fi 71 (Ar.len r9.1),fi 72 s337]) (fun s337 H1=>C8 Eq H0 [] H1) (fun x e l H1=>match(generalizing:=false) x with| .inl y=>e= .exit 0∧l=[]∧C8 Eq H0 [] H1| .inr y=>e= .ret∧l=[(6,.b false)]∧C8 Eq H0 [] H1) (by kernel_rfl) ?_ hx ?_ hO ?_
 ·intro s337 H o hO h;clear hx;cbv;refine C7 hE h (fun _ h=>?_) fun _ h=>?_
  ·cbv;refine F6 hE eBo4 h fun x339 h=>?_;cbv;refine B3 hE h (c17 N aA x339) (.refl _) fun r340 h=>?_;cbv;refine C7 hE h (fun _ h=>?_) fun _ h=>?_
   ·cbv;cases h;exact⟨_,_,rfl,⟨rfl,rfl,hO⟩,.b rfl (.z),rfl⟩
   cbv;refine B3 hE (g:=fun r341=>.bool r341) h (fun r341 hx=>c45 N r340.1.cT (.func (.func 46) [] [.eref [sr eBo2 aD] 0,.eref [vi (Ar.ar .rem .i64 (Ar.wr .i64 bI) (Ar.len aD))] 0]) (fun y1=>W7 N y1 aD (Ar.ar .rem .i64 (Ar.wr .i64 bI) (Ar.len aD))) (fun y1 r hx=>C2.value (F:=[]) (C:=[.eref [sr eBo2 aD] 0,.eref [vi (Ar.ar .rem .i64 (Ar.wr .i64 bI) (Ar.len aD))] 0]) (c46 N y1 aD (Ar.ar .rem .i64 (Ar.wr .i64 bI) (Ar.len aD)) r hx)) r341 hx) (.refl _) fun r341 h=>?_;cbv;refine C7 hE h (fun _ h=>?_) fun _ h=>?_
   ·cbv;cases h;exact⟨_,rfl,.e4 (.e4 .z),rfl,hO⟩
   cbv;refine B3 hE h (c31 N aA s10 x339) (.refl _) fun r342 h=>?_;cbv;refine C7 hE h (fun _ h=>?_) fun _ h=>?_
   ·cbv;cases h;exact⟨_,_,rfl,⟨rfl,rfl,hO⟩,.b rfl (.z),rfl⟩
   cbv;refine B3 hE h (c31 N aA l336 x339) (.refl _) fun r343 h=>?_;cbv;refine C7 hE h (fun _ h=>?_) fun _ h=>?_
   ·cbv;cases h;exact⟨_,_,rfl,⟨rfl,rfl,hO⟩,.b rfl (.z),rfl⟩
   cbv;cases h;exact⟨_,rfl,.e4 (.e4 .z),rfl,hO⟩
  cbv;cases h;exact⟨_,_,rfl,⟨rfl,rfl,hO⟩,.z,rfl⟩
 ·exact .e4 (.e4 .z)
 clear hx
 rcases s338 with y344|y346
 ·rintro e l H ⟨rfl,rfl,hO⟩;cbv;refine B3 hE h (c24 N) (.refl _) fun r345 h=>?_;cbv;cases h;exact hK hO (.refl _)
 rintro e l H ⟨rfl,rfl,hO⟩;cbv;cases h;exact hK hO (.refl _)
end Go.Ab
namespace Go.Ab
open Go.RowKit Go.ChangeShapes Go.WideShapes
variable [O6]
def g0 (W:World):Gh:=⟨fun _=>none,fun _=>⟨0,0,0⟩,fun _=>none,fun b o=>∃v,W.cell? ⟨b,o,none⟩=some v,0,W.heap.size⟩
def rl0 {W:World}(hg:∀n,VR (g0 W) W (.pointer (some ⟨n,0,none⟩)) (O6.gl n)):Rl (g0 W) (fun _=>none) W:=
 ⟨fun id b h=>(by cases h),fun id id' b h=>(by simp[Gh.at]at h),fun b o h=>h,fun id _=>⟨rfl,rfl,rfl⟩,B1 _,hg⟩
def Gq (g:Gh)(w:World)(cs:List Value)(xs:List V):Prop:=
 cs.length=xs.length∧∀i,i<xs.length→(cs.getD i undef).oneCell'=true∧VR g w (cs.getD i undef) (xs.getD i .bad)
def Gq.nil (g:Gh)(w:World):Gq g w [] []:=⟨rfl,fun i hi=>by simp at hi⟩
theorem Gq.one {g:Gh}{w:World}{v:Value}{x:V}(h1:v.oneCell'=true)(h:VR g w v x):Gq g w [v] [x]:=by
 simp_all[Gq]
def Gq.append {g:Gh}{w:World}{cs ds:List Value}{xs ys:List V}(h:Gq g w cs xs)(k:Gq g w ds ys):Gq g w (cs++ds) (xs++ys):=by
 grind[Gq]
def Gq.join {g:Gh}{w:World}{cs:List Value}{xs ys:List V}{a n m:Nat}(h:Gq g w ((cs.drop a).take n) xs)(k:Gq g w ((cs.drop (a+n)).take m) ys):Gq g w ((cs.drop a).take (n+m)) (xs++ys):=by
 have:=h.append k
 rwa[show(cs.drop (a+n))=(cs.drop a).drop n by rw[IP],←List.take_add]at this
def Gq.agg {g:Gh} {w:World} {cs:Array Value} {xs:List V} (h:Gq g w cs.toList xs):VR g w (.agg cs) (.agg xs):=by
 refine .agg (by simpa using h.1) (fun i hi=>?_) fun i hi=>?_
 ·have:=(h.2 i hi).1
  simp_all
 have:=(h.2 i hi).2
 simp_all
section
variable {H α:Type}{enc:TypeId×Value→H}{P:Program}{W:World}{base:Nat}{spare:Nat→Bool}{held:Bool}{t e:TypeId}{n:Nat}
def Cc (enc:TypeId×Value→H)(P:Program)(W:World)(base:Nat)(spare:Nat→Bool)(held:Bool)(t:TypeId)(f:α→V)(R:α→DataW H→Prop)(n:Nat):Prop:=
 ∀cs x,DataW.trod enc P W base spare held n t cs=some x→∃a,Gq (g0 W) W cs (f a).cells∧R a x.1
def QH {k:IntKind}(ht:P.underlying t=some (.int k)):Cc enc P W base spare held t (V.int k) (fun a d=>d= .lit (.int k a)) n:=by
 intro cs x h;obtain⟨a,rfl,rfl,_⟩:=DataW.trod_int ht h;exact⟨a,.one rfl (.int _ _),rfl⟩
def KR (ht:P.underlying t=some .bool):Cc enc P W base spare held t V.bool (fun a d=>d= .lit (.bool a)) n:=by
 intro cs x h;obtain⟨a,rfl,rfl⟩:=DataW.trod_bool ht h;exact⟨a,.one rfl (.bool _),rfl⟩
def Ay5 (ht:P.underlying t=some .string):Cc enc P W base spare held t V.str (fun a d=>d= .lit (.string a.data.toList)∧a.size≤maxLen) n:=by
 intro cs x h;obtain⟨a,rfl,rfl,hl⟩:=DataW.trod_string ht h;exact⟨a,.one rfl (.str _),rfl,hl⟩
def RL (R:α→DataW H→Prop)(l:List α)(ds:List (DataW H)):Prop:=l.length=ds.length∧∀(i:Nat) a d,l[i]? =some a→ds[i]? =some d→R a d
def RS (R:α→DataW H→Prop)(l:List α)(d:DataW H):Prop:=l.length≤maxLen∧((d= .nil∧l=[])∨∃es sp,d= .slice es sp∧RL R l es)
def JA {f:α→V} {R:α→DataW H→Prop} (ht:P.underlying t=some (.slice e)) (hc:0<P.cellsOf e) (he:Cc enc P W base spare held e f R n):
 Cc enc P W base spare held t (fun l:List α=>.sl (l.map f) .ro) (RS R) (n+1):=by
 intro cs x h
 rcases DataW.trod_slice ht h with⟨rfl,rfl⟩|⟨a,len,cap,elems,rest,n',hn,rfl,rfl,hb,hl,hm,hlen,hel,hsp,hns⟩
 ·exact⟨[],.one rfl (.sl0 rfl),Dm _,.inl ⟨rfl,rfl⟩⟩
 have hn':n'=n:=by omega
 subst hn'
 rcases LV len with h0|h0
 ·subst h0;have:elems=[]:=List.length_eq_zero_iff.1 hlen;subst this;exact⟨[],.one rfl (.sle (.inl rfl)),Dm _,.inr ⟨_,_,rfl,rfl,fun i a d hi=>by simp at hi⟩⟩
 have one:∀i,i<len→∃cs' y b,W.cells? base (a.add (i*P.cellsOf e)) (P.cellsOf e)=some cs'∧elems[i]? =some y∧Gq (g0 W) W cs' (f b).cells∧R b y.1:=by
  grind[Option.bind_eq_some_iff,Cc]
 obtain⟨_,_,b0,_⟩:=one 0 h0
 haveI:Inhabited α:=⟨b0⟩
 obtain⟨A,hA⟩:=Deep.choose_lt (α:=α) (p:=fun i b=>∃cs' y,W.cells? base (a.add (i*P.cellsOf e)) (P.cellsOf e)=some cs'∧elems[i]? =some y∧Gq (g0 W) W cs' (f b).cells∧R b y.1)
  (fun i hi=>let⟨cs',y,b,h1,h2,h3,h4⟩:=one i hi;⟨b,cs',y,h1,h2,h3,h4⟩)
 have hspot:a.spot=none:=by
  obtain⟨cs',y,h1,_,_,_⟩:=hA 0 h0;obtain⟨_,hcl,hcell⟩:=LT h1;have h2:=hcell 0 hc
  have e0:(a.add (0*P.cellsOf e)).add 0=a:=by simp[Addr.add]
  rw[e0]at h2
  have h3:cs'[0]? =some (cs'[0]'(by omega)):=by grind
  rw[h3]at h2
  unfold World.cell? at h2
  split at h2
  ·simp_all
  cases h2
 obtain⟨b,o,s⟩:=a
 simp only at hspot
 subst hspot
 let l:=(List.range len).map A
 have hll:l.length=len:=by simp[l]
 have hg:∀i,i<len→(l.map f).getD i .bad=f (A i):=fun i hi=>by grind
 have cell:∀i j,i<len→j<P.cellsOf e→∃v,W.cell? ⟨b,o+i*P.cellsOf e+j,none⟩=some v∧v.oneCell'=true∧VR (g0 W) W v ((f (A i)).cells.getD j .bad):=by
  intro i j hi hj;obtain⟨cs',y,h1,_,hr,_⟩:=hA i hi;obtain⟨_,hcl,hcell⟩:=LT h1;have h2:=hcell j hj
  rw[BA,BA]at h2
  have h3:cs'[j]? =some (cs'.getD j undef):=by simp_all
  rw[h3]at h2
  have:=hr.2 j (by rw[←hr.1,hcl];exact hj)
  simp_all
 refine⟨l,.one rfl ?_,by omega,.inr ⟨_,_,rfl,by simp_all,fun i a' d hi hd=>?_⟩⟩
 ·have hz:∀i,i<len→((l.map f).getD i .bad).cells.length=P.cellsOf e:=fun i hi=>by
   obtain⟨cs',y,h1,_,hr,_⟩:=hA i hi;obtain⟨_,hcl,_⟩:=LT h1;rw[hg i hi,←hr.1,hcl]
  refine .sl (sz:=P.cellsOf e) (fun i j=>(W.cell? ⟨b,o+i*P.cellsOf e+j,none⟩).getD undef) (by simp[hll]) hl hz (fun i j hi hj=>?_) (fun i j hi hj=>?_) (fun i j hi hj=>?_) (fun i j hi hj=>?_) trivial
  ·grind[g0]
  ·grind
  ·grind
  grind
 grind
def Ak7 {fs:Array Field} {xs:List (DataW H×List MemPlace)} {cs:List Value} {n:Nat} (hl:xs.length=fs.size)
 (hf:∀(i:Nat) (f:Field),fs[i]? =some f→DataW.trod enc P W base spare held n f.type ((cs.drop f.offset).take (P.cellsOf f.type))=xs[i]?) (i:Nat) {f:Field} (h:fs[i]? =some f):
 ∃y,xs[i]? =some y∧DataW.trod enc P W base spare held n f.type ((cs.drop f.offset).take (P.cellsOf f.type))=some y:=by
 have hi:i<fs.size:=by
  grind
 have h1:xs[i]? =some (xs[i]'(by omega)):=by grind
 grind
end
end Go.Ab
namespace Go.Ab
noncomputable instance arInst :Ar where
 cmp:=Pi
 cmp_eq:=fun _ _ _=>rfl
 ar:=arI
 ar_eq:=fun _ _ _ _=>rfl
 sh:=shI
 sh_eq:=fun _ _ _ _=>rfl
 neg:=fun k n=>k.wrap (0-n)
 neg_eq:=fun _ _=>rfl
 wr:=fun k n=>k.wrap n
 wr_eq:=fun _ _=>rfl
 scmp:=Bh8
 scmp_eq:=fun _ _ _=>rfl
 cat:=fun a b=>a++b
 cat_eq:=fun _ _=>rfl
 slen:=fun s=>s.size
 slen_eq:=fun _=>rfl
 sat:=fun s i=>match s[i.toNat]? with|some b=>(b.toNat:Int)|none=>0
 sat_eq:=fun _ _=>rfl
 beq:=fun a b=>a==b
 beq_eq:=fun _ _=>rfl
 nt:=fun a=> !a
 nt_eq:=fun _=>rfl
 an:=fun a b=>a&&b
 an_eq:=fun _ _=>rfl
 or:=fun a b=>a||b
 or_eq:=fun _ _=>rfl
 pk:=fun c a b=>if c then a else b
 pk_eq:=fun _ _ _=>rfl
 mx:=fun a b=>if a<b then b else a
 mx_eq:=fun _ _=>rfl
 mn:=fun a b=>if b<a then b else a
 mn_eq:=fun _ _=>rfl
 ofs:=fun a b=>a+b
 ofs_eq:=fun _ _=>rfl
 ofN:=fun n=>n
 ofN_eq:=fun _=>rfl
 len:=fun l=>l.length
 len_eq:=fun _=>rfl
 lst:=fun f l=>l.map f
 lst_eq:=fun _ _=>rfl
def D6 (a b:Int):Ar.cmp .lss a b=decide (a<b):=rfl
def Bv (a b:Int):Ar.cmp .leq a b=decide (a≤b):=rfl
def Bw (a b:Int):Ar.cmp .gtr a b=decide (b<a):=rfl
def O7 (a b:Int):Ar.cmp .geq a b=decide (b≤a):=rfl
def D7 (a b:Int):Ar.cmp .eql a b=decide (a=b):=rfl
def L9 (a b:Int):Ar.cmp .neq a b= !decide (a=b):=rfl
def P7 (a:Bool):Ar.nt a= !a:=rfl
def K5 (a b:Bool):Ar.an a b=(a&&b):=rfl
def N8 (a b:Bool):Ar.or a b=(a||b):=rfl
def B0 {α:Type}(l:List α):Ar.len l=(l.length:Int):=rfl
def KU (a b:Int):Ar.mx a b=if a<b then b else a:=rfl
def YD (s:ByteArray):Ar.slen s=(s.size:Int):=rfl
def AX {n:Int} (h0: -9223372036854775808≤n) (h1:n<9223372036854775808):IntKind.wrap .i64 n=n:=by
 have e:IntKind.wrap .i64 n=(if n % 18446744073709551616≥9223372036854775808 then n % 18446744073709551616-18446744073709551616 else n % 18446744073709551616):=by
  unfold IntKind.wrap;simp[IntKind.bits,IntKind.signed]
 rw[e]
 split<;>omega
def D0 {a b:Int}(h0: -9223372036854775808≤a+b)(h1:a+b<9223372036854775808):Ar.ar .add .i64 a b=a+b:=AX h0 h1
def ZH {S σ R α:Type} (l:List α) (hl:l.length<1000000000000) (step:S→Option (S⊕R)) (mk:σ→Int→S) (body:σ→α→Option (σ⊕R)) (fin:σ→R)
 (hstep:∀s (i:Nat) x,l[i]? =some x→step (mk s i)=(body s x).bind fun o=>match o with| .inl s'=>some (.inl (mk s' (i+1)))| .inr r=>some (.inr r))
 (hend:∀s,step (mk s l.length)=some (.inr (fin s))):
 ∀(k:Nat) (i:Nat) (s:σ) (N:Nat),i+k=l.length→k<N→loopN step N (mk s i)=(L6 body (l.drop i) s).bind fun o=>match o with| .inl s=>some (fin s)| .inr r=>some r:=by
 intro k
 induction k with
 |zero=>
  intro i s N hi hN;obtain⟨N,rfl⟩:∃M,N=M+1:=⟨N-1,by omega⟩;have e:l.drop i=[]:=Dg (by omega)
  have ei:((i:Nat):Int)=l.length:=by omega
  rw[e,ei]
  grind[loopN,L6]
 | succ k ih=>
  intro i s N hi hN;obtain⟨N,rfl⟩:∃M,N=M+1:=⟨N-1,by omega⟩
  have hlt:i<l.length:=by omega
  have hx:l[i]? =some l[i]:=by simp[hlt]
  have e:l.drop i=l[i]::l.drop (i+1):=O4 hlt;rw[e];simp only[loopN,hstep s i _ hx,L6]
  cases hb:body s l[i]with
  |none=>rfl
  | some o=>
   cases o with
   |inl s'=>
    simp only[A3];have:=ih (i+1) s' N (by omega) (by omega);rw[show((i:Int)+1)=((i+1:Nat):Int) by omega];exact this
   |inr r=>rfl
def E1 {α:Type}{l:List α}{i:Nat}:B9 l (i:Int)=l[i]? :=by simp[B9]
def Xo {β S σ R α:Type} (l:List α) (step:S→Option (List β×(S⊕R))) (mk:σ→Int→S) (body:σ→α→Option (List β×(σ⊕R))) (fin:σ→R)
 (hstep:∀s (i:Nat) x,l[i]? =some x→step (mk s i)=(body s x).bind fun o=>match o with|(w,.inl s')=>some (w,.inl (mk s' (i+1)))|(w,.inr r)=>some (w,.inr r))
 (hend:∀s,step (mk s l.length)=some ([],.inr (fin s))):
 ∀(k:Nat) (i:Nat) (s:σ) (N:Nat),i+k=l.length→k<N→DA step N (mk s i)=(Ax body (l.drop i) s).bind fun o=>match o with|(w,.inl s)=>some (w,fin s)|(w,.inr r)=>some (w,r):=by
 intro k
 induction k with
 |zero=>
  intro i s N hi hN;obtain⟨N,rfl⟩:∃M,N=M+1:=⟨N-1,by omega⟩;have e:l.drop i=[]:=Dg (by omega)
  have ei:((i:Nat):Int)=l.length:=by omega
  rw[e,ei]
  grind[DA,Ax]
 | succ k ih=>
  intro i s N hi hN;obtain⟨N,rfl⟩:∃M,N=M+1:=⟨N-1,by omega⟩
  have hlt:i<l.length:=by omega
  have hx:l[i]? =some l[i]:=by simp[hlt]
  have e:l.drop i=l[i]::l.drop (i+1):=O4 hlt;rw[e];simp only[DA,hstep s i _ hx,Ax]
  cases hb:body s l[i]with
  |none=>rfl
  | some o=>
   obtain⟨w,o⟩:=o
   cases o with
   |inl s'=>
    simp only[A3];have:=ih (i+1) s' N (by omega) (by omega);rw[show((i:Int)+1)=((i+1:Nat):Int) by omega,this]
    grind
   |inr r=>rfl
def L5 {S σ R α:Type} (l:List α) (hl:l.length<1000000000000) {step:S→Option (S⊕R)} (mk:σ→Int→S) (body:σ→α→Option (σ⊕R)) (fin:σ→R) (s:σ) {N:Nat} (hN:l.length<N)
 (hstep:∀s (i:Nat) x,l[i]? =some x→(i:Int)<l.length→step (mk s i)=(body s x).bind fun o=>match o with| .inl s'=>some (.inl (mk s' (i+1)))| .inr r=>some (.inr r))
 (hend:∀s,step (mk s l.length)=some (.inr (fin s))):loopN step N (mk s 0)=(L6 body l s).bind fun o=>match o with| .inl s=>some (fin s)| .inr r=>some r:=by
 have:=ZH l hl step mk body fin (fun s i x h=>hstep s i x h (by
  grind)) hend l.length 0 s N (by omega) hN
 simp_all
def Aj1 {β S σ R α:Type} (l:List α) {step:S→Option (List β×(S⊕R))} (mk:σ→Int→S) (body:σ→α→Option (List β×(σ⊕R))) (fin:σ→R) (s:σ) {N:Nat} (hN:l.length<N)
 (hstep:∀s (i:Nat) x,l[i]? =some x→(i:Int)<l.length→step (mk s i)=(body s x).bind fun o=>match o with|(w,.inl s')=>some (w,.inl (mk s' (i+1)))|(w,.inr r)=>some (w,.inr r))
 (hend:∀s,step (mk s l.length)=some ([],.inr (fin s))):DA step N (mk s 0)=(Ax body l s).bind fun o=>match o with|(w,.inl s)=>some (w,fin s)|(w,.inr r)=>some (w,r):=by
 have:=Xo l step mk body fin (fun s i x h=>hstep s i x h (by
  grind)) hend l.length 0 s N (by omega) hN
 simp_all
def DL {α σ R:Type} {step:σ→α→Option (σ⊕R)} (I:List α→σ→Prop) (hs:∀x r s,I (x::r) s→∃s',step s x=some (.inl s')∧I r s'):∀{l:List α} {s:σ},I l s→∃s',L6 step l s=some (.inl s')∧I [] s'
 |[],s,h=>⟨s,rfl,h⟩
 |x::l,s,h=>by
  obtain⟨s',h1,h2⟩:=hs x l s h;obtain⟨s2,h3,h4⟩:=DL I hs h2
  simp_all[L6]
def TA {α β σ R:Type} {step:σ→α→Option (List β×(σ⊕R))} (I:List α→List β→σ→Prop) (hs:∀x r w s,I (x::r) w s→∃w' s',step s x=some (w',.inl s')∧I r (w++w') s'):
 ∀{l:List α} {w:List β} {s:σ},I l w s→∃w' s',Ax step l s=some (w',.inl s')∧I [] (w++w') s'
 |[],w,s,h=>⟨[],s,rfl,by grind⟩
 |x::l,w,s,h=>by
  obtain⟨w1,s1,h1,h2⟩:=hs x l w s h;obtain⟨w2,s2,h3,h4⟩:=TA I hs h2
  grind[Ax]
def AD {α:Type}(f:α→Int):List α→Int
 |[]=>0
 |x::l=>if f x=0 then AD f l else f x
def CJ {α:Type} {f:α→Int}:∀{l:List α},AD f l=0↔∀x∈l,f x=0
 |[]=>by simp[AD]
 |x::l=>by
  unfold AD
  split
  ·rename_i h;rw[CJ];simp[h]
  simp_all
def Sa {α:Type} {f:α→Int}:∀{l m:List α},AD f (l++m)=if AD f l=0 then AD f m else AD f l
 |[],m=>by simp[AD]
 |x::l,m=>by
  simp only[Y8,AD]
  split
  ·rw[Sa]
  omega
def VJ {α:Type} {F:α→Option Int} {f:α→Int}:∀{l:List α},(∀x∈l,F x=some (f x))→
 L6 (fun(_:Unit) x=>(F x).bind fun r=>if Ar.cmp .neq r 0=true then some (Sum.inr r)else some (.inl ())) l ()=some (if AD f l=0 then .inl ()else .inr (AD f l))
 |[],_=>rfl
 |x::l,h=>by
  have h1:=VJ (l:=l) fun y hy=>h y (by simp[hy]);unfold L6;simp only[h x (by simp),A3,L9,AD]
  by_cases hz:f x=0
  ·simp_all[L9]
  simp[hz]
noncomputable def BQ {α:Type}(F:α→Option Int)(_:Unit)(a:α):Option (Unit⊕(Unit⊕Int)):=(F a).bind fun r=>if Ar.cmp .neq r 0=true then some (.inr (.inr r))else some (.inl ())
def AN {α:Type} {F:α→Option Int} {f:α→Int}:∀{l:List α},(∀x∈l,F x=some (f x))→L6 (BQ F) l ()=some (if AD f l=0 then .inl ()else .inr (.inr (AD f l)))
 |[],_=>rfl
 |x::l,h=>by
  have h1:=AN (l:=l) fun y hy=>h y (by simp[hy]);unfold L6 BQ;simp only[h x (by simp),A3,L9,AD]
  by_cases hz:f x=0
  ·simp only[hz,G6,AU,J2,G0,D2];exact h1
  simp[hz]
end Go.Ab
namespace Go.Ab
open Go.RowKit Go.ChangeShapes Go.WideShapes
variable [O6]
section
variable {H α:Type}{enc:TypeId×Value→H}{P:Program}{W:World}{base:Nat}{spare:Nat→Bool}{held:Bool}{t e:TypeId}{n:Nat}
def VF {cs:List Value} {sz:Nat} {f:α→V}:∀(l:List α) (o:Nat),(∀(i:Nat) a,l[i]? =some a→Gq (g0 W) W ((cs.drop (o+i*sz)).take sz) (f a).cells)→Gq (g0 W) W ((cs.drop o).take (l.length*sz)) (l.flatMap fun a=>(f a).cells)
 |[],o,_=>by simp;exact .nil _ _
 | a::l,o,h=>by
  have h0:=h 0 a rfl
  rw[Nat.zero_mul,AT]at h0
  have h1:=VF l (o+sz) fun i b hi=>by
   have:=h (i+1) b (by grind)
   rwa[show o+(i+1)*sz=o+sz+i*sz by rw[E2];omega]at this
  have:=h0.join h1;rw[G7,W3,show(l.length+1)*sz=sz+l.length*sz by rw[E2];omega];exact this
def Zs {f:α→V} {R:α→DataW H→Prop} {m:Nat} (ht:P.underlying t=some (.array m e)) (hct:P.cellsOf t=m*P.cellsOf e) (hm:0<m) (he:∀n,Cc enc P W base spare held e f R n) {cs:List Value} {x:DataW H×List MemPlace}
 (h:DataW.trod enc P W base spare held n t cs=some x):∃l:List α,Gq (g0 W) W cs (l.flatMap fun a=>(f a).cells)∧∃ds,x.1= .agg ds∧RL R l ds:=by
 cases n with
 |zero=>simp[DataW.trod]at h
 | succ n=>
  simp only[DataW.trod,ht]at h
  split at h
  ·rename_i hl;obtain⟨xs,hmm,rfl⟩:=Option.map_eq_some_iff.1 h
   have hxl:xs.length=m:=by simpa using mapM_some_length hmm
   have one:∀i,i<m→∃b,Gq (g0 W) W ((cs.drop (i*P.cellsOf e)).take (P.cellsOf e)) (f b).cells∧∀y,xs[i]? =some y→R b y.1:=by
    intro i hi;have h1:=mapM_some_get hmm i i (by simp[hi])
    have h2:xs[i]? =some (xs[i]'(by omega)):=by grind
    rw[h2]at h1
    obtain⟨b,hr,hR⟩:=he n _ _ h1
    grind
   obtain⟨b0,_⟩:=one 0 hm
   haveI:Inhabited α:=⟨b0⟩
   obtain⟨A,hA⟩:=Deep.choose_lt one
   have hat:∀(i:Nat) a,((List.range m).map A)[i]? =some a→i<m∧a=A i:=fun i a hi=>by
    grind
   refine⟨(List.range m).map A,?_,_,rfl,by simp[hxl],fun i a d hi hd=>?_⟩
   ·have:=VF (cs:=cs) (sz:=P.cellsOf e) (f:=f) (W:=W) ((List.range m).map A) 0 (fun i a hi=>by
     grind)
    grind
   grind
  cases h
def ZR {g:Nat} {cs:Array Value} {xs:List V} {name:String} (hg:P.globalNamed name=some g) (hv:W.var? P name=some cs) (hr:Gq (g0 W) W cs.toList xs):VR (g0 W) W (.pointer (some ⟨g,0,none⟩)) (.eref xs 0):=by
 have cell:∀j,j<xs.length→W.cell? ⟨g,0+j,none⟩=some (cs.toList.getD j undef):=fun j hj=>by
  have h1:=World.var?_cell hg hv j
  have h2:j<cs.size:=by have:=hr.1;simp_all
  rw[J7,h1]
  simp_all
 exact .eref (g:=g0 W) (o:=0) (off:=0) (fun j=>cs.toList.getD j undef) (fun j hj=>(⟨_,cell j hj⟩:∃v,W.cell? ⟨g,0+j,none⟩=some v)) (fun j hj=>cell j hj) (fun j hj=>(hr.2 j hj).1) fun j hj=>(hr.2 j hj).2
end
section
variable {H:Type}{enc:TypeId×Value→H}{P:Program}{W:World}{base:Nat}{spare:Nat→Bool}{held:Bool}{t e:TypeId}{n:Nat}
end
end Go.Ab
namespace Go.Ab
mutual
def B5.bulk:B5→Nat
 |⟨_,args,_,_,_,v⟩=>B5.bulks args+v.Text.size+9
def B5.bulks:List B5→Nat
 |[]=>1
 |a::r=>B5.bulk a+B5.bulks r
end
mutual
def A2.bulk:A2→Nat
 |⟨_,args,_,_,_,_,c⟩=>A2.bulks args+B5.bulk c+6
def A2.bulks:List A2→Nat
 |[]=>1
 |a::r=>A2.bulk a+A2.bulks r
end
mutual
def A4.bulk:A4→Nat
 |⟨_,_,ks⟩=>A4.bulks ks+6
def A4.bulks:List A4→Nat
 |[]=>1
 |a::r=>A4.bulk a+A4.bulks r
end
mutual
def B5.pre:B5→List B5
 |⟨op,args,var,field,kind,val⟩=>⟨op,args,var,field,kind,val⟩::B5.pres args
def B5.pres:List B5→List B5
 |[]=>[]
 |a::r=>B5.pre a++B5.pres r
end
mutual
def B5.dep:B5→Nat
 |⟨_,args,_,_,_,_⟩=>B5.deps args+1
def B5.deps:List B5→Nat
 |[]=>0
 |a::r=>max (B5.dep a) (B5.deps r)
end
mutual
def A2.pre:A2→List A2
 |⟨op,args,typ,var,scope,span,c⟩=>⟨op,args,typ,var,scope,span,c⟩::A2.pres args
def A2.pres:List A2→List A2
 |[]=>[]
 |a::r=>A2.pre a++A2.pres r
end
mutual
def A2.dep:A2→Nat
 |⟨_,args,_,_,_,_,_⟩=>A2.deps args+1
def A2.deps:List A2→Nat
 |[]=>0
 |a::r=>max (A2.dep a) (A2.deps r)
end
def B5.pre_eq (x:B5):x.pre=x::B5.pres x.cQ:=by cases x;simp[B5.pre]
def A2.pre_eq (x:A2):x.pre=x::A2.pres x.cQ:=by cases x;simp[A2.pre]
def B5.dep_eq (x:B5):x.dep=B5.deps x.cQ+1:=by cases x;simp[B5.dep]
def A2.dep_eq (x:A2):x.dep=A2.deps x.cQ+1:=by cases x;simp[A2.dep]
def B5.bulk_eq (x:B5):x.bulk=B5.bulks x.cQ+x.Value.Text.size+9:=by cases x;simp[B5.bulk]
def A2.bulk_eq (x:A2):x.bulk=A2.bulks x.cQ+x.cR.bulk+6:=by cases x;simp[A2.bulk]
def SN:∀(l:List B5),(∀a∈l,B5.bulk a≤B5.bulks l)∧l.length≤B5.bulks l
 |[]=>⟨fun a h=>by simp at h,by simp_all⟩
 |b::l=>by
  have h:=SN l;have hb:=B5.bulk_eq b
  grind[B5.bulks]
def SM:∀(l:List A2),(∀a∈l,A2.bulk a≤A2.bulks l)∧l.length≤A2.bulks l
 |[]=>⟨fun a h=>by simp at h,by simp_all⟩
 |b::l=>by
  have h:=SM l;have hb:=A2.bulk_eq b
  grind[A2.bulks]
mutual
def Ai0:∀x:B5,x.pre.length≤x.bulk
 |⟨op,args,var,field,kind,val⟩=>by
  have:=Jy args
  grind[B5.pre,B5.bulk]
def Jy:∀l:List B5,(B5.pres l).length≤B5.bulks l
 |[]=>by simp[B5.pres]
 |a::l=>by
  have h1:=Ai0 a;have h2:=Jy l
  grind[B5.pres,B5.bulks]
end
mutual
def FX:∀x:A2,x.pre.length≤x.bulk
 |⟨op,args,typ,var,scope,span,c⟩=>by
  have:=Jx args
  grind[A2.pre,A2.bulk]
def Jx:∀l:List A2,(A2.pres l).length≤A2.bulks l
 |[]=>by simp[A2.pres]
 |a::l=>by
  have h1:=FX a;have h2:=Jx l
  grind[A2.pres,A2.bulks]
end
mutual
def Pg:∀x:B5,x.dep≤x.bulk
 |⟨op,args,var,field,kind,val⟩=>by
  have:=JO args
  grind[B5.dep,B5.bulk]
def JO:∀l:List B5,B5.deps l≤B5.bulks l
 |[]=>by simp[B5.deps]
 |a::l=>by
  have h1:=Pg a;have h2:=JO l
  grind[B5.deps,B5.bulks]
end
mutual
def Al6:∀x:A2,x.dep≤x.bulk
 |⟨op,args,typ,var,scope,span,c⟩=>by
  have:=JN args
  grind[A2.dep,A2.bulk]
def JN:∀l:List A2,A2.deps l≤A2.bulks l
 |[]=>by simp[A2.deps]
 |a::l=>by
  have h1:=Al6 a;have h2:=JN l
  grind[A2.deps,A2.bulks]
end
def Cut (lim:Int)(cnt:Nat)(r:Int):Prop:=1≤r∧r≤cnt∧(r=cnt∨lim<r)
section
variable {α:Type}
def MB {lim:Int} {f:α→Option Int} {cnt:α→Nat} {B:Nat} (hB:B≤1000000000000):∀(l:List α) (s:Int),0≤s→s+(l.map cnt).sum≤B→(∀a∈l,∃r,f a=some r∧Cut lim (cnt a) r)→
 ∃o,L6 (fun(s:Int) x=>if s≤lim then(f x).bind fun r=>some (.inl (Ar.ar .add .i64 s r))else some (.inr s)) l s=some o∧
  ∃v,v=(match o with| .inl s=>s| .inr s=>s)∧s≤v∧v≤s+(l.map cnt).sum∧(v=s+(l.map cnt).sum∨lim<v)
 |[],s,h0,_,_=>⟨.inl s,rfl,s,rfl,Ch _,by simp,.inl (by simp)⟩
 | a::l,s,h0,hb,hf=>by
  simp only[D9,IM]at hb ⊢
  unfold L6
  by_cases hs:s≤lim
  ·obtain⟨r,h1,h2,h3,h4⟩:=hf a (by simp);simp only[A1 hs,h1,A3];have e:Ar.ar .add .i64 s r=s+r:=D0 (by omega) (by omega);rw[e];obtain⟨o,k1,v,k2,k3,k4,k5⟩:=MB hB l (s+r) (by omega) (by omega) fun b hb=>hf b (by simp[hb])
   grind
  simp only[A0 hs]
  grind
end
def Oq:∀l:List A2,(l.map fun a=>a.pre.length).sum=(A2.pres l).length
 |[]=>rfl
 |a::l=>by simp[A2.pres,Oq l]
def Ot:∀l:List B5,(l.map fun a=>a.pre.length).sum=(B5.pres l).length
 |[]=>rfl
 |a::l=>by simp[B5.pres,Ot l]
def Ys {N:Nat} (hN:Bgn N) (lim:Int):∀(n:Nat) (x:A2),x.bulk≤n→x.bulk≤16777216→∃r,Bp N n x lim=some r∧Cut lim x.pre.length r:=by
 intro n
 induction n with
 |zero=>intro x h;have:=A2.bulk_eq x;omega
 | succ n ih=>
  intro x hx hb;have hxb:=A2.bulk_eq x;have hB:=SM x.cQ;have hpb:=Jx x.cQ;unfold Bp;rw[L5 x.cQ (by omega) (mk:=fun(s:Int) i=>(s,i)) (body:=fun(s:Int) a=>if s≤lim then(Bp N n a lim).bind fun r=>some (.inl (Ar.ar .add .i64 s r))else some (.inr s)) (fin:=fun s=>s) (s:=1) (by omega) ?_ ?_]
  ·obtain⟨o,k1,v,k2,k3,k4,k5⟩:=MB (lim:=lim) (f:=fun a=>Bp N n a lim) (cnt:=fun a=>a.pre.length) (B:=40000000) (by omega) x.cQ 1 (by omega) (by rw[Oq];omega) fun a ha=>ih a (by have:=hB.1 a ha;omega) (by have:=hB.1 a ha;omega)
   rw[Oq]at k4 k5
   have hpe:x.pre.length=(A2.pres x.cQ).length+1:=by rw[A2.pre_eq];rfl
   simp only[k1,A3];refine⟨v,?_,by omega,by omega,?_⟩
   ·cases o<;>simp_all
   omega
  ·intro s i a ha hi;have e:Ar.ar .add .i64 (i:Int) 1=i+1:=D0 (by omega) (by omega);simp only[D6,Bv,K5,B0,hi,G6,EJ,E1,ha,A3,e,G1]
   grind
  intro s;simp[D6,K5,B0]
end Go.Ab
namespace Go.Ab
def PV {x a:A2}(h:a∈x.cQ):a.bulk<x.bulk:=by
 have h1:=(SM x.cQ).1 a h;have h2:=A2.bulk_eq x;omega
def BL {x a:B5}(h:a∈x.cQ):a.bulk<x.bulk:=by
 have h1:=(SN x.cQ).1 a h;have h2:=B5.bulk_eq x;omega
def PW (x:A2):x.cQ.length≤x.bulk:=by
 have h1:=(SM x.cQ).2;have h2:=A2.bulk_eq x;omega
def Im (x:B5):x.cQ.length≤x.bulk:=by
 have h1:=(SN x.cQ).2;have h2:=B5.bulk_eq x;omega
def Ql (x:A2):0<x.bulk:=by have:=A2.bulk_eq x;omega
def Gk (x:B5):0<x.bulk:=by have:=B5.bulk_eq x;omega
def Ab1 {N:Nat} (hN:Bgn N):∀(n:Nat) (x:A2),x.bulk≤n→x.bulk≤16777216→AL N n x=some (x.dep:Int):=by
 intro n
 induction n with
 |zero=>intro x h;have:=Ql x;omega
 | succ n ih=>
  intro x hx hb;have hl:=PW x;unfold AL;rw[L5 x.cQ (by omega) (mk:=fun(s:Int) i=>(s,i)) (body:=fun(s:Int) a=>(AL N n a).bind fun r=>some (.inl (Ar.mx s r))) (fin:=fun s=>s) (s:=0) (by omega) ?_ ?_]
  ·obtain⟨s',k1,k2⟩:=DL (R:=Int) (step:=fun(s:Int) a=>(AL N n a).bind fun r=>some (.inl (Ar.mx s r))) (fun r s=>(∀a∈r,a∈x.cQ)∧0≤s∧max s (A2.deps r:Int)=(A2.deps x.cQ:Int)) (fun a r s ⟨h1,h2,h3⟩=>by
    have hm:=PV (h1 a (by simp));refine⟨_,by rw[ih a (by omega) (by omega)];rfl,fun b hb=>h1 b (by simp[hb]),?_,?_⟩
    ·rw[KU];split<;>omega
    rw[←h3,KU];grind[A2.deps]) (l:=x.cQ) (s:=0) ⟨fun a h=>h,Ch _,by omega⟩
   simp only[k1,A3]
   have e:s'=(A2.deps x.cQ:Int):=by have:=k2.2.2;grind[A2.deps]
   have hd:=JN x.cQ;have hd2:=A2.bulk_eq x;rw[e,D0 (by omega) (by omega),A2.dep_eq];rfl
  ·intro s i a ha hi;have e:Ar.ar .add .i64 (i:Int) 1=i+1:=D0 (by omega) (by omega);simp only[D6,B0,hi,G6,D2,E1,ha,A3,e];cases AL N n a<;>rfl
  intro s;simp[D6,B0]
def S1 {α:Type}{l m:List α}(h:l.length+m.length≤1073741824):P9 l m=some (l++m):=by simp[P9,h]
def TG {N:Nat} (hN:Bgn N):∀(n:Nat) (x:A2),x.bulk≤n→x.bulk≤16777216→AK N n x=some x.pre:=by
 intro n
 induction n with
 |zero=>intro x h;have:=Ql x;omega
 | succ n ih=>
  intro x hx hb;have hl:=PW x;unfold AK;rw[L5 x.cQ (by omega) (mk:=fun(s:List A2) i=>(s,i)) (body:=fun(s:List A2) a=>(AK N n a).bind fun r=>(P9 s r).bind fun l=>some (.inl l)) (fin:=fun s=>s) (s:=[x]) (by omega) ?_ ?_]
  ·have hp:=FX x;have hpe:=A2.pre_eq x
   obtain⟨s',k1,k2⟩:=DL (R:=List A2) (step:=fun(s:List A2) a=>(AK N n a).bind fun r=>(P9 s r).bind fun l=>some (.inl l)) (fun r s=>(∀a∈r,a∈x.cQ)∧s++A2.pres r=x.pre) (fun a r s ⟨h1,h2⟩=>by
    have hm:=PV (h1 a (by simp));have hlen:=I4 List.length h2
    simp only[A2.pres,G8]at hlen
    refine⟨_,by rw[ih a (by omega) (by omega)];simp only[A3];rw[S1 (by omega)];rfl,fun b hb=>h1 b (by simp[hb]),?_⟩
    rw[←h2];simp[A2.pres]) (l:=x.cQ) (s:=[x]) ⟨fun a h=>h,by rw[hpe];rfl⟩
   simp only[k1,A3];have:=k2.2
   simp only[A2.pres,G4]at this
   rw[this]
  ·intro s i a ha hi;have e:Ar.ar .add .i64 (i:Int) 1=i+1:=D0 (by omega) (by omega);simp only[D6,B0,hi,G6,D2,E1,ha,A3,e]
   grind
  intro s;simp[D6,B0]
def AS9 {N:Nat} (hN:Bgn N):∀(n:Nat) (x:A2),x.bulk≤n→x.bulk≤16777216→V8 N n x=some ((x.pre.length:Int),(x.dep:Int)):=by
 intro n
 induction n with
 |zero=>intro x h;have:=Ql x;omega
 | succ n ih=>
  intro x hx hb;have hl:=PW x;unfold V8;rw[L5 x.cQ (by omega) (mk:=fun(s:Int×Int) i=>(s.1,s.2,i)) (body:=fun(s:Int×Int) a=>(V8 N n a).bind fun r=>some (.inl (Ar.ar .add .i64 s.1 r.1,Ar.mx s.2 r.2))) (fin:=fun s=>s) (s:=(1,0)) (by omega) ?_ ?_]
  ·have hp:=Jx x.cQ;have hd:=JN x.cQ;have hbe:=A2.bulk_eq x
   obtain⟨s',k1,k2⟩:=DL (R:=Int×Int) (step:=fun(s:Int×Int) a=>(V8 N n a).bind fun r=>some (.inl (Ar.ar .add .i64 s.1 r.1,Ar.mx s.2 r.2))) (fun r s=>(∀a∈r,a∈x.cQ)∧0≤s.2∧0≤s.1∧s.1+(A2.pres r).length=(A2.pres x.cQ).length+1∧max s.2 (A2.deps r:Int)=(A2.deps x.cQ:Int)) (fun a r s ⟨h1,h2,h3,h4,h5⟩=>by
    have hm:=PV (h1 a (by simp))
    simp only[A2.pres,G8,A2.deps]at h4 h5
    refine⟨_,by rw[ih a (by omega) (by omega)];rfl,fun b hb=>h1 b (by simp[hb]),?_,?_,?_,?_⟩
    ·simp only[KU];split<;>omega
    ·rw[D0 (by omega) (by omega)];omega
    ·rw[D0 (by omega) (by omega)];omega
    rw[←h5];simp only[KU];split<;>omega) (l:=x.cQ) (s:=(1,0)) ⟨fun a h=>h,by simp,by simp,by omega,by omega⟩
   simp only[k1,A3];obtain⟨_,_,_,e1,e2⟩:=k2
   simp only[A2.pres,X1,A2.deps]at e1 e2
   have e3:s'.1=(x.pre.length:Int):=by rw[A2.pre_eq];simp_all
   have e4:s'.2=(A2.deps x.cQ:Int):=by omega
   rw[e3,e4,D0 (by omega) (by omega),A2.dep_eq];rfl
  ·intro s i a ha hi;have e:Ar.ar .add .i64 (i:Int) 1=i+1:=D0 (by omega) (by omega);simp only[D6,B0,hi,G6,D2,E1,ha,A3,e];cases V8 N n a<;>rfl
  intro s;simp[D6,B0]
def AS0 {N:Nat} (hN:Bgn N):∀(n:Nat) (x:A2),x.bulk≤n→x.bulk≤16777216→AI N n x=some x.pre:=by
 intro n
 induction n with
 |zero=>intro x h;have:=Ql x;omega
 | succ n ih=>
  intro x hx hb;have hl:=PW x;unfold AI;rw[Aj1 x.cQ (mk:=fun(_:Unit) i=>i) (body:=fun(_:Unit) a=>(AI N n a).bind fun l=>some (l,.inl ())) (fin:=fun _=>()) (s:=()) (by omega) ?_ ?_]
  ·obtain⟨w,s',k1,k2⟩:=TA (R:=Unit) (step:=fun(_:Unit) a=>(AI N n a).bind fun l=>some (l,.inl ())) (fun r w s=>(∀a∈r,a∈x.cQ)∧w++A2.pres r=A2.pres x.cQ) (fun a r w s ⟨h1,h2⟩=>by
    have hm:=PV (h1 a (by simp));refine⟨a.pre,(),by rw[ih a (by omega) (by omega)];rfl,fun b hb=>h1 b (by simp[hb]),?_⟩
    rw[←h2];simp[A2.pres]) (l:=x.cQ) (w:=[]) (s:=()) ⟨fun a h=>h,by simp⟩
   have e:w=A2.pres x.cQ:=by have:=k2.2;simp_all[A2.pres]
   rw[k1,e,A2.pre_eq];simp[W5]
  ·intro s i a ha hi;have e:Ar.ar .add .i64 (i:Int) 1=i+1:=D0 (by omega) (by omega);simp only[D6,B0,hi,G6,D2,E1,ha,A3,e];cases AI N n a<;>simp[W5]
  intro s;simp[D6,B0]
def Ab5 {N:Nat} (hN:Bgn N) (lim:Int):∀(n:Nat) (x:B5),x.bulk≤n→x.bulk≤16777216→∃r,Br N n x lim=some r∧Cut lim x.pre.length r:=by
 intro n
 induction n with
 |zero=>intro x h;have:=Gk x;omega
 | succ n ih=>
  intro x hx hb;have hxb:=B5.bulk_eq x;have hB:=SN x.cQ;have hpb:=Jy x.cQ;unfold Br;rw[L5 x.cQ (by omega) (mk:=fun(s:Int) i=>(s,i)) (body:=fun(s:Int) a=>if s≤lim then(Br N n a lim).bind fun r=>some (.inl (Ar.ar .add .i64 s r))else some (.inr s)) (fin:=fun s=>s) (s:=1) (by omega) ?_ ?_]
  ·obtain⟨o,k1,v,k2,k3,k4,k5⟩:=MB (lim:=lim) (f:=fun a=>Br N n a lim) (cnt:=fun a=>a.pre.length) (B:=40000000) (by omega) x.cQ 1 (by omega) (by rw[Ot];omega) fun a ha=>ih a (by have:=hB.1 a ha;omega) (by have:=hB.1 a ha;omega)
   rw[Ot]at k4 k5
   have hpe:x.pre.length=(B5.pres x.cQ).length+1:=by rw[B5.pre_eq];rfl
   simp only[k1,A3];refine⟨v,?_,by omega,by omega,?_⟩
   ·cases o<;>simp_all
   omega
  ·intro s i a ha hi;have e:Ar.ar .add .i64 (i:Int) 1=i+1:=D0 (by omega) (by omega);simp only[D6,Bv,K5,B0,hi,G6,EJ,E1,ha,A3,e,G1]
   grind
  intro s;simp[D6,K5,B0]
def Uv {N:Nat} (hN:Bgn N):∀(n:Nat) (x:B5),x.bulk≤n→x.bulk≤16777216→AM N n x=some (x.dep:Int):=by
 intro n
 induction n with
 |zero=>intro x h;have:=Gk x;omega
 | succ n ih=>
  intro x hx hb;have hl:=Im x;unfold AM;rw[L5 x.cQ (by omega) (mk:=fun(s:Int) i=>(s,i)) (body:=fun(s:Int) a=>(AM N n a).bind fun r=>some (.inl (Ar.mx s r))) (fin:=fun s=>s) (s:=0) (by omega) ?_ ?_]
  ·obtain⟨s',k1,k2⟩:=DL (R:=Int) (step:=fun(s:Int) a=>(AM N n a).bind fun r=>some (.inl (Ar.mx s r))) (fun r s=>(∀a∈r,a∈x.cQ)∧0≤s∧max s (B5.deps r:Int)=(B5.deps x.cQ:Int)) (fun a r s ⟨h1,h2,h3⟩=>by
    have hm:=BL (h1 a (by simp));refine⟨_,by rw[ih a (by omega) (by omega)];rfl,fun b hb=>h1 b (by simp[hb]),?_,?_⟩
    ·rw[KU];split<;>omega
    rw[←h3,KU];grind[B5.deps]) (l:=x.cQ) (s:=0) ⟨fun a h=>h,Ch _,by omega⟩
   simp only[k1,A3]
   have e:s'=(B5.deps x.cQ:Int):=by have:=k2.2.2;grind[B5.deps]
   have hd:=JO x.cQ;have hd2:=B5.bulk_eq x;rw[e,D0 (by omega) (by omega),B5.dep_eq];rfl
  ·intro s i a ha hi;have e:Ar.ar .add .i64 (i:Int) 1=i+1:=D0 (by omega) (by omega);simp only[D6,B0,hi,G6,D2,E1,ha,A3,e];cases AM N n a<;>rfl
  intro s;simp[D6,B0]
def Aw1 {N:Nat} (hN:Bgn N):∀(n:Nat) (x:B5),x.bulk≤n→x.bulk≤16777216→DR N n x=some ((x.pre.length:Int),(x.dep:Int)):=by
 intro n
 induction n with
 |zero=>intro x h;have:=Gk x;omega
 | succ n ih=>
  intro x hx hb;have hl:=Im x;unfold DR;rw[L5 x.cQ (by omega) (mk:=fun(s:Int×Int) i=>(s.1,s.2,i)) (body:=fun(s:Int×Int) a=>(DR N n a).bind fun r=>some (.inl (Ar.ar .add .i64 s.1 r.1,Ar.mx s.2 r.2))) (fin:=fun s=>s) (s:=(1,0)) (by omega) ?_ ?_]
  ·have hp:=Jy x.cQ;have hd:=JO x.cQ;have hbe:=B5.bulk_eq x
   obtain⟨s',k1,k2⟩:=DL (R:=Int×Int) (step:=fun(s:Int×Int) a=>(DR N n a).bind fun r=>some (.inl (Ar.ar .add .i64 s.1 r.1,Ar.mx s.2 r.2))) (fun r s=>(∀a∈r,a∈x.cQ)∧0≤s.2∧0≤s.1∧s.1+(B5.pres r).length=(B5.pres x.cQ).length+1∧max s.2 (B5.deps r:Int)=(B5.deps x.cQ:Int)) (fun a r s ⟨h1,h2,h3,h4,h5⟩=>by
    have hm:=BL (h1 a (by simp))
    simp only[B5.pres,G8,B5.deps]at h4 h5
    refine⟨_,by rw[ih a (by omega) (by omega)];rfl,fun b hb=>h1 b (by simp[hb]),?_,?_,?_,?_⟩
    ·simp only[KU];split<;>omega
    ·rw[D0 (by omega) (by omega)];omega
    ·rw[D0 (by omega) (by omega)];omega
    rw[←h5];simp only[KU];split<;>omega) (l:=x.cQ) (s:=(1,0)) ⟨fun a h=>h,by simp,by simp,by omega,by omega⟩
   simp only[k1,A3];obtain⟨_,_,_,e1,e2⟩:=k2
   simp only[B5.pres,X1,B5.deps]at e1 e2
   have e3:s'.1=(x.pre.length:Int):=by rw[B5.pre_eq];simp_all
   have e4:s'.2=(B5.deps x.cQ:Int):=by omega
   rw[e3,e4,D0 (by omega) (by omega),B5.dep_eq];rfl
  ·intro s i a ha hi;have e:Ar.ar .add .i64 (i:Int) 1=i+1:=D0 (by omega) (by omega);simp only[D6,B0,hi,G6,D2,E1,ha,A3,e];cases DR N n a<;>rfl
  intro s;simp[D6,B0]
def UM {f:B5→Int}:∀l:List B5,AD (fun a=>AD f a.pre) l=AD f (B5.pres l)
 |[]=>rfl
 |a::l=>by rw[B5.pres,Sa,AD,UM l]
def Yw {a y:B5} (hy:y∈a.pre):∀l:List B5,a∈l→y∈B5.pres l
 |[],h=>by simp at h
 |b::l,h=>by
  rcases List.mem_cons.1 h with rfl|h
  ·simp_all[B5.pres]
  simp[B5.pres,Yw hy l h]
def AE5 {N:Nat} (hN:Bgn N) {F:B5→Option Int} {f:B5→Int}:∀(n:Nat) (x:B5),x.bulk≤n→x.bulk≤16777216→(∀y∈x.pre,F y=some (f y))→EB N n x F=some (AD f x.pre):=by
 intro n
 induction n with
 |zero=>intro x h;have:=Gk x;omega
 | succ n ih=>
  intro x hx hb hF;have hl:=Im x;have hpe:=B5.pre_eq x;unfold EB;rw[hF x (by rw[hpe];simp)];simp only[A3,L9];rw[hpe,AD]
  by_cases hz:f x=0
  ·simp only[hz,G6,AU,J2,G0,D2];rw[L5 x.cQ (by omega) (mk:=fun(_:Unit) i=>i) (body:=BQ fun a=>EB N n a F) (fin:=fun _=>.inl ()) (s:=()) (by omega) ?_ ?_]
   ·rw[AN (f:=fun a=>AD f a.pre) fun a ha=>ih a (by have:=BL ha;omega) (by have:=BL ha;omega) fun y hy=>hF y (by rw[hpe];exact Dc _ (Yw hy _ ha)),UM]
    grind
   ·intro s i a ha hi;have e:Ar.ar .add .i64 (i:Int) 1=i+1:=D0 (by omega) (by omega);simp only[D6,B0,hi,G6,D2,E1,ha,A3,e,BQ,L9]
    grind
   intro s;simp[D6,B0]
  simp[hz]
def Ay9 {N:Nat} (hN:Bgn N) {f:B5→Int} (hF:∀y,Id N y=some (f y)):∀(n:Nat) (x:B5),x.bulk≤n→x.bulk≤16777216→Dx N n x=some (AD f x.pre):=by
 intro n
 induction n with
 |zero=>intro x h;have:=Gk x;omega
 | succ n ih=>
  intro x hx hb;have hl:=Im x;have hpe:=B5.pre_eq x;unfold Dx;rw[hF x];simp only[A3,L9];rw[hpe,AD]
  by_cases hz:f x=0
  ·simp only[hz,G6,AU,J2,G0,D2];rw[L5 x.cQ (by omega) (mk:=fun(_:Unit) i=>i) (body:=BQ fun a=>Dx N n a) (fin:=fun _=>.inl ()) (s:=()) (by omega) ?_ ?_]
   ·rw[AN (f:=fun a=>AD f a.pre) fun a ha=>ih a (by have:=BL ha;omega) (by have:=BL ha;omega),UM]
    grind
   ·intro s i a ha hi;have e:Ar.ar .add .i64 (i:Int) 1=i+1:=D0 (by omega) (by omega);simp only[D6,B0,hi,G6,D2,E1,ha,A3,e,BQ,L9]
    grind
   intro s;simp[D6,B0]
  simp[hz]
def SW {a b:ByteArray}:a.toList=b.toList↔a=b:=by
 rw[ByteArray.toList_eq,ByteArray.toList_eq]
 constructor
 ·intro h;obtain⟨⟨a⟩⟩:=a
  simp_all
 simp_all
def YQ (a b:ByteArray):Ar.scmp .neq a b= !decide (a=b):=by
 show(!(a.toList==b.toList))=_
 by_cases h:a=b
 ·grind
 have:a.toList≠b.toList:=fun e=>h (SW.1 e)
 grind
def GX (a b:ByteArray):Ar.scmp .eql a b=decide (a=b):=by
 show(a.toList==b.toList)=_
 by_cases h:a=b
 ·grind
 have:a.toList≠b.toList:=fun e=>h (SW.1 e)
 grind
def Bi1 (N:Nat)(op:Int):KZ N op=some (if op<0∨12<op then(0,false)else if op<5 then(0,true)else if op=12 then(1,true)else(2,true)):=by
 unfold KZ;simp only[D6,Bw,D7,N8,Y7,G1]
 grind
def Ba3 (N:Nat) (op:Int):Ju N op=some (if op<0∨12<op then -1 else if op<5 then 0 else if op=12 then 1 else 2):=by
 have h:op<0∨op=0∨op=1∨op=2∨op=3∨op=4∨op=5∨op=6∨op=7∨op=8∨op=9∨op=10∨op=11∨op=12∨12<op:=by omega
 unfold Ju;simp only[D7]
 rcases h with h|h|h|h|h|h|h|h|h|h|h|h|h|h|h
 all_goals first
  |(subst h;rfl)
  | (have h0:op≠0:=by omega
     have h1:op≠1:=by omega
     have h2:op≠2:=by omega
     have h3:op≠3:=by omega
     have h4:op≠4:=by omega
     have h5:op≠5:=by omega
     have h6:op≠6:=by omega
     have h7:op≠7:=by omega
     have h8:op≠8:=by omega
     have h9:op≠9:=by omega
     have ha:op≠10:=by omega
     have hb:op≠11:=by omega
     have hc:op≠12:=by omega
     simp[h0,h1,h2,h3,h4,h5,h6,h7,h8,h9,ha,hb,hc,h])
def Bk3 (N:Nat)(op:Int):NA N op=some (decide (op=1∨op=2∨op=3∨op=4),decide (op=1∨op=4)):=by
 unfold NA;simp only[D7,G1]
 grind
def Bf0 (N:Nat)(op:Int):KO N op=some (decide (op=1∨op=2∨op=3∨op=4),decide (op=1∨op=4)):=by
 unfold KO;simp only[D7,N8]
 by_cases h1:op=1
 ·simp[h1]
 by_cases h4:op=4
 ·simp[h4]
 simp_all
def O0 (v:A9):Int:=
 if v.Kind=0∨v.Kind=1 then
  if v.Text≠⟨#[]⟩then 3
  else if v.Kind=0∧(v.Num< -1099511627776∨1099511627776<v.Num)∨v.Kind=1∧v.Num≠0∧v.Num≠1 then 2 else 0
 else if v.Kind=2 then(if v.Num≠0 then 3 else if 64<(v.Text.size:Int)then 13 else 0)else 1
def Py (N:Nat) (v:A9):Bo N v=some (O0 v):=by
 obtain⟨k,n,t⟩:=v;unfold Bo KI O0;simp only[D7,L9,D6,Bw,K5,N8,YQ,YD]
 by_cases h0:k=0
 ·subst h0
  by_cases ht:t=⟨#[]⟩
  ·subst ht
   by_cases h1:n< -1099511627776∨1099511627776<n
   ·simp[h1]
   simp[h1];decide
  simp[ht]
 by_cases h1:k=1
 ·subst h1
  by_cases ht:t=⟨#[]⟩
  ·subst ht
   by_cases h2:n=0
   ·simp[h2];decide
   by_cases h3:n=1
   ·simp[h3];decide
   simp_all
  simp[ht]
 grind
def Ng (N:Nat)(v:A9):Cl N v=some (O0 v):=by
 obtain⟨k,n,t⟩:=v;unfold Cl O0;simp only[D7,L9,D6,Bw,K5,N8,YQ,YD]
 grind
def AF4 (N:Nat)(k:Int)(v:A9):KY N k v=some (decide (v.Kind=0∨k=4∨k=5)):=by
 unfold KY;simp only[D7,N8]
 by_cases h1:v.Kind=0<;>by_cases h2:k=4<;>by_cases h3:k=5<;>simp[h1,h2,h3]
def Av7 (N:Nat)(k:Int)(v:A9)(h:k≠0):Bs N k v=some (decide (v.Kind=0∨k=4∨k=5)):=by
 unfold Bs;simp only[D7,N8]
 by_cases h1:v.Kind=0<;>by_cases h2:k=4<;>by_cases h3:k=5<;>simp[h,h1,h2,h3]
def AE6 (op:Int):Bool:=decide (op=1∨op=2∨op=3∨op=4)
def AE7 (op:Int):Bool:=decide (op=1∨op=4)
noncomputable def Zp (x:B5):Bool:=Ar.or (Ar.an (AE6 x.Op) (Ar.or (Ar.cmp .lss x.Var 0) (Ar.cmp .geq x.Var 16))) (Ar.an (AE7 x.Op) (Ar.or (Ar.cmp .lss x.Field 0) (Ar.cmp .geq x.Field 8)))
noncomputable def Ua (x:B5):Bool:=Ar.an (Ar.cmp .eql x.Op 4) (Ar.or (Ar.cmp .lss x.Kind 1) (Ar.cmp .gtr x.Kind 5))
noncomputable def Vn (v:A9):Bool:=Ar.an (Ar.cmp .eql v.Kind 0) (Ar.an (Ar.cmp .eql v.Num 0) (Ar.an (Ar.scmp .eql v.Text (⟨#[]⟩)) true))
noncomputable def NU (x:B5):Bool:=Ar.or (Ar.nt (decide (x.Value.Kind=0∨x.Kind=4∨x.Kind=5))) (Ar.an (Ar.cmp .eql x.Kind 1) (Ar.nt (Vn x.Value)))
noncomputable def PY (x:B5):Bool:=Ar.or (Ar.or (Ar.or (Ar.an (Ar.nt (AE6 x.Op)) (Ar.cmp .neq x.Var 0)) (Ar.an (Ar.nt (AE7 x.Op)) (Ar.cmp .neq x.Field 0))) (Ar.an (Ar.nt (Ar.cmp .eql x.Op 4)) (Ar.cmp .neq x.Kind 0))) (Ar.an (Ar.nt (Ar.or (Ar.cmp .eql x.Op 4) (Ar.cmp .eql x.Op 0))) (Ar.nt (Vn x.Value)))
noncomputable def BT (x:B5):Int:=
 if x.Op<0∨12<x.Op then 1
 else if(x.cQ.length:Int)≠(if x.Op<5 then 0 else if x.Op=12 then 1 else 2)then 15
 else if Zp x=true then 2
 else if Ua x=true then 1
 else if(x.Op=4∨x.Op=0)∧O0 x.Value≠0 then O0 x.Value
 else if x.Op=4∧NU x=true then 9
 else if PY x=true then 3 else 0
def Az0 (N:Nat) (x:B5):Id N x=some (BT x):=by
 unfold Id BT;rw[Ba3,Bf0];simp only[A3]
 by_cases h0:x.Op<0∨12<x.Op
 ·rw[A1 h0,A1 h0];rfl
 rw[A0 h0,A0 h0]
 have ha:¬(Ar.cmp .lss (if x.Op<5 then 0 else if x.Op=12 then 1 else 2) 0=true):=by
  rw[D6];grind
 rw[A0 ha]
 by_cases h1:(x.cQ.length:Int)≠(if x.Op<5 then 0 else if x.Op=12 then 1 else 2)
 ·rw[A1 h1,A1 (by simp[L9,B0,h1])]
 rw[A0 h1,A0 (by simp only[L9,B0];grind)]
 change (if Zp x=true then some 2 else _)=_
 by_cases h2:Zp x=true
 ·rw[A1 h2,A1 h2]
 rw[A0 h2,A0 h2]
 change (if Ua x=true then some 1 else _)=_
 by_cases h3:Ua x=true
 ·rw[A1 h3,A1 h3]
 rw[A0 h3,A0 h3];rw[Ng]
 have e4:(Ar.or (Ar.cmp .eql x.Op 4) (Ar.cmp .eql x.Op 0)=true)↔(x.Op=4∨x.Op=0):=by simp[D7,N8]
 have e6:(Ar.cmp .eql x.Op 4=true)↔x.Op=4:=by simp[D7]
 by_cases h4:x.Op=4∨x.Op=0
 ·rw [A1 (e4.2 h4)];simp only[A3]
  by_cases h5:O0 x.Value=0
  ·have n5:¬(Ar.cmp .neq (O0 x.Value) 0=true):=by simp[L9,h5]
   have n5':¬((x.Op=4∨x.Op=0)∧O0 x.Value≠0):=fun h=>h.2 h5;rw[A0 n5,A0 n5'];simp only[A3]
   by_cases h6:x.Op=4
   ·rw[A1 (e6.2 h6)]
    have hk:x.Kind≠0:=by
     intro e;apply h3;simp[Ua,K5,N8,D7,D6,h6,e]
    rw[Av7 N _ _ hk];simp only[A3]
    change (if NU x=true then some 9 else if PY x=true then some 3 else some 0)=_
    grind
   rw[A0 (show¬(Ar.cmp .eql x.Op 4=true)from fun h=>h6 (e6.1 h)),A0 (show¬(x.Op=4∧NU x=true)from fun h=>h6 h.1)]
   change (if PY x=true then some 3 else some 0)=_
   grind
  have n5:Ar.cmp .neq (O0 x.Value) 0=true:=by simp[L9,h5]
  rw[A1 n5,A1 (show(x.Op=4∨x.Op=0)∧O0 x.Value≠0 from⟨h4,h5⟩)];rfl
 rw[A0 (show¬(Ar.or (Ar.cmp .eql x.Op 4) (Ar.cmp .eql x.Op 0)=true)from fun h=>h4 (e4.1 h)),A0 (show¬((x.Op=4∨x.Op=0)∧O0 x.Value≠0)from fun h=>h4 h.1)];simp only[A3];have h6:¬x.Op=4:=fun e=>h4 (.inl e);rw[A0 (show¬(Ar.cmp .eql x.Op 4=true)from fun h=>h6 (e6.1 h)),A0 (show¬(x.Op=4∧NU x=true)from fun h=>h6 h.1)]
 change (if PY x=true then some 3 else some 0)=_
 grind
def AJ5 (N:Nat) (x:B5):Ky N x=some (BT x):=by
 unfold Ky BT;rw[Bi1,Bk3];simp only[A3]
 by_cases h0:x.Op<0∨12<x.Op
 ·rw[A1 h0,A1 h0];rfl
 rw[A0 h0,A0 h0]
 have ha:(if x.Op<5 then((0:Int),true)else if x.Op=12 then(1,true)else(2,true))=((if x.Op<5 then 0 else if x.Op=12 then 1 else 2),true):=by
  grind
 rw[ha];rw[A0 (by simp[P7])]
 by_cases h1:(x.cQ.length:Int)≠(if x.Op<5 then 0 else if x.Op=12 then 1 else 2)
 ·rw[A1 h1,A1 (by simp[L9,B0,h1])]
 rw[A0 h1,A0 (by simp only[L9,B0];grind)]
 change (if Zp x=true then some 2 else _)=_
 by_cases h2:Zp x=true
 ·rw[A1 h2,A1 h2]
 rw[A0 h2,A0 h2]
 change (if Ua x=true then some 1 else _)=_
 by_cases h3:Ua x=true
 ·rw[A1 h3,A1 h3]
 rw[A0 h3,A0 h3];unfold Iu;rw[Py]
 have e4:(Ar.or (Ar.cmp .eql x.Op 4) (Ar.cmp .eql x.Op 0)=true)↔(x.Op=4∨x.Op=0):=by simp[D7,N8]
 have e6:(Ar.cmp .eql x.Op 4=true)↔x.Op=4:=by simp[D7]
 by_cases h4:x.Op=4∨x.Op=0
 ·rw[A1 (e4.2 h4)];simp only[A3]
  by_cases h5:O0 x.Value=0
  ·have n5:¬(Ar.cmp .neq (O0 x.Value) 0=true):=by simp[L9,h5]
   have n5':¬((x.Op=4∨x.Op=0)∧O0 x.Value≠0):=fun h=>h.2 h5;rw[A0 n5,A0 n5']
   by_cases h6:x.Op=4
   ·rw[A1 (e6.2 h6),AF4];simp only[A3]
    change (((if NU x=true then some 9 else some 0):Option Int).bind _).bind _=_
    by_cases h7:NU x=true
    ·rw[A1 h7,A1 (show x.Op=4∧NU x=true from⟨h6,h7⟩)];rfl
    rw[A0 h7,A0 (show¬(x.Op=4∧NU x=true)from fun h=>h7 h.2)]
    change (if PY x=true then some 3 else some 0)=_
    grind
   rw[A0 (show¬(Ar.cmp .eql x.Op 4=true)from fun h=>h6 (e6.1 h)),A0 (show¬(x.Op=4∧NU x=true)from fun h=>h6 h.1)]
   change (if PY x=true then some 3 else some 0)=_
   grind
  have n5:Ar.cmp .neq (O0 x.Value) 0=true:=by simp[L9,h5]
  rw[A1 n5,A1 (show(x.Op=4∨x.Op=0)∧O0 x.Value≠0 from⟨h4,h5⟩)]
  simp_all
 rw[A0 (show¬(Ar.or (Ar.cmp .eql x.Op 4) (Ar.cmp .eql x.Op 0)=true)from fun h=>h4 (e4.1 h)),A0 (show¬((x.Op=4∨x.Op=0)∧O0 x.Value≠0)from fun h=>h4 h.1)];have h6:¬x.Op=4:=fun e=>h4 (.inl e);rw[A0 (show¬(x.Op=4∧NU x=true)from fun h=>h6 h.1)]
 change (if PY x=true then some 3 else some 0)=_
 grind
end Go.Ab
