/- . -/
import Derived.Test.YtjhobbohibnioaaGreatDoorF15
set_option linter.all false
open Go.Ab.Ar (lst)
namespace Go.Ab
open Go.RowKit Go.Proofs Go.Proofs.Tryz O6
variable [Ar][O6]
set_option maxRecDepth 100000
def cf47:=cfA [2]
theorem c47 (N aB r)(h:Qk N aB=some r):B9 prog 47 [(W4 aB)] ((Dy r)):=by
 refine O0 cf47 func47 call47 ntmps47 ?_;intro E H0 K hE hK hO;cbv;refine E2 hE hO fun b1 H hO=>?_;cbv;refine C1 hE hO 0 rfl rfl fun H hO=>?_;cbv;apply C0 hE hO 0 rfl;cbv;cases h;exact hK hO .z
theorem c359 (N aR aJ r)(h:Dq N aR aJ=some r):B9 prog 359 [(HD aR),vi aJ] (sr eBg5 r):=by
 refine O0 cf0 func359 call359 ntmps359 ?_;intro E H0 K hE hK hO;cbv;apply I8 hE;cbv;apply C4 hE h<;>intro _ h
 ·cbv;cases h;exact hK hO (.lit _ (E4))
 cbv;refine D9 hE eBj1 h fun x1 h=>?_;cbv;cases h;exact hK hO .z
theorem c383 (N aW r)(h:Kp N aW=some r):B9 prog 383 [vi aW] (.bool r):=by
 refine O0 cf0 func383 call383 ntmps383 ?_;intro E H0 K hE hK hO;cbv;cases h;exact hK hO .z
theorem c393 (N aC r)(h:GC N aC=some r):B9 prog 393 [(L7 aC)] (vi r):=by
 refine O0 cf0 func393 call393 ntmps393 ?_;intro E H0 K hE hK hO
 repeat' (cbv;first|apply C4 hE h<;>intro _ h|refine B0 hE h (c383 _ _) .z fun _ h=>?_|refine B0 hE h (c318 _ _) .z fun _ h=>?_|refine B0 hE h (c319 _ _ _) .z fun _ h=>?_|(cases h;exact hK hO .z))
theorem c394 (N aW aJ r)(h:Da N aW aJ=some r):B9 prog 394 [vi aW,(F4 aJ)] (vi r):=by
 refine O0 cf0 func394 call394 ntmps394 ?_;intro E H0 K hE hK hO
 repeat' (cbv;first|apply C4 hE h<;>intro _ h|refine B0 hE h (c318 _ _) .z fun _ h=>?_|refine B0 hE h (c319 _ _ _) .z fun _ h=>?_|(cases h;exact hK hO .z))
def cf395:=cfA [6]
theorem c395 (N aW aJ bY r)(h:FU N aW aJ bY=some r):B9 prog 395 [vi aW,(F4 aJ),(F4 bY)] ((F4 r)):=by
 refine O0 cf395 func395 call395 ntmps395 ?_;intro E H0 K hE hK hO
 repeat' (cbv;first|apply C4 hE h<;>intro _ h|apply C0 hE hO 0 rfl|refine C1 hE hO 0 rfl rfl fun H hO=>?_|refine E2 hE hO fun _ H hO=>?_|(cases h;exact hK hO .z))
def cf384:=cfA [4,8]
theorem c384 (N aC aJ r)(h:Hr N aC aJ=some r):B9 prog 384 [(L7 aC),(F4 aJ)] (.tup [(L7 r.1),vi r.2]):=by
 refine O0 cf384 func384 call384 ntmps384 ?_;intro E H0 K hE hK hO
 repeat' (cbv;first|apply C4 hE h<;>intro _ h|refine B0 hE h (c393 _ _) .z fun _ h=>?_|refine B0 hE h (c394 _ _ _) .z fun _ h=>?_|refine B0 hE h (c395 _ _ _ _) .z fun _ h=>?_|apply C0 hE hO 0 rfl|apply C0 hE hO 1 rfl|refine C1 hE hO 0 rfl rfl fun H hO=>?_|refine C1 hE hO 1 rfl rfl fun H hO=>?_|refine E2 hE hO fun _ H hO=>?_|(cases h;exact hK hO .z))
def cf385:=cfA [4]
theorem c385 (N aC aY r)(h:Kq N aC aY=some r):B9 prog 385 [(L7 aC),(F4 aY)] (.tup [(F4 r.1),vi r.2]):=by
 refine O0 cf385 func385 call385 ntmps385 ?_;intro E H0 K hE hK hO
 repeat' (cbv;first|apply C4 hE h<;>intro _ h|refine B0 hE h (c393 _ _) .z fun _ h=>?_|refine B0 hE h (c394 _ _ _) .z fun _ h=>?_|apply C0 hE hO 0 rfl|refine C1 hE hO 0 rfl rfl fun H hO=>?_|refine E2 hE hO fun _ H hO=>?_|(cases h;exact hK hO .z))
def cf360:=cfB [6,8] [(9,11)]
theorem c360 (N aW aG aY r) (h:Pi N aW aG aY=some r):B9 prog 360 [vi aW,sr eBh3 aG,(F4 aY)] (.tup [(F4 r.1),vi r.2]):=by
 refine O0 cf360 func360 call360 ntmps360 ?_;intro E H0 K hE hK hO;cbv;refine E2 hE hO fun b1 H hO=>?_
 repeat' (cbv;first|apply C4 hE h<;>intro _ h|apply I8 hE|refine B0 hE h (c383 _ _) .z fun _ h=>?_|apply C0 hE hO 0 rfl|refine C1 hE hO 0 rfl rfl fun H hO=>?_|refine E2 hE hO fun b3 H hO=>?_|(cases h;exact hK hO .z))
 cbv;obtain⟨s5,hx,h⟩:=bind_some h;refine H9 cf360 hE O7 (fun s4=>[(1,.v (sr eBh3 aG)),(5,.v (.eref (V3 aY) 0)),(6,.v (.ref b1 0)),(8,.v (.ref b3 0)),fi 9 s4.1]) (fun(s4:Int×D0) H1=>C5 Eq H0 [cb b3 (Ch s4.2),cb b1 [vi 0,vi 0,.str (⟨#[]⟩)]] H1) (fun x e l H1=>match(generalizing:=false) x with| .inl y=>e= .exit 0∧l=[(5,.v (.eref (V3 aY) 0)),(6,.v (.ref b1 0)),(8,.v (.ref b3 0))]∧C5 Eq H0 [cb b3 (Ch y),cb b1 [vi 0,vi 0,.str (⟨#[]⟩)]] H1| .inr y=>e= .ret∧l=[(6,.v (.ref b1 0)),fi 7 y.1]∧C5 Eq H0 [cb b3 (Ch y.2),cb b1 [vi 0,vi 0,.str (⟨#[]⟩)]] H1) (by kernel_rfl) ?_ hx ?_ hO ?_
 ·intro s4 H o hO h
  repeat' (cbv;first|apply C4 hE h<;>intro _ h|apply I8 hE|refine D9 hE eBh7 h fun _ h=>?_|apply C0 hE hO 0 rfl|refine C1 hE hO 1 rfl rfl fun H hO=>?_|refine C1 hE hO 0 rfl rfl fun H hO=>?_|refine E5 hE (g:=fun r7=>.tup [(L7 r7.1),vi r7.2]) h (c384 _ _ _) .z fun r7 h=>?_|(cases h;exact⟨_,_,rfl,⟨rfl,rfl,hO⟩,.e2 .z,rfl⟩)|(cases h;exact⟨_,rfl,.e rfl (.e4 .z),rfl,hO⟩)|(cases h;exact⟨_,_,rfl,⟨rfl,rfl,hO⟩,.e rfl (.e2 .z),rfl⟩))
 ·exact .e rfl (.e4 .z)
 clear hx
 rcases s5 with y8|y10
 ·rintro e l H ⟨rfl,rfl,hO⟩;cbv;apply C0 hE hO 0 rfl;cbv;refine B0 hE h (c385 N y8 aY) .z fun r9 h=>?_;cbv;refine C1 hE hO 1 rfl rfl fun H hO=>?_;cbv;apply C0 hE hO 1 rfl;cbv;cases h;exact hK hO .z
 rintro e l H ⟨rfl,rfl,hO⟩;cbv;apply C0 hE hO 1 rfl;cbv;cases h;exact hK hO .z
def cf361:=cfA [8]
theorem c361 (N aR aJ aU aV r)(h:Kn N aR aJ aU aV=some r):B9 prog 361 [(HD aR),vi aJ,vi aU,(W4 aV)] (.tup [(W4 r.1),.bool r.2]):=by
 refine O0 cf361 func361 call361 ntmps361 ?_;intro E H0 K hE hK hO
 repeat' (cbv;first|apply C4 hE h<;>intro _ h|apply I8 hE|refine B0 hE h (c359 _ _ _) .z fun _ h=>?_|refine D9 hE eBh4 h fun _ h=>?_|apply C0 hE hO 0 rfl|refine C1 hE hO 0 rfl rfl fun H hO=>?_|refine E2 hE hO fun _ H hO=>?_|(cases h;exact hK hO .z)|(cases h;exact hK hO (.tup (.cons (.agg (.r (.r (.r (.r (.cons (.lit _ (E4)) .z)))))) .z))))
def cf338:=cfB [8] [(12,8),(14,11)]
theorem c338 (N aB aR aU aV r) (h:Km N aB aR aU aV=some r):B9 prog 338 [(Y9 aB),(HD aR),vi aU,(W4 aV)] (.tup [(F4 r.1),vi r.2]):=by
 refine O0 cf338 func338 call338 ntmps338 ?_;intro E H0 K hE hK hO;cbv;refine E2 hE hO fun b1 H hO=>?_;cbv;apply C4 hE h<;>intro _ h
 ·cbv;refine C1 hE hO 0 rfl rfl fun H hO=>?_;cbv;apply C0 hE hO 0 rfl;cbv;cases h;exact hK hO .z
 cbv;apply C4 hE h<;>intro _ h
 ·cbv;refine B0 hE h (c359 N aR aB.Var) .z fun r2 h=>?_;cbv;apply I8 hE;cbv;refine C1 hE hO 0 rfl rfl fun H hO=>?_;cbv;apply C0 hE hO 0 rfl;cbv;cases h;exact hK hO .z
 repeat' (cbv;first|apply C4 hE h<;>intro _ h|apply I8 hE|refine B0 hE h (c359 _ _ _) .z fun r3 h=>?_|refine B0 hE h (c361 _ _ _ _ _) .z fun _ h=>?_|refine B0 hE h (c318 _ _) .z fun _ h=>?_|refine D9 hE eBh7 h fun _ h=>?_|apply C0 hE hO 0 rfl|refine C1 hE hO 0 rfl rfl fun H hO=>?_|(cases h;exact hK hO .z))
 cbv;replace hO:=hO.tl0 (t:=.nil) rfl;obtain⟨s6,hx,h⟩:=bind_some h;refine P6 cf338 hE O7 (γ:=G6) (fun s4 g=>[(4,.v (.eref (BT aB) 0)),(8,.v (.ref b1 0)),(10,.v (.sl (lst eBh3 s4.1) g)),(11,.v (sr eBg5 r3)),fi 12 s4.2]) (fun s4 g H1=>T3 g∧C5 Eq H0 [.tl g,cb b1 [vi 0,vi 0,.str (⟨#[]⟩)]] H1) (fun x e l H1=>match(generalizing:=false) x with| .inl y=>∃u1:G6,T3 u1∧e= .exit 1∧l=[(4,.v (.eref (BT aB) 0)),(8,.v (.ref b1 0)),(10,.v (.sl (lst eBh3 y) u1))]∧C5 Eq H0 [.tl u1,cb b1 [vi 0,vi 0,.str (⟨#[]⟩)]] H1| .inr y=>∃u1:G6,T3 u1∧e= .ret∧l=[(8,.v (.ref b1 0)),fi 9 6]∧C5 Eq H0 [.tl u1,cb b1 [vi 0,vi 0,.str (⟨#[]⟩)]] H1) (by kernel_rfl) ?_ .nil hx ?_ ?_ ?_
 ·rintro s4 t5 H o ⟨ht5,hO⟩ h
  repeat' (cbv;first|apply C4 hE h<;>intro _ h|apply I8 hE|refine D9 hE eBh4 h fun _ h=>?_|refine D9 hE eBh7 h fun x9 h=>?_|refine C1 hE hO 1 rfl rfl fun H hO=>?_|(cases h;exact⟨_,_,rfl,⟨t5,ht5,rfl,rfl,hO⟩,.e2 .z,rfl⟩)|(cases h;exact⟨_,t10,rfl,.e rfl (.e4 .z),rfl,ht10,hO⟩)|(cases h;exact⟨_,_,rfl,⟨t5,ht5,rfl,rfl,hO⟩,.e rfl (.e2 .z),rfl⟩)|refine S7 (f:=eBh3) hE MQ (by decide) hO 0 rfl ht5 (l:=s4.1) (m:=[x9]) .z (.lstc (.eq (eBh7 x9) .z) (.lst0)) h fun _ t10 H hO ht10 h=>?_)
 ·exact .e2 (.v (.slt _ (.lst0)) (.e rfl (.e rfl (.z))))
 ·exact⟨trivial,hO⟩
 clear hx
 rcases s6 with y12|y15
 ·rintro e l H ⟨t13,ht13,rfl,rfl,hO⟩;cbv;refine B0 hE h (c360 N aB.Kind y12 aB.Value) (.r (.cons (.ro _ _) .z)) fun r14 h=>?_;cbv;refine C1 hE hO 1 rfl rfl fun H hO=>?_;cbv;apply C0 hE hO 1 rfl;cbv;cases h;exact hK hO .z
 rintro e l H ⟨t16,ht16,rfl,rfl,hO⟩;cbv;apply C0 hE hO 1 rfl;cbv;cases h;exact hK hO .z
def cf362:=cfC [] [] [(4,4)]
theorem c362 (N aM r) (h:EJ N aM=some r):B9 prog 362 [vi aM] (vi r):=by
 refine O0 cf362 func362 call362 ntmps362 ?_;intro E H0 K hE hK hO;cbv;obtain⟨s1,hx,h⟩:=bind_some h;refine N2 cf362 hE O7 (fun e l H1=>e= .normal∧l=[fi 3 aM,(4,.v (.bool s1))]∧C5 Eq H0 [] H1) (by kernel_rfl) ?_ ?_
 ·clear h;have h:=hx
  repeat' (cbv;first|apply C4 hE h<;>intro _ h|(cases h;exact⟨_,⟨rfl,rfl,hO⟩,.e2 .z,rfl⟩))
 clear hx;rintro e l H ⟨rfl,rfl,hO⟩
 repeat' (cbv;first|apply C4 hE h<;>intro _ h|(cases h;exact hK hO .z))
def cf339:=cfB [] [(5,21)]
theorem c339 (N aM aZ r) (h:EI N aM aZ=some r):B9 prog 339 [vi aM,sr (V.int .i64) aZ] (vi r):=by
 refine O0 cf339 func339 call339 ntmps339 ?_;intro E H0 K hE hK hO;cbv;obtain⟨s2,hx,h⟩:=bind_some h;refine H9 cf339 hE O7 (fun s1=>[fi 0 aM,(1,.v (sr (V.int .i64) aZ)),fi 5 s1]) (fun s1 H1=>C5 Eq H0 [] H1) (fun x e l H1=>match(generalizing:=false) x with| .inl y=>e= .exit 0∧l=[]∧C5 Eq H0 [] H1| .inr y=>e= .ret∧l=[fi 4 9]∧C5 Eq H0 [] H1) (by kernel_rfl) ?_ hx ?_ hO ?_
 ·intro s1 H o hO h
  repeat' (cbv;first|apply C4 hE h<;>intro _ h|apply I8 hE|refine B0 hE h (c362 _ _) .z fun _ h=>?_|refine D9 hE (fun _=>rfl) h fun _ h=>?_|(cases h;exact⟨_,_,rfl,⟨rfl,rfl,hO⟩,.e rfl .z,rfl⟩)|(cases h;exact⟨_,rfl,.e rfl (.e2 .z),rfl,hO⟩)|(cases h;exact⟨_,_,rfl,⟨rfl,rfl,hO⟩,.z,rfl⟩))
 ·exact .e rfl (.e2 .z)
 clear hx
 rcases s2 with y9|y10
 ·rintro e l H ⟨rfl,rfl,hO⟩;cbv;cases h;exact hK hO .z
 rintro e l H ⟨rfl,rfl,hO⟩;cbv;cases h;exact hK hO .z
def cf279:=cfA [2]
theorem c279 (N aD r)(h:Ae N aD=some r):B9 prog 279 [.bool aD] ((F4 r)):=by
 refine O0 cf279 func279 call279 ntmps279 ?_;intro E H0 K hE hK hO
 repeat' (cbv;first|apply C4 hE h<;>intro _ h|apply C0 hE hO 0 rfl|refine C1 hE hO 0 rfl rfl fun H hO=>?_|refine E2 hE hO fun _ H hO=>?_|(cases h;exact hK hO .z))
def cf340:=cfB [4] [(3,8),(5,8),(7,8),(9,8),(11,6)]
theorem c340 (N aM aG r)(h:Mc N aM aG=some r):B9 prog 340 [vi aM,sr eBh3 aG] ((F4 r)):=by
 refine O0 cf340 func340 call340 ntmps340 ?_;intro E H0 K hE hK hO
 repeat' (cbv;first|apply C4 hE h<;>intro _ h|refine B0 hE h (c279 _ _) .z fun _ h=>?_|refine D9 hE eBh7 h fun _ h=>?_|apply C0 hE hO 0 rfl|refine C1 hE hO 0 rfl rfl fun H hO=>?_|refine E2 hE hO fun _ H hO=>?_|(cases h;exact hK hO .z))
def cf313:=cfB [8,3000053,8000053,9000053] [(8,14),(11,8)]
theorem c313 (N:Nat):∀n aB aR aU aV r,CZ N n aB aR aU aV=some r→B9 prog 313 [(Y9 aB),(HD aR),vi aU,(W4 aV)] (.tup [(F4 r.1),vi r.2]):=by
 intro n
 induction n with
 |zero=>intro aB aR aU aV r h;cases h
 |succ n ih=>
 intro aB aR aU aV r h
 unfold CZ at h
 refine O0 cf313 func313 call313 ntmps313 ?_;intro E H0 K hE hK hO
 repeat' (cbv;first|apply C4 hE h<;>intro _ h|apply I8 hE|refine B0 hE h (c338 _ _ _ _ _) .z fun _ h=>?_|apply C0 hE hO 0 rfl|refine C1 hE hO 0 rfl rfl fun H hO=>?_|refine E2 hE hO fun b1 H hO=>?_|(cases h;exact hK hO .z))
 cbv;replace hO:=hO.tl0 (t:=.nil) rfl;replace hO:=hO.tl0 (t:=.nil) rfl;obtain⟨s6,hx,h⟩:=bind_some h;refine P6 cf313 hE O7 (γ:=G6×G6) (fun s3 g=>[fi 2 aU,(4,.v (.eref (BT aB) 0)),(5,.v (.eref (AX0 aR) 0)),(7,.v (.eref (PJ aV) 0)),(8,.v (.ref b1 0)),(10,.v (.sl (lst eBh3 s3.1) g.2)),(11,.v (.sl (lst (V.int .i64) s3.2.1) g.1)),fi 12 s3.2.2]) (fun s3 g H1=>T3 g.1∧T3 g.2∧C5 Eq H0 [.tl g.1,.tl g.2,cb b1 [vi 0,vi 0,.str (⟨#[]⟩)]] H1) (fun x e l H1=>match(generalizing:=false) x with| .inl y=>∃u1:G6,T3 u1∧∃u2:G6,T3 u2∧e= .exit 0∧l=[(4,.v (.eref (BT aB) 0)),(8,.v (.ref b1 0)),(10,.v (.sl (lst eBh3 y.1) u2)),(11,.v (.sl (lst (V.int .i64) y.2) u1))]∧C5 Eq H0 [.tl u1,.tl u2,cb b1 [vi 0,vi 0,.str (⟨#[]⟩)]] H1| .inr y=>∃u1:G6,T3 u1∧∃u2:G6,T3 u2∧e= .ret∧l=[(8,.v (.ref b1 0)),fi 9 y]∧C5 Eq H0 [.tl u1,.tl u2,cb b1 [vi 0,vi 0,.str (⟨#[]⟩)]] H1) (by kernel_rfl) ?_ (⟨.nil,.nil⟩) hx ?_ ?_ ?_
 ·rintro s3 ⟨t4,t5⟩ H o ⟨ht4,ht5,hO⟩ h
  repeat' (cbv;first|apply C4 hE h<;>intro _ h|apply I8 hE|refine D9 hE eBi2 h fun _ h=>?_|refine C1 hE hO 2 rfl rfl fun H hO=>?_|refine E5 hE (g:=fun r8=>.tup [(F4 r8.1),vi r8.2]) h (ih _ _ _ _) .z fun r8 h=>?_|(cases h;exact⟨_,_,rfl,⟨t4,ht4,t5,ht5,rfl,rfl,hO⟩,.e2 .z,rfl⟩)|(cases h;exact⟨_,⟨t11,t10⟩,rfl,.e4 (.e4 .z),rfl,ht11,ht10,hO⟩)|(cases h;exact⟨_,_,rfl,⟨t4,ht4,t5,ht5,rfl,rfl,hO⟩,.e4 .z,rfl⟩)|refine RY hE hO 1 rfl ht5 fun H hO=>?_|apply On hE trivial|refine Oo (f:=eBh3) hE MQ (by decide) (l:=s3.1) (m:=[r8.1]) .z (.lstc (.eq (eBh7 r8.1) .z) (.lst0)) h fun _ h=>?_|refine Sa hE hO 1 rfl fun t10 H hO ht10=>?_|refine S7 (f:=(V.int .i64)) hE (fun _=>rfl) (by decide) hO 0 rfl ht4 (l:=s3.2.1) (m:=[r8.1.Kind]) .z (.lstc .z (.lst0)) h fun _ t11 H hO ht11 h=>?_)
 ·exact .e rfl (.e4 (.v (.slt _ (.lst0)) (.v (.slt _ (.lst0)) (.e rfl (.z)))))
 ·exact⟨trivial,trivial,hO⟩
 clear hx
 rcases s6 with y13|y18
 ·rintro e l H ⟨t14,ht14,t15,ht15,rfl,rfl,hO⟩
  repeat' (cbv;first|apply C4 hE h<;>intro _ h|refine B0 hE h (c339 _ _ _) (.r (.cons (.ro _ _) .z)) fun _ h=>?_|refine B0 hE h (c340 _ _ _) (.r (.cons (.ro _ _) .z)) fun _ h=>?_|apply C0 hE hO 2 rfl|refine C1 hE hO 2 rfl rfl fun H hO=>?_|(cases h;exact hK hO .z))
 rintro e l H ⟨t19,ht19,t20,ht20,rfl,rfl,hO⟩;cbv;apply C0 hE hO 2 rfl;cbv;cases h;exact hK hO .z
def cf278:=cfA [8]
theorem c278 (N aB aR aU aV r)(h:Ko N aB aR aU aV=some r):B9 prog 278 [(Y9 aB),(HD aR),vi aU,(W4 aV)] (.tup [(F4 r.1),vi r.2]):=by
 refine O0 cf278 func278 call278 ntmps278 ?_;intro E H0 K hE hK hO
 repeat' (cbv;first|apply C4 hE h<;>intro _ h|refine B0 hE h (c197 _ _) .z fun _ h=>?_|refine B0 hE h (c313 _ _ _ _ _ _) .z fun _ h=>?_|apply C0 hE hO 0 rfl|refine C1 hE hO 0 rfl rfl fun H hO=>?_|refine E2 hE hO fun _ H hO=>?_|(cases h;exact hK hO .z))
def cf233:=cfB [] [(2,5)]
theorem c233 (N aB aR aU aV r)(h:EC N aB aR aU aV=some r):B9 prog 233 [(Y9 aB),(HD aR),vi aU,(W4 aV)] (.bool r):=by
 refine O0 cf233 func233 call233 ntmps233 ?_;intro E H0 K hE hK hO
 repeat' (cbv;first|apply C4 hE h<;>intro _ h|refine B0 hE h (c278 _ _ _ _ _) .z fun _ h=>?_|refine E5 hE (g:=fun r2=>(F4 r2)) h (c279 _ _) .z fun r2 h=>?_|(cases h;exact hK hO .z))
def cf234:Cf:=⟨[6,7,3000049,8000049,9000049],[(6,26)],[],[],[(51,1000007)],[]⟩
theorem c234 (N aG aH bC r) (h:Hp N aG aH bC=some r):B9 prog 234 [sr eBg5 aG,sr eBg7 aH,vi bC] ((HD r)):=by
 refine O0 cf234 func234 call234 ntmps234 ?_;intro E H0 K hE hK hO;cbv;refine E2 hE hO fun b1 H hO=>?_;cbv;refine AV8 hE (f:=eBg5) (by decide) hO 1 h fun l3 w2 H hw2 h hO=>?_;have hO:C5 Eq H0 (.blk w2.q.id (.arr 1 (w2.q.pre++lst (BW eBg5) w2.row++w2.q.rest))::cb b1 [.sl [] .nil]::(JK w2++[])) H:=hO;cbv;refine E2 hE hO fun b4 H hO=>?_;cbv;refine C1 hE hO 0 rfl rfl fun H hO=>?_;cbv;obtain⟨s7,hx,h⟩:=bind_some h;refine P6 cf234 hE O7 (γ:=Rw A8) (fun s5 g=>[(0,.v (sr eBg5 aG)),(1,.v (sr eBg7 aH)),fi 2 bC,(6,.v (.ref b1 0)),(7,.v (.ref b4 0)),fi 8 s5.1]) (fun s5 g H1=>DD g s5.2∧C5 Eq H0 (cb b4 [.own g.q.id g.q.lo g.q.n]:: .blk g.q.id (.arr 1 (g.q.pre++lst (BW eBg5) g.row++g.q.rest))::cb b1 [.sl [] .nil]::(JK g++[])) H1) (fun x e l H1=>∃u1:Rw A8,DD u1 x∧e= .exit 0∧l=[(6,.v (.ref b1 0)),(7,.v (.ref b4 0))]∧C5 Eq H0 (cb b4 [.own u1.q.id u1.q.lo u1.q.n]:: .blk u1.q.id (.arr 1 (u1.q.pre++lst (BW eBg5) u1.row++u1.q.rest))::cb b1 [.sl [] .nil]::(JK u1++[])) H1) (by kernel_rfl) ?_ w2 hx ?_ ?_ ?_
 ·rintro s5 w6 H o ⟨hw6,hO⟩ h
  repeat' (cbv;first|apply C4 hE h<;>intro _ h|apply I8 hE|refine D9 hE eBh5 h fun _ h=>?_|(cases h;exact⟨_,w6,rfl,.e2 (.e4 .z),rfl,hw6,hO⟩)|(cases h;exact⟨_,_,rfl,⟨w6,hw6,rfl,rfl,hO⟩,.e2 .z,rfl⟩))
  cbv;obtain⟨x9,ex9,h⟩:=bind_some h;obtain⟨x10,hxx10,h⟩:=bind_some h
  obtain⟨hjx10,t11,hrx10,hax10⟩:=hw6.at hxx10
  obtain⟨Rx10,hO,hbx10⟩:=hO.rtake (w:=w6) (T1:=[]) (T2:=[]) 3 rfl hrx10;refine RY hE hO 0 rfl hax10 fun H hO=>?_;cbv;apply C0 hE hO 1 rfl;cbv;refine AH1 hE eBh5 ex9 ?_;cbv;apply C0 hE hO 1 rfl;cbv;refine AH1 hE eBh5 ex9 ?_;cbv;refine WG hE (f:=BW eBg5) hO hw6.ok 2 rfl hjx10 ?_;cbv;refine An2 hE (f:=BW eBg5) (fun _=>rfl) hO hw6.ok 2 rfl hjx10.1 hrx10 ?_;cbv;refine AH1 hE eBh5 ex9 ?_;cbv;refine D9 hE eBh4 h fun x15 h=>?_;cbv;apply On hE trivial;cbv;refine Oo (f:=eBg5) hE Qc (by decide) (l:=x10) (m:=[x15]) .z (.lstc (.eq (eBh4 x15) .z) (.lst0)) h fun l16 h=>?_;cbv;refine Sa hE hO 0 rfl fun t12 H hO htt12=>?_;cbv;refine WG hE (f:=BW eBg5) hO hw6.ok 2 rfl hjx10 ?_;cbv;refine YV hE (f:=BW eBg5) (tz:=1) (x':=(l16,t12)) (fun _=>⟨.sl (lst eBg5 l16) t12,.refl _,rfl,rfl,rfl⟩) (by decide) hO hw6.ok 2 rfl hjx10 fun H hO=>?_;cbv;obtain⟨l14,hu,h⟩:=bind_some h;obtain⟨w13,hqw13,hw13,hO⟩:∃w0:Rw A8,w0.q=w6.q∧DD w0 l14∧C5 Eq H0 (cb b4 [.own w0.q.id w0.q.lo w0.q.n]:: .blk w0.q.id (.arr 1 (w0.q.pre++lst (BW eBg5) w0.row++w0.q.rest))::cb b1 [.sl [] .nil]::(JK w0++[])) H:=⟨(⟨w6.q,w6.row.set (x9.Var).toNat (l16,t12)⟩:Rw A8),rfl,by rw[Xq hu];exact hw6.put _ htt12,(by have e:=hbx10 (l16,t12) H [cb b4 [.own w6.q.id w6.q.lo w6.q.n],.blk w6.q.id (.arr 1 (w6.q.pre++lst (BW eBg5) (w6.row.set (x9.Var).toNat (l16,t12))++w6.q.rest)),cb b1 [.sl [] .nil]] hO;simp only[X2,K2,H6]at e ⊢;exact e)⟩
  try rw[←hqw13]
  cases h;exact⟨_,w13,rfl,.e2 (.e4 .z),rfl,hw13,hO⟩
 ·exact .e2 (.e4 .z)
 ·exact⟨hw2,hO⟩
 clear hx;rintro e l H ⟨w17,hw17,rfl,rfl,hO⟩;cbv;refine Yt hE (e:=eBi5) eBj1 hO hw17 0 1 rfl rfl rfl (by decide) fun H hO=>?_;have hO:C5 Eq H0 [cb b4 [sr eBi5 s7],cb b1 [.sl [] .nil]] H:=hO.rdrop (w:=w17) (T1:=[]) (T2:=[]) 2 rfl;cbv;apply C0 hE hO 0 rfl;cbv;refine C1 hE hO 1 rfl rfl fun H hO=>?_;cbv;apply C0 hE hO 1 rfl;cbv;cases h;exact hK hO .z
def cf186:=cfB [] [(1,21)]
theorem c186 (N aA aG aD bC r)(h:Kk N aA aG aD bC=some r):B9 prog 186 [(C8 aA),sr eBg5 aG,sr eBg7 aD,vi bC] (.bool r):=by
 refine O0 cf186 func186 call186 ntmps186 ?_;intro E H0 K hE hK hO
 repeat' (cbv;first|apply C4 hE h<;>intro _ h|refine B0 hE h (c233 _ _ _ _ _) .z fun _ h=>?_|refine D9 hE eBh4 h fun _ h=>?_|refine E5 hE (g:=fun r2=>(HD r2)) h (c234 _ _ _ _) .z fun r2 h=>?_|(cases h;exact hK hO .z))
def cf187:Cf:=⟨[],[(3,17),(5,16),(3000006,0),(3000006,1),(3000006,3),(3000006,6),(3000006,8),(3000006,9),(3000007,0),(3000007,1),(3000007,3),(3000007,6),(3000007,8),(3000007,9)],[],[2000006,2000007],[],[]⟩
set_option maxHeartbeats 2000000 in
theorem c187 (N aC aD r) (h:AT N aC aD=some r):B9 prog 187 [sr eBg7 aC,sr eBg7 aD] (.tup [sr eBg7 r.1,.bool r.2]):=by
 refine O0 cf187 func187 call187 ntmps187 ?_;intro E H0 K hE hK hO;cbv;replace hO:=hO.tl0 (t:=.nil) rfl;obtain⟨s3,hx,h⟩:=bind_some h;refine P6 cf187 hE O7 (γ:=G6) (fun s1 g=>[(0,.v (sr eBg7 s1.1)),(1,.v (sr eBg7 s1.2.1)),(6,.v (.sl (lst eBg7 s1.2.2) g))]) (fun s1 g H1=>T3 g∧C5 Eq H0 [.tl g] H1) (fun x e l H1=>match(generalizing:=false) x with| .inl y=>∃u1:G6,T3 u1∧e= .exit 0∧l=[(6,.v (.sl (lst eBg7 y) u1))]∧C5 Eq H0 [.tl u1] H1| .inr y=>∃u1:G6,T3 u1∧e= .ret∧l=[(4,.v (.sl [] .nil)),(5,.b false)]∧C5 Eq H0 [.tl u1] H1) (by kernel_rfl) ?_ .nil hx ?_ ?_ ?_
 ·rintro s1 t2 H o ⟨ht2,hO⟩ h
  repeat' (cbv;first|apply C4 hE h<;>intro _ h|apply I8 hE|refine D9 hE eBh5 h fun _ h=>?_|(cases h;exact⟨_,_,rfl,⟨t2,ht2,rfl,rfl,hO⟩,.e rfl (.b rfl (.z)),rfl⟩)|(cases h;exact⟨_,_,rfl,⟨t2,ht2,rfl,rfl,hO⟩,.e rfl .z,rfl⟩))
  ·cbv;obtain⟨s6,hx,h⟩:=bind_some h;refine N2 cf187 hE O7 (fun e l H1=>∃u1:G6,T3 u1∧e= .normal∧l=[(0,.v (sr eBg7 s6.1)),(1,.v (sr eBg7 s1.2.1)),(6,.v (.sl (lst eBg7 s6.2) u1))]∧C5 Eq H0 [.tl u1] H1) (by kernel_rfl) ?_ ?_
   ·clear h;have h:=hx;cbv;obtain⟨x87,ex87,h⟩:=bind_some h;obtain⟨l208,el208,h⟩:=bind_some h;obtain⟨l287,el287,h⟩:=bind_some h
    repeat' first|refine And.intro ?_ ?_|(refine D9 hE eBh5 (P9 ex87) fun x87 hh=>?_;obtain rfl:=F2 hh;cbv)|(refine S7 (f:=eBg7) hE G1 (by decide) hO 0 rfl ht2 (l:=s1.2.2) (m:=[x87]) .z (.lstc (.eq (eBh5 x87) .z) (.lst0)) (P9 el208) fun l208 t207 H hO ht207 hh=>?_;obtain rfl:=F2 hh;cbv)|(refine Ct hE (f:=eBg7) G1 (P9 el287) fun l287 t288 hh=>?_;obtain rfl:=F2 hh;cbv)|(have h:=F2 h;subst h;exact⟨_,⟨t207,ht207,rfl,rfl,hO⟩,.v (.ro _ _) (.e2 .z),rfl⟩)
   clear hx;rintro e l H ⟨t447,ht447,rfl,rfl,hO⟩;cbv;cases h;exact⟨_,t447,rfl,.e rfl (.e2 .z),rfl,ht447,hO⟩
  ·cbv;obtain⟨s450,hx,h⟩:=bind_some h;refine N2 cf187 hE O7 (fun e l H1=>∃u1:G6,T3 u1∧e= .normal∧l=[(0,.v (sr eBg7 s450.1)),(1,.v (sr eBg7 s1.2.1)),(6,.v (.sl (lst eBg7 s450.2) u1))]∧C5 Eq H0 [.tl u1] H1) (by kernel_rfl) ?_ ?_
   ·clear h;have h:=hx;cbv;obtain⟨x531,ex531,h⟩:=bind_some h;obtain⟨l652,el652,h⟩:=bind_some h;obtain⟨l731,el731,h⟩:=bind_some h
    repeat' first|refine And.intro ?_ ?_|(refine D9 hE eBh5 (P9 ex531) fun x531 hh=>?_;obtain rfl:=F2 hh;cbv)|(refine S7 (f:=eBg7) hE G1 (by decide) hO 0 rfl ht2 (l:=s1.2.2) (m:=[x531]) .z (.lstc (.eq (eBh5 x531) .z) (.lst0)) (P9 el652) fun l652 t651 H hO ht651 hh=>?_;obtain rfl:=F2 hh;cbv)|(refine Ct hE (f:=eBg7) G1 (P9 el731) fun l731 t732 hh=>?_;obtain rfl:=F2 hh;cbv)|(have h:=F2 h;subst h;exact⟨_,⟨t651,ht651,rfl,rfl,hO⟩,.v (.ro _ _) (.e2 .z),rfl⟩)
   clear hx;rintro e l H ⟨t891,ht891,rfl,rfl,hO⟩;cbv;cases h;exact⟨_,t891,rfl,.e rfl (.e2 .z),rfl,ht891,hO⟩
  ·cbv;obtain⟨s892,hx,h⟩:=bind_some h;refine N2 cf187 hE O7 (fun e l H1=>∃u1:G6,T3 u1∧e= .normal∧l=[(0,.v (sr eBg7 s1.1)),(1,.v (sr eBg7 s892.1)),(6,.v (.sl (lst eBg7 s892.2) u1))]∧C5 Eq H0 [.tl u1] H1) (by kernel_rfl) ?_ ?_
   ·clear h;have h:=hx;cbv;obtain⟨x973,ex973,h⟩:=bind_some h;obtain⟨l1094,el1094,h⟩:=bind_some h;obtain⟨l1173,el1173,h⟩:=bind_some h
    repeat' first|refine And.intro ?_ ?_|(refine D9 hE eBh5 (P9 ex973) fun x973 hh=>?_;obtain rfl:=F2 hh;cbv)|(refine S7 (f:=eBg7) hE G1 (by decide) hO 0 rfl ht2 (l:=s1.2.2) (m:=[x973]) .z (.lstc (.eq (eBh5 x973) .z) (.lst0)) (P9 el1094) fun l1094 t1093 H hO ht1093 hh=>?_;obtain rfl:=F2 hh;cbv)|(refine Ct hE (f:=eBg7) G1 (P9 el1173) fun l1173 t1174 hh=>?_;obtain rfl:=F2 hh;cbv)|(have h:=F2 h;subst h;exact⟨_,⟨t1093,ht1093,rfl,rfl,hO⟩,.e rfl (.v (.ro _ _) (.e rfl (.z))),rfl⟩)
   clear hx;rintro e l H ⟨t1333,ht1333,rfl,rfl,hO⟩;cbv;cases h;exact⟨_,t1333,rfl,.e rfl (.e2 .z),rfl,ht1333,hO⟩
  ·cbv;obtain⟨s1334,hx,h⟩:=bind_some h;refine N2 cf187 hE O7 (fun e l H1=>∃u1:G6,T3 u1∧e= .normal∧l=[(0,.v (sr eBg7 s1.1)),(1,.v (sr eBg7 s1334.1)),(6,.v (.sl (lst eBg7 s1334.2) u1))]∧C5 Eq H0 [.tl u1] H1) (by kernel_rfl) ?_ ?_
   ·clear h;have h:=hx;cbv;obtain⟨x1415,ex1415,h⟩:=bind_some h;obtain⟨l1536,el1536,h⟩:=bind_some h;obtain⟨l1615,el1615,h⟩:=bind_some h
    repeat' first|refine And.intro ?_ ?_|(refine D9 hE eBh5 (P9 ex1415) fun x1415 hh=>?_;obtain rfl:=F2 hh;cbv)|(refine S7 (f:=eBg7) hE G1 (by decide) hO 0 rfl ht2 (l:=s1.2.2) (m:=[x1415]) .z (.lstc (.eq (eBh5 x1415) .z) (.lst0)) (P9 el1536) fun l1536 t1535 H hO ht1535 hh=>?_;obtain rfl:=F2 hh;cbv)|(refine Ct hE (f:=eBg7) G1 (P9 el1615) fun l1615 t1616 hh=>?_;obtain rfl:=F2 hh;cbv)|(have h:=F2 h;subst h;exact⟨_,⟨t1535,ht1535,rfl,rfl,hO⟩,.e rfl (.v (.ro _ _) (.e rfl (.z))),rfl⟩)
   clear hx;rintro e l H ⟨t1775,ht1775,rfl,rfl,hO⟩;cbv;cases h;exact⟨_,t1775,rfl,.e rfl (.e2 .z),rfl,ht1775,hO⟩
  ·cbv;obtain⟨s1776,hx,h⟩:=bind_some h;refine N2 cf187 hE O7 (fun e l H1=>∃u1:G6,T3 u1∧e= .normal∧l=[(0,.v (sr eBg7 s1776.1)),(1,.v (sr eBg7 s1.2.1)),(6,.v (.sl (lst eBg7 s1776.2) u1))]∧C5 Eq H0 [.tl u1] H1) (by kernel_rfl) ?_ ?_
   ·clear h;have h:=hx;cbv;obtain⟨x1857,ex1857,h⟩:=bind_some h;obtain⟨l1978,el1978,h⟩:=bind_some h;obtain⟨l2057,el2057,h⟩:=bind_some h
    repeat' first|refine And.intro ?_ ?_|(refine D9 hE eBh5 (P9 ex1857) fun x1857 hh=>?_;obtain rfl:=F2 hh;cbv)|(refine S7 (f:=eBg7) hE G1 (by decide) hO 0 rfl ht2 (l:=s1.2.2) (m:=[x1857]) .z (.lstc (.eq (eBh5 x1857) .z) (.lst0)) (P9 el1978) fun l1978 t1977 H hO ht1977 hh=>?_;obtain rfl:=F2 hh;cbv)|(refine Ct hE (f:=eBg7) G1 (P9 el2057) fun l2057 t2058 hh=>?_;obtain rfl:=F2 hh;cbv)|(have h:=F2 h;subst h;exact⟨_,⟨t1977,ht1977,rfl,rfl,hO⟩,.v (.ro _ _) (.e2 .z),rfl⟩)
   clear hx;rintro e l H ⟨t2217,ht2217,rfl,rfl,hO⟩;cbv;cases h;exact⟨_,t2217,rfl,.e rfl (.e2 .z),rfl,ht2217,hO⟩
  ·cbv;obtain⟨s2220,hx,h⟩:=bind_some h;refine N2 cf187 hE O7 (fun e l H1=>∃u1:G6,T3 u1∧e= .normal∧l=[(0,.v (sr eBg7 s2220.1)),(1,.v (sr eBg7 s1.2.1)),(6,.v (.sl (lst eBg7 s2220.2) u1))]∧C5 Eq H0 [.tl u1] H1) (by kernel_rfl) ?_ ?_
   ·clear h;have h:=hx;cbv;obtain⟨x2301,ex2301,h⟩:=bind_some h;obtain⟨l2422,el2422,h⟩:=bind_some h;obtain⟨l2501,el2501,h⟩:=bind_some h
    repeat' first|refine And.intro ?_ ?_|(refine D9 hE eBh5 (P9 ex2301) fun x2301 hh=>?_;obtain rfl:=F2 hh;cbv)|(refine S7 (f:=eBg7) hE G1 (by decide) hO 0 rfl ht2 (l:=s1.2.2) (m:=[x2301]) .z (.lstc (.eq (eBh5 x2301) .z) (.lst0)) (P9 el2422) fun l2422 t2421 H hO ht2421 hh=>?_;obtain rfl:=F2 hh;cbv)|(refine Ct hE (f:=eBg7) G1 (P9 el2501) fun l2501 t2502 hh=>?_;obtain rfl:=F2 hh;cbv)|(have h:=F2 h;subst h;exact⟨_,⟨t2421,ht2421,rfl,rfl,hO⟩,.v (.ro _ _) (.e2 .z),rfl⟩)
   clear hx;rintro e l H ⟨t2661,ht2661,rfl,rfl,hO⟩;cbv;cases h;exact⟨_,t2661,rfl,.e rfl (.e2 .z),rfl,ht2661,hO⟩
  ·cbv;obtain⟨s2662,hx,h⟩:=bind_some h;refine N2 cf187 hE O7 (fun e l H1=>∃u1:G6,T3 u1∧e= .normal∧l=[(0,.v (sr eBg7 s1.1)),(1,.v (sr eBg7 s2662.1)),(6,.v (.sl (lst eBg7 s2662.2) u1))]∧C5 Eq H0 [.tl u1] H1) (by kernel_rfl) ?_ ?_
   ·clear h;have h:=hx;cbv;obtain⟨x2743,ex2743,h⟩:=bind_some h;obtain⟨l2864,el2864,h⟩:=bind_some h;obtain⟨l2943,el2943,h⟩:=bind_some h
    repeat' first|refine And.intro ?_ ?_|(refine D9 hE eBh5 (P9 ex2743) fun x2743 hh=>?_;obtain rfl:=F2 hh;cbv)|(refine S7 (f:=eBg7) hE G1 (by decide) hO 0 rfl ht2 (l:=s1.2.2) (m:=[x2743]) .z (.lstc (.eq (eBh5 x2743) .z) (.lst0)) (P9 el2864) fun l2864 t2863 H hO ht2863 hh=>?_;obtain rfl:=F2 hh;cbv)|(refine Ct hE (f:=eBg7) G1 (P9 el2943) fun l2943 t2944 hh=>?_;obtain rfl:=F2 hh;cbv)|(have h:=F2 h;subst h;exact⟨_,⟨t2863,ht2863,rfl,rfl,hO⟩,.e rfl (.v (.ro _ _) (.e rfl (.z))),rfl⟩)
   clear hx;rintro e l H ⟨t3103,ht3103,rfl,rfl,hO⟩;cbv;cases h;exact⟨_,t3103,rfl,.e rfl (.e2 .z),rfl,ht3103,hO⟩
  cbv;obtain⟨s3104,hx,h⟩:=bind_some h;refine N2 cf187 hE O7 (fun e l H1=>∃u1:G6,T3 u1∧e= .normal∧l=[(0,.v (sr eBg7 s1.1)),(1,.v (sr eBg7 s3104.1)),(6,.v (.sl (lst eBg7 s3104.2) u1))]∧C5 Eq H0 [.tl u1] H1) (by kernel_rfl) ?_ ?_
  ·clear h;have h:=hx;cbv;obtain⟨x3185,ex3185,h⟩:=bind_some h;obtain⟨l3306,el3306,h⟩:=bind_some h;obtain⟨l3385,el3385,h⟩:=bind_some h
   repeat' first|refine And.intro ?_ ?_|(refine D9 hE eBh5 (P9 ex3185) fun x3185 hh=>?_;obtain rfl:=F2 hh;cbv)|(refine S7 (f:=eBg7) hE G1 (by decide) hO 0 rfl ht2 (l:=s1.2.2) (m:=[x3185]) .z (.lstc (.eq (eBh5 x3185) .z) (.lst0)) (P9 el3306) fun l3306 t3305 H hO ht3305 hh=>?_;obtain rfl:=F2 hh;cbv)|(refine Ct hE (f:=eBg7) G1 (P9 el3385) fun l3385 t3386 hh=>?_;obtain rfl:=F2 hh;cbv)|(have h:=F2 h;subst h;exact⟨_,⟨t3305,ht3305,rfl,rfl,hO⟩,.e rfl (.v (.ro _ _) (.e rfl (.z))),rfl⟩)
  clear hx;rintro e l H ⟨t3545,ht3545,rfl,rfl,hO⟩;cbv;cases h;exact⟨_,t3545,rfl,.e rfl (.e2 .z),rfl,ht3545,hO⟩
 ·exact .e2 (.v (.slt _ (.lst0)) (.z))
 ·exact⟨trivial,hO⟩
 clear hx
 rcases s3 with y3546|y3548
 ·rintro e l H ⟨t3547,ht3547,rfl,rfl,hO⟩;cbv;cases h;exact hK hO (.tup (.cons (.ro _ _) .z))
 rintro e l H ⟨t3549,ht3549,rfl,rfl,hO⟩;cbv;cases h;exact hK hO (.tup (.cons (.lit _ (E4)) .z))
theorem c235 (N aH bC r) (h:Hh N aH bC=some r):B9 prog 235 [sr eBg7 aH,vi bC] (.bool r):=by
 refine O0 cf0 func235 call235 ntmps235 ?_;intro E H0 K hE hK hO;cbv;obtain⟨s2,hx,h⟩:=bind_some h;refine H9 cf0 hE O7 (fun s1=>[(0,.v (sr eBg7 aH)),fi 1 bC,fi 5 s1]) (fun s1 H1=>C5 Eq H0 [] H1) (fun x e l H1=>match(generalizing:=false) x with| .inl y=>e= .exit 0∧l=[]∧C5 Eq H0 [] H1| .inr y=>e= .ret∧l=[(4,.b true)]∧C5 Eq H0 [] H1) (by kernel_rfl) ?_ hx ?_ hO ?_
 ·intro s1 H o hO h
  repeat' (cbv;first|apply C4 hE h<;>intro _ h|apply I8 hE|refine D9 hE eBh5 h fun _ h=>?_|(cases h;exact⟨_,_,rfl,⟨rfl,rfl,hO⟩,.b rfl (.z),rfl⟩)|(cases h;exact⟨_,rfl,.e rfl (.e2 .z),rfl,hO⟩)|(cases h;exact⟨_,_,rfl,⟨rfl,rfl,hO⟩,.z,rfl⟩))
 ·exact .e rfl (.e2 .z)
 clear hx
 rcases s2 with y4|y5
 ·rintro e l H ⟨rfl,rfl,hO⟩;cbv;cases h;exact hK hO .z
 rintro e l H ⟨rfl,rfl,hO⟩;cbv;cases h;exact hK hO .z
def cf188:=cfB [] [(2,12),(4,13),(6,8),(10,27)]
theorem c188 (N aA aG aD aH r) (h:IW N aA aG aD aH=some r):B9 prog 188 [(C8 aA),sr eBg5 aG,sr eBg7 aD,sr eBg7 aH] (.bool r):=by
 refine O0 cf188 func188 call188 ntmps188 ?_;intro E H0 K hE hK hO;cbv;refine B0 hE h (c187 N aD aH) .z fun r1 h=>?_;cbv;refine D9 hE eBh5 h fun x2 h=>?_
 repeat' (cbv;first|apply C4 hE h<;>intro _ h|apply I8 hE|refine B0 hE h (c233 _ _ _ _ _) (.r (.r (.r (.cons (.agg (.r (.r (.r (.r (.cons (.lit _ (E4)) .z)))))) .z)))) fun _ h=>?_|refine D9 hE eBh5 h fun x3 h=>?_|refine D9 hE eBh4 h fun _ h=>?_|refine E5 hE (g:=fun r6=>(HD r6)) h (c234 _ _ _ _) .z fun r6 h=>?_|(cases h;exact hK hO .z))
 cbv;obtain⟨s9,hx,h⟩:=bind_some h;refine H9 cf188 hE O7 (fun s8=>[(1,.v (sr eBg5 aG)),(3,.v (sr eBg7 aH)),(4,.v (.eref (D2 aA) 0)),(9,.v (sr eBg7 r1.1)),fi 12 x3.At,fi 13 s8]) (fun s8 H1=>C5 Eq H0 [] H1) (fun x e l H1=>match(generalizing:=false) x with| .inl y=>e= .exit 0∧l=[]∧C5 Eq H0 [] H1| .inr y=>e= .ret∧l=[(8,.b false)]∧C5 Eq H0 [] H1) (by kernel_rfl) ?_ hx ?_ hO ?_
 ·intro s8 H o hO h
  repeat' (cbv;first|apply C4 hE h<;>intro _ h|refine B0 hE h (c233 _ _ _ _ _) .z fun _ h=>?_|refine D9 hE eBh4 h fun _ h=>?_|refine E5 hE (g:=fun r10=>.bool r10) h (c235 _ _ _) .z fun r10 h=>?_|refine E5 hE (g:=fun r12=>(HD r12)) h (c234 _ _ _ _) .z fun r12 h=>?_|(cases h;exact⟨_,_,rfl,⟨rfl,rfl,hO⟩,.b rfl (.z),rfl⟩)|(cases h;exact⟨_,rfl,.e2 (.e4 .z),rfl,hO⟩)|(cases h;exact⟨_,_,rfl,⟨rfl,rfl,hO⟩,.z,rfl⟩))
 ·exact .e2 (.e4 .z)
 clear hx
 rcases s9 with y15|y16
 ·rintro e l H ⟨rfl,rfl,hO⟩;cbv;cases h;exact hK hO .z
 rintro e l H ⟨rfl,rfl,hO⟩;cbv;cases h;exact hK hO .z
def cf150:=cfC [14] [(7,14),(25,12),(26,9)] [(103,25)]
def Aw8 (N n:Nat):Prop:=∀(aA:A1) (aG:List A8) (aD:List B5) (aL:Int) (r:(List A9)),M3 N n aA aG aD aL=some r→B9 prog 150 [(C8 aA),sr eBg5 aG,sr eBg7 aD,vi aL] (sr eBg9 r)
def cf191:=cfB [] [(10,14),(14,12),(15,15)]
def AT7 (N n:Nat):Prop:=∀(bD:List A1) (aG:List A8) (aD:List B5) (aL:Int) (r:(List A9)),Ao N n bD aG aD aL=some r→B9 prog 191 [sr eBh0 bD,sr eBg5 aG,sr eBg7 aD,vi aL] (sr eBg9 r)
def cf192:=cfB [] [(9,13),(13,12),(14,15)]
def AT6 (N n:Nat):Prop:=∀(aA:A1) (aG:List A8) (aD:List B5) (aL:Int) (r:(List A9)),An N n aA aG aD aL=some r→B9 prog 192 [(C8 aA),sr eBg5 aG,sr eBg7 aD,vi aL] (sr eBg9 r)
def cf193:=cfB [] [(13,15)]
def Bb3 (N n:Nat):Prop:=∀(bD:List A1) (aG:List A8) (aD:List B5) (aL:Int) (r:(List A9)),CW N n bD aG aD aL=some r→B9 prog 193 [sr eBh0 bD,sr eBg5 aG,sr eBg7 aD,vi aL] (sr eBg9 r)
theorem k150 (N n:Nat) (ih150:Aw8 N n) (ih191:AT7 N n) (ih192:AT6 N n) (ih193:Bb3 N n):Aw8 N (n+1):=by
 intro aA aG aD aL r h
 unfold M3 at h
 refine O0 cf150 func150 call150 ntmps150 ?_;intro E H0 K hE hK hO
 repeat' (cbv;first|apply C4 hE h<;>intro _ h|refine B0 hE h (ih191 _ _ _ _) .z fun _ h=>?_|refine B0 hE h (ih192 _ _ _ _) .z fun _ h=>?_|refine B0 hE h (ih193 _ _ _ _) .z fun _ h=>?_|(cases h;exact hK hO .z))
 ·cbv;replace hO:=hO.tl0 (t:=.nil) rfl;obtain⟨s3,hx,h⟩:=bind_some h;refine P6 cf150 hE O7 (γ:=G6) (fun s1 g=>[(1,.v (sr eBg5 aG)),(2,.v (sr eBg7 aD)),(4,.v (.eref (D2 aA) 0)),(9,.v (.sl (lst eBg9 s1.1) g)),fi 10 s1.2]) (fun s1 g H1=>T3 g∧C5 Eq H0 [.tl g] H1) (fun x e l H1=>∃u1:G6,T3 u1∧e= .exit 0∧l=[(9,.v (.sl (lst eBg9 x) u1))]∧C5 Eq H0 [.tl u1] H1) (by kernel_rfl) ?_ .nil hx ?_ ?_ ?_
  ·rintro s1 t2 H o ⟨ht2,hO⟩ h
   repeat' (cbv;first|apply C4 hE h<;>intro _ h|apply I8 hE|refine B0 hE h (c186 _ _ _ _ _) .z fun _ h=>?_|refine D9 hE eBh4 h fun _ h=>?_|refine E5 hE (g:=fun r6=>(Dy r6)) h (c47 _ _) .z fun r6 h=>?_|(cases h;exact⟨_,t7,rfl,.e rfl (.e4 .z),rfl,ht7,hO⟩)|(cases h;exact⟨_,t2,rfl,.e rfl (.e4 .z),rfl,ht2,hO⟩)|(cases h;exact⟨_,_,rfl,⟨t2,ht2,rfl,rfl,hO⟩,.e rfl .z,rfl⟩)|refine S7 (f:=eBg9) hE N9 (by decide) hO 0 rfl ht2 (l:=s1.1) (m:=[(⟨[(⟨aA.Var,s1.2⟩:B5)],(⟨r6,0,[]⟩:A3)⟩:A9)]) .z (.lstc (.eq (eBh6 (⟨[(⟨aA.Var,s1.2⟩:B5)],(⟨r6,0,[]⟩:A3)⟩:A9)) (.agg (.cons (.lit _ (G8 ((eBh5 (⟨aA.Var,s1.2⟩:B5)).symm) (E4))) (.r (.r (.r (.r (.cons (.lit _ (E4)) .z)))))))) (.lst0)) h fun _ t7 H hO ht7 h=>?_)
  ·exact .e rfl (.e2 (.v (.slt _ (.lst0)) (.e rfl (.z))))
  ·exact⟨trivial,hO⟩
  clear hx;rintro e l H ⟨t9,ht9,rfl,rfl,hO⟩;cbv;cases h;exact hK hO (.ro _ _)
 cbv;replace hO:=hO.tl0 (t:=.nil) rfl;obtain⟨s15,hx,h⟩:=bind_some h;refine P6 cf150 hE O7 (γ:=G6) (fun s13 g=>[(1,.v (sr eBg5 aG)),(2,.v (sr eBg7 aD)),fi 3 aL,(4,.v (.eref (D2 aA) 0)),(9,.v (.sl (lst eBg9 s13.1) g)),fi 11 s13.2]) (fun s13 g H1=>T3 g∧C5 Eq H0 [.tl g] H1) (fun x e l H1=>∃u1:G6,T3 u1∧e= .exit 2∧l=[(9,.v (.sl (lst eBg9 x) u1))]∧C5 Eq H0 [.tl u1] H1) (by kernel_rfl) ?_ .nil hx ?_ ?_ ?_
 ·rintro s13 t14 H o ⟨ht14,hO⟩ h;cbv;apply I8 hE;cbv;apply C4 hE h<;>intro _ h
  ·cbv;refine D9 hE eBh2 h fun x16 h=>?_;cbv;refine B0 hE h (ih150 x16 aG aD aL) .z fun r17 h=>?_;cbv;obtain⟨s20,hx,h⟩:=bind_some h;refine P6 cf150 hE O7 (γ:=G6) (fun s18 g=>[(1,.v (sr eBg5 aG)),(2,.v (sr eBg7 aD)),fi 3 aL,(4,.v (.eref (D2 aA) 0)),(9,.v (.sl (lst eBg9 s18.1) g)),fi 11 s13.2,(12,.v (sr eBg9 r17)),fi 13 s18.2]) (fun s18 g H1=>T3 g∧C5 Eq H0 [.tl g] H1) (fun x e l H1=>∃u1:G6,T3 u1∧e= .exit 4∧l=[(1,.v (sr eBg5 aG)),(2,.v (sr eBg7 aD)),fi 3 aL,(4,.v (.eref (D2 aA) 0)),(9,.v (.sl (lst eBg9 x) u1)),fi 11 s13.2]∧C5 Eq H0 [.tl u1] H1) (by kernel_rfl) ?_ t14 hx ?_ ?_ ?_
   ·rintro s18 t19 H o ⟨ht19,hO⟩ h;cbv;apply I8 hE;cbv;apply C4 hE h<;>intro _ h
    ·cbv;refine D9 hE eBh6 h fun x21 h=>?_;cbv;refine E2 hE hO fun b22 H hO=>?_;cbv;refine C1 hE hO 0 rfl rfl fun H hO=>?_;cbv;obtain⟨s23,hx,h⟩:=bind_some h;refine N2 cf150 hE O7 (fun e l H1=>e= .normal∧l=[(1,.v (sr eBg5 aG)),(2,.v (sr eBg7 aD)),fi 3 aL,(4,.v (.eref (D2 aA) 0)),(9,.v (.sl (lst eBg9 s18.1) t19)),fi 11 s13.2,(12,.v (sr eBg9 r17)),fi 13 s18.2,(14,.v (.ref b22 0))]∧C5 Eq H0 [cb b22 [vi s23.Ref.Time,vi s23.Ref.Source,vi s23.Ref.Seq,vi s23.Choice,.sl [(G0 x21.d)] .full],.tl t19] H1) (by kernel_rfl) ?_ ?_
     ·clear h;have h:=hx
      repeat' (cbv;first|apply C4 hE h<;>intro _ h|refine C1 hE hO 0 rfl rfl fun H hO=>?_|(cases h;exact⟨_,⟨rfl,rfl,hO⟩,.e rfl (.e4 (.e4 .z)),rfl⟩))
     clear hx;rintro e l H ⟨rfl,rfl,hO⟩;cbv;apply C4 hE h<;>intro _ h
     ·cbv;refine D9 hE eBh6 h fun x24 h=>?_;cbv;apply C0 hE hO 0 rfl;cbv;refine S7 (f:=eBg9) hE N9 (by decide) hO 1 rfl ht19 (l:=s18.1) (m:=[(⟨x24.s,{s23 with Kids:=[x21.d]}⟩:A9)]) .z (.lstc (.eq (eBh6 (⟨x24.s,{s23 with Kids:=[x21.d]}⟩:A9)) (.agg (.r (.r (.r (.r (.r (.cons (.lit _ (G8 ((eBg8 x21.d).symm) (E4))) .z)))))))) (.lst0)) h fun l26 t25 H hO ht25 h=>?_;cbv;cases h;exact⟨_,t25,rfl,.e4 (.e4 .z),rfl,ht25,hO.tail⟩
     cbv;refine D9 hE eBh6 h fun x27 h=>?_
     repeat' (cbv;first|apply C4 hE h<;>intro _ h|refine B0 hE h (c188 _ _ _ _ _) .z fun _ h=>?_|refine D9 hE eBh6 h fun x29 h=>?_|apply C0 hE hO 0 rfl|(cases h;exact⟨_,t30,rfl,.e4 (.e4 .z),rfl,ht30,hO.tail⟩)|(cases h;exact⟨_,t19,rfl,.e4 (.e4 .z),rfl,ht19,hO.tail⟩)|refine S7 (f:=eBg9) hE N9 (by decide) hO 1 rfl ht19 (l:=s18.1) (m:=[(⟨x29.s,{s23 with Kids:=[x21.d]}⟩:A9)]) .z (.lstc (.eq (eBh6 (⟨x29.s,{s23 with Kids:=[x21.d]}⟩:A9)) (.agg (.r (.r (.r (.r (.r (.cons (.lit _ (G8 ((eBg8 x21.d).symm) (E4))) .z)))))))) (.lst0)) h fun _ t30 H hO ht30 h=>?_)
    cbv;cases h;exact⟨_,_,rfl,⟨t19,ht19,rfl,rfl,hO⟩,.e2 (.e4 .z),rfl⟩
   ·exact .e4 (.e4 .z)
   ·exact⟨ht14,hO⟩
   clear hx;rintro e l H ⟨t32,ht32,rfl,rfl,hO⟩;cbv;cases h;exact⟨_,t32,rfl,.e2 (.e4 .z),rfl,ht32,hO⟩
  cbv;cases h;exact⟨_,_,rfl,⟨t14,ht14,rfl,rfl,hO⟩,.e rfl .z,rfl⟩
 ·exact .e4 (.v (.slt _ (.lst0)) (.e rfl (.z)))
 ·exact⟨trivial,hO⟩
 clear hx;rintro e l H ⟨t33,ht33,rfl,rfl,hO⟩;cbv;cases h;exact hK hO (.ro _ _)
theorem k191 (N n:Nat) (ih150:Aw8 N n) (ih191:AT7 N n):AT7 N (n+1):=by
 intro bD aG aD aL r h
 unfold Ao at h
 refine O0 cf191 func191 call191 ntmps191 ?_;intro E H0 K hE hK hO;cbv;refine D9 hE eBh2 h fun x1 h=>?_;cbv;refine B0 hE h (ih150 x1 aG aD aL) .z fun r2 h=>?_;cbv;replace hO:=hO.tl0 (t:=.nil) rfl;obtain⟨s5,hx,h⟩:=bind_some h;refine P6 cf191 hE O7 (γ:=G6) (fun s3 g=>[(0,.v (sr eBh0 bD)),(1,.v (sr eBg5 aG)),(2,.v (sr eBg7 aD)),(9,.v (sr eBg9 r2)),(10,.v (.sl (lst eBg9 s3.1) g)),fi 11 s3.2]) (fun s3 g H1=>T3 g∧C5 Eq H0 [.tl g] H1) (fun x e l H1=>∃u1:G6,T3 u1∧e= .exit 0∧l=[(10,.v (.sl (lst eBg9 x) u1))]∧C5 Eq H0 [.tl u1] H1) (by kernel_rfl) ?_ .nil hx ?_ ?_ ?_
 ·rintro s3 t4 H o ⟨ht4,hO⟩ h
  repeat' (cbv;first|apply C4 hE h<;>intro _ h|apply I8 hE|refine B0 hE h (c187 _ _ _) .z fun _ h=>?_|refine B0 hE h (ih191 _ _ _ _) (.cons (.ro _ _) .z) fun r13 h=>?_|refine D9 hE eBh6 h fun x6 h=>?_|refine D9 hE eBh5 h fun _ h=>?_|(cases h;exact⟨_,t7,rfl,.e2 (.e4 .z),rfl,ht7,hO⟩)|(cases h;exact⟨_,_,rfl,⟨t4,ht4,rfl,rfl,hO⟩,.e rfl .z,rfl⟩)|refine S7 (f:=eBg9) hE N9 (by decide) hO 0 rfl ht4 (l:=s3.1) (m:=[(⟨x6.s,(⟨(⟨0,0,0⟩:Q4),0,[x6.d]⟩:A3)⟩:A9)]) .z (.lstc (.eq (eBh6 (⟨x6.s,(⟨(⟨0,0,0⟩:Q4),0,[x6.d]⟩:A3)⟩:A9)) (.agg (.r (.r (.r (.r (.r (.cons (.lit _ (G8 ((eBg8 x6.d).symm) (E4))) .z)))))))) (.lst0)) h fun _ t7 H hO ht7 h=>?_|refine Ct hE (f:=eBh0) LS h fun _ _ h=>?_)
  cbv;obtain⟨s16,hx,h⟩:=bind_some h;refine P6 cf191 hE O7 (γ:=G6) (fun s14 g=>[(0,.v (sr eBh0 bD)),(1,.v (sr eBg5 aG)),(2,.v (sr eBg7 aD)),(9,.v (sr eBg9 r2)),(10,.v (.sl (lst eBg9 s14.1) g)),fi 11 s3.2,(12,.v (.eref (GG x6) 0)),(15,.v (sr eBg9 r13)),fi 16 s14.2]) (fun s14 g H1=>T3 g∧C5 Eq H0 [.tl g] H1) (fun x e l H1=>∃u1:G6,T3 u1∧e= .exit 2∧l=[(0,.v (sr eBh0 bD)),(1,.v (sr eBg5 aG)),(2,.v (sr eBg7 aD)),(9,.v (sr eBg9 r2)),(10,.v (.sl (lst eBg9 x) u1)),fi 11 s3.2]∧C5 Eq H0 [.tl u1] H1) (by kernel_rfl) ?_ t4 hx ?_ ?_ ?_
  ·rintro s14 t15 H o ⟨ht15,hO⟩ h;cbv;apply I8 hE;cbv;apply C4 hE h<;>intro _ h
   ·cbv;refine D9 hE eBh6 h fun x17 h=>?_;cbv;refine E5 hE (g:=fun r18=>.tup [sr eBg7 r18.1,.bool r18.2]) h (c187 N x6.s x17.s) .z fun r18 h=>?_;cbv;refine D9 hE eBh6 h fun x19 h=>?_;cbv;refine Oo (f:=eBg6) hE J8 (by decide) (l:=[x6.d]) (m:=x19.d.Kids) (.lstc (.eq (eBg8 x6.d) .z) (.lst0)) .z h fun l20 h=>?_;cbv;refine S7 (f:=eBg9) hE N9 (by decide) hO 0 rfl ht15 (l:=s14.1) (m:=[(⟨r18.1,(⟨(⟨0,0,0⟩:Q4),0,l20⟩:A3)⟩:A9)]) .z (.lstc (.eq (eBh6 (⟨r18.1,(⟨(⟨0,0,0⟩:Q4),0,l20⟩:A3)⟩:A9)) .z) (.lst0)) h fun l22 t21 H hO ht21 h=>?_;cbv;cases h;exact⟨_,t21,rfl,.e rfl (.e4 (.e4 .z)),rfl,ht21,hO⟩
   cbv;cases h;exact⟨_,_,rfl,⟨t15,ht15,rfl,rfl,hO⟩,.e2 (.e4 .z),rfl⟩
  ·exact .e rfl (.e4 (.e4 .z))
  ·exact⟨ht4,hO⟩
  clear hx;rintro e l H ⟨t23,ht23,rfl,rfl,hO⟩;cbv;cases h;exact⟨_,t23,rfl,.e2 (.e4 .z),rfl,ht23,hO⟩
 ·exact .e4 (.v (.slt _ (.lst0)) (.e rfl (.z)))
 ·exact⟨trivial,hO⟩
 clear hx;rintro e l H ⟨t24,ht24,rfl,rfl,hO⟩;cbv;cases h;exact hK hO (.ro _ _)
theorem k192 (N n:Nat) (ih150:Aw8 N n) (ih192:AT6 N n):AT6 N (n+1):=by
 intro aA aG aD aL r h
 unfold An at h
 refine O0 cf192 func192 call192 ntmps192 ?_;intro E H0 K hE hK hO;cbv;refine D9 hE eBh2 h fun x1 h=>?_;cbv;refine B0 hE h (ih150 x1 aG aD aL) .z fun r2 h=>?_;cbv;replace hO:=hO.tl0 (t:=.nil) rfl;obtain⟨s5,hx,h⟩:=bind_some h;refine P6 cf192 hE O7 (γ:=G6) (fun s3 g=>[(1,.v (sr eBg5 aG)),(2,.v (sr eBg7 aD)),(4,.v (.eref (D2 aA) 0)),(9,.v (sr eBg9 r2)),(10,.v (.sl (lst eBg9 s3.1) g)),fi 11 s3.2]) (fun s3 g H1=>T3 g∧C5 Eq H0 [.tl g] H1) (fun x e l H1=>∃u1:G6,T3 u1∧e= .exit 0∧l=[(10,.v (.sl (lst eBg9 x) u1))]∧C5 Eq H0 [.tl u1] H1) (by kernel_rfl) ?_ .nil hx ?_ ?_ ?_
 ·rintro s3 t4 H o ⟨ht4,hO⟩ h
  repeat' (cbv;first|apply C4 hE h<;>intro _ h|apply I8 hE|refine B0 hE h (c187 _ _ _) .z fun _ h=>?_|refine B0 hE h (ih192 _ _ _ _) .z fun r11 h=>?_|refine D9 hE eBh6 h fun x6 h=>?_|refine D9 hE eBh5 h fun _ h=>?_|(cases h;exact⟨_,_,rfl,⟨t4,ht4,rfl,rfl,hO⟩,.e rfl .z,rfl⟩)|refine S7 (f:=eBg9) hE N9 (by decide) hO 0 rfl ht4 (l:=s3.1) (m:=[(⟨x6.s,(⟨(⟨0,0,0⟩:Q4),0,[x6.d]⟩:A3)⟩:A9)]) .z (.lstc (.eq (eBh6 (⟨x6.s,(⟨(⟨0,0,0⟩:Q4),0,[x6.d]⟩:A3)⟩:A9)) (.agg (.r (.r (.r (.r (.r (.cons (.lit _ (G8 ((eBg8 x6.d).symm) (E4))) .z)))))))) (.lst0)) h fun _ t7 H hO ht7 h=>?_)
  cbv;obtain⟨s14,hx,h⟩:=bind_some h;refine P6 cf192 hE O7 (γ:=G6) (fun s12 g=>[(1,.v (sr eBg5 aG)),(2,.v (sr eBg7 aD)),(4,.v (.eref (D2 aA) 0)),(9,.v (sr eBg9 r2)),(10,.v (.sl (lst eBg9 s12.1) g)),fi 11 s3.2,(12,.v (.eref (GG x6) 0)),(15,.v (sr eBg9 r11)),fi 16 s12.2]) (fun s12 g H1=>T3 g∧C5 Eq H0 [.tl g] H1) (fun x e l H1=>∃u1:G6,T3 u1∧e= .exit 2∧l=[(1,.v (sr eBg5 aG)),(2,.v (sr eBg7 aD)),(4,.v (.eref (D2 aA) 0)),(9,.v (sr eBg9 r2)),(10,.v (.sl (lst eBg9 x) u1)),fi 11 s3.2]∧C5 Eq H0 [.tl u1] H1) (by kernel_rfl) ?_ t7 hx ?_ ?_ ?_
  ·rintro s12 t13 H o ⟨ht13,hO⟩ h;cbv;apply I8 hE;cbv;apply C4 hE h<;>intro _ h
   ·cbv;refine D9 hE eBh6 h fun x15 h=>?_;cbv;refine E5 hE (g:=fun r16=>.tup [sr eBg7 r16.1,.bool r16.2]) h (c187 N x6.s x15.s) .z fun r16 h=>?_;cbv;refine D9 hE eBh6 h fun x17 h=>?_;cbv;refine Oo (f:=eBg6) hE J8 (by decide) (l:=[x6.d]) (m:=x17.d.Kids) (.lstc (.eq (eBg8 x6.d) .z) (.lst0)) .z h fun l18 h=>?_;cbv;refine S7 (f:=eBg9) hE N9 (by decide) hO 0 rfl ht13 (l:=s12.1) (m:=[(⟨r16.1,(⟨(⟨0,0,0⟩:Q4),0,l18⟩:A3)⟩:A9)]) .z (.lstc (.eq (eBh6 (⟨r16.1,(⟨(⟨0,0,0⟩:Q4),0,l18⟩:A3)⟩:A9)) .z) (.lst0)) h fun l20 t19 H hO ht19 h=>?_;cbv;cases h;exact⟨_,t19,rfl,.e rfl (.e4 (.e4 .z)),rfl,ht19,hO⟩
   cbv;cases h;exact⟨_,_,rfl,⟨t13,ht13,rfl,rfl,hO⟩,.e2 (.e4 .z),rfl⟩
  ·exact .e rfl (.e4 (.e4 .z))
  ·exact⟨ht7,hO⟩
  clear hx;rintro e l H ⟨t21,ht21,rfl,rfl,hO⟩;cbv;cases h;exact⟨_,t21,rfl,.e2 (.e4 .z),rfl,ht21,hO⟩
 ·exact .e4 (.v (.slt _ (.lst0)) (.e rfl (.z)))
 ·exact⟨trivial,hO⟩
 clear hx;rintro e l H ⟨t22,ht22,rfl,rfl,hO⟩;cbv;cases h;exact hK hO (.ro _ _)
theorem k193 (N n:Nat) (ih150:Aw8 N n):Bb3 N (n+1):=by
 intro bD aG aD aL r h
 unfold CW at h
 refine O0 cf193 func193 call193 ntmps193 ?_;intro E H0 K hE hK hO;cbv;replace hO:=hO.tl0 (t:=.full) rfl;obtain⟨s2,hx,h⟩:=bind_some h;refine H9 cf193 hE O7 (fun s1=>[(0,.v (sr eBh0 bD)),(1,.v (sr eBg5 aG)),(2,.v (sr eBg7 aD)),fi 3 aL,(9,.v (sr eBg9 s1.1)),fi 10 s1.2]) (fun s1 H1=>C5 Eq H0 [.tl .full] H1) (fun x e l H1=>e= .exit 0∧l=[(9,.v (sr eBg9 x))]∧C5 Eq H0 [.tl .full] H1) (by kernel_rfl) ?_ hx ?_ hO ?_
 ·intro s1 H o hO h;cbv;apply I8 hE;cbv;apply C4 hE h<;>intro _ h
  ·cbv;refine D9 hE eBh2 h fun x3 h=>?_;cbv;refine B0 hE h (ih150 x3 aG aD aL) .z fun r4 h=>?_;cbv;replace hO:=hO.tl0 (t:=.nil) rfl;obtain⟨s7,hx,h⟩:=bind_some h;refine P6 cf193 hE O7 (γ:=G6) (fun s5 g=>[(0,.v (sr eBh0 bD)),(1,.v (sr eBg5 aG)),(2,.v (sr eBg7 aD)),fi 3 aL,(9,.v (sr eBg9 s1.1)),fi 10 s1.2,(11,.v (sr eBg9 r4)),(12,.v (.sl (lst eBg9 s5.1) g)),fi 13 s5.2]) (fun s5 g H1=>T3 g∧C5 Eq H0 [.tl g,.tl .full] H1) (fun x e l H1=>∃u1:G6,T3 u1∧e= .exit 2∧l=[(0,.v (sr eBh0 bD)),(1,.v (sr eBg5 aG)),(2,.v (sr eBg7 aD)),fi 3 aL,fi 10 s1.2,(12,.v (.sl (lst eBg9 x) u1))]∧C5 Eq H0 [.tl u1,.tl .full] H1) (by kernel_rfl) ?_ .nil hx ?_ ?_ ?_
   ·rintro s5 t6 H o ⟨ht6,hO⟩ h;cbv;apply I8 hE;cbv;apply C4 hE h<;>intro _ h
    ·cbv;obtain⟨s10,hx,h⟩:=bind_some h;refine P6 cf193 hE O7 (γ:=G6) (fun s8 g=>[(0,.v (sr eBh0 bD)),(1,.v (sr eBg5 aG)),(2,.v (sr eBg7 aD)),fi 3 aL,(9,.v (sr eBg9 s1.1)),fi 10 s1.2,(11,.v (sr eBg9 r4)),(12,.v (.sl (lst eBg9 s8.1) g)),fi 13 s5.2,fi 14 s8.2]) (fun s8 g H1=>T3 g∧C5 Eq H0 [.tl g,.tl .full] H1) (fun x e l H1=>∃u1:G6,T3 u1∧e= .exit 4∧l=[(0,.v (sr eBh0 bD)),(1,.v (sr eBg5 aG)),(2,.v (sr eBg7 aD)),fi 3 aL,(9,.v (sr eBg9 s1.1)),fi 10 s1.2,(11,.v (sr eBg9 r4)),(12,.v (.sl (lst eBg9 x) u1)),fi 13 s5.2]∧C5 Eq H0 [.tl u1,.tl .full] H1) (by kernel_rfl) ?_ t6 hx ?_ ?_ ?_
     ·rintro s8 t9 H o ⟨ht9,hO⟩ h;cbv;apply I8 hE;cbv;apply C4 hE h<;>intro _ h
      ·cbv;refine D9 hE eBh6 h fun x11 h=>?_;cbv;refine D9 hE eBh6 h fun x12 h=>?_;cbv;refine E5 hE (g:=fun r13=>.tup [sr eBg7 r13.1,.bool r13.2]) h (c187 N x11.s x12.s) .z fun r13 h=>?_;cbv;apply C4 hE h<;>intro _ h
       ·cbv;refine D9 hE eBh6 h fun x14 h=>?_;cbv;refine S7 (f:=eBg6) hE J8 (by decide) (hO.tl0 (t:=.nil) rfl) 0 rfl trivial (l:=[]) (m:=x14.d.Kids) (.lst0) .z h fun l16 t15 H hO ht15 h=>?_;cbv;refine D9 hE eBh6 h fun x17 h=>?_;cbv;refine S7 (f:=eBg6) hE J8 (by decide) hO 0 rfl ht15 (l:=l16) (m:=[x17.d]) .z (.lstc (.eq (eBg8 x17.d) .z) (.lst0)) h fun l19 t18 H hO ht18 h=>?_;cbv;refine S7 (f:=eBg9) hE N9 (by decide) hO 1 rfl ht9 (l:=s8.1) (m:=[(⟨r13.1,(⟨(⟨0,0,0⟩:Q4),0,l19⟩:A3)⟩:A9)]) .z (.lstc (.eq (eBh6 (⟨r13.1,(⟨(⟨0,0,0⟩:Q4),0,l19⟩:A3)⟩:A9)) (.agg (.r (.r (.r (.r (.r (.cons (.ro _ _) .z)))))))) (.lst0)) h fun l21 t20 H hO ht20 h=>?_;cbv;cases h;exact⟨_,t20,rfl,.e2 (.e4 (.e4 .z)),rfl,ht20,hO.tail⟩
       cbv;cases h;exact⟨_,t9,rfl,.e2 (.e4 (.e4 .z)),rfl,ht9,hO⟩
      cbv;cases h;exact⟨_,_,rfl,⟨t9,ht9,rfl,rfl,hO⟩,.e rfl (.e4 (.e4 .z)),rfl⟩
     ·exact .e2 (.e4 (.e4 .z))
     ·exact⟨ht6,hO⟩
     clear hx;rintro e l H ⟨t22,ht22,rfl,rfl,hO⟩;cbv;cases h;exact⟨_,t22,rfl,.e rfl (.e4 (.e4 .z)),rfl,ht22,hO⟩
    cbv;cases h;exact⟨_,_,rfl,⟨t6,ht6,rfl,rfl,hO⟩,.e2 (.e4 .z),rfl⟩
   ·exact .e rfl (.e2 (.e4 (.v (.slt _ (.lst0)) (.e rfl (.z)))))
   ·exact⟨trivial,hO⟩
   clear hx;rintro e l H ⟨t23,ht23,rfl,rfl,hO⟩;cbv;cases h;exact⟨_,rfl,.e4 (.v (.ro _ _) (.e rfl (.z))),rfl,hO.tail⟩
  cbv;cases h;exact⟨_,_,rfl,⟨rfl,rfl,hO⟩,.e rfl .z,rfl⟩
 ·exact .e4 (.v (.sl _ (.lstc (.eq (eBh6 (⟨[],(⟨(⟨0,0,0⟩:Q4),0,[]⟩:A3)⟩:A9)) (.agg (.cons (.lit _ (E4)) (.r (.r (.r (.r (.cons (.lit _ (E4)) .z)))))))) (.lst0))) (.e rfl (.z)))
 clear hx;rintro e l H ⟨rfl,rfl,hO⟩;cbv;cases h;exact hK hO .z
theorem Qp (N:Nat):∀n,Aw8 N n∧AT7 N n∧AT6 N n∧Bb3 N n:=by
 intro n
 induction n with
 |zero=>exact⟨(by intro aA aG aD aL r h;unfold M3 at h;cases h),(by intro bD aG aD aL r h;unfold Ao at h;cases h),(by intro aA aG aD aL r h;unfold An at h;cases h),(by intro bD aG aD aL r h;unfold CW at h;cases h)⟩
 |succ n ih=>
  obtain⟨ih150,ih191,ih192,ih193⟩:=ih;exact⟨k150 N n ih150 ih191 ih192 ih193,k191 N n ih150 ih191,k192 N n ih150 ih192,k193 N n ih150⟩
theorem c150 (N n aA aG aD aL r)(h:M3 N n aA aG aD aL=some r):B9 prog 150 [(C8 aA),sr eBg5 aG,sr eBg7 aD,vi aL] (sr eBg9 r):=(Qp N n).1 aA aG aD aL r h
def cf151:=cfB [] [(2,9)]
theorem c151 (N aG aK r) (h:Dn N aG aK=some r):B9 prog 151 [sr eBg6 aG,(G0 aK)] (sr eBg6 r):=by
 refine O0 cf151 func151 call151 ntmps151 ?_;intro E H0 K hE hK hO;cbv;apply I8 hE;cbv;obtain⟨s2,hx,h⟩:=bind_some h;refine H9 cf151 hE O7 (fun s1=>[(0,.v (sr eBg6 aG)),(3,.v (.eref (U6 aK) 0)),fi 5 s1]) (fun s1 H1=>C5 Eq H0 [] H1) (fun x e l H1=>e= .exit 0∧l=[(0,.v (sr eBg6 aG)),(3,.v (.eref (U6 aK) 0)),fi 5 x]∧C5 Eq H0 [] H1) (by kernel_rfl) ?_ hx ?_ hO ?_
 ·intro s1 H o hO h
  repeat' (cbv;first|apply C4 hE h<;>intro _ h|refine B0 hE h (c34 _ _ _ _) .z fun _ h=>?_|refine D9 hE eBg8 h fun _ h=>?_|(cases h;exact⟨_,rfl,.e rfl (.e2 .z),rfl,hO⟩)|(cases h;exact⟨_,_,rfl,⟨rfl,rfl,hO⟩,.e rfl (.e2 .z),rfl⟩))
 ·exact .e rfl (.e2 .z)
 clear hx;rintro e l H ⟨rfl,rfl,hO⟩;cbv;refine Ct hE (f:=eBg6) J8 h fun l5 t6 h=>?_;cbv;refine S7 (f:=eBg6) hE J8 (by decide) (hO.tl0 (t:=.nil) rfl) 0 rfl trivial (l:=[]) (m:=l5) (.lst0) .z h fun l8 t7 H hO ht7 h=>?_;cbv;refine S7 (f:=eBg6) hE J8 (by decide) hO 0 rfl ht7 (l:=l8) (m:=[aK]) .z (.lstc (.eq (eBg8 aK) .z) (.lst0)) h fun l10 t9 H hO ht9 h=>?_;cbv;refine Ct hE (f:=eBg6) J8 h fun l11 t12 h=>?_;cbv;refine S7 (f:=eBg6) hE J8 (by decide) hO 0 rfl ht9 (l:=l10) (m:=l11) .z .z h fun l14 t13 H hO ht13 h=>?_;cbv;cases h;exact hK hO (.ro _ _)
theorem c98 (N aA aG r) (h:Cp N aA aG=some r):B9 prog 98 [(C8 aA),sr eBg5 aG] (sr eBg6 r):=by
 refine O0 cf0 func98 call98 ntmps98 ?_;intro E H0 K hE hK hO;cbv;refine B0 hE h (c150 N N aA aG ([]) 0) (.r (.r (.cons (.lit _ (E4)) .z))) fun r1 h=>?_;cbv;replace hO:=hO.tl0 (t:=.nil) rfl;obtain⟨s3,hx,h⟩:=bind_some h;refine H9 cf0 hE O7 (fun s2=>[(5,.v (sr eBg9 r1)),(6,.v (sr eBg6 s2.1)),fi 7 s2.2]) (fun s2 H1=>C5 Eq H0 [.tl .nil] H1) (fun x e l H1=>e= .exit 0∧l=[(6,.v (sr eBg6 x))]∧C5 Eq H0 [.tl .nil] H1) (by kernel_rfl) ?_ hx ?_ hO ?_
 ·intro s2 H o hO h
  repeat' (cbv;first|apply C4 hE h<;>intro _ h|apply I8 hE|refine B0 hE h (c151 _ _ _) .z fun _ h=>?_|refine D9 hE eBh6 h fun _ h=>?_|(cases h;exact⟨_,rfl,.e rfl (.e2 .z),rfl,hO⟩)|(cases h;exact⟨_,_,rfl,⟨rfl,rfl,hO⟩,.e rfl .z,rfl⟩))
 ·exact .e rfl (.v (.lit _ (E4)) (.e rfl (.z)))
 clear hx;rintro e l H ⟨rfl,rfl,hO⟩;cbv;cases h;exact hK hO .z
theorem c39 (N aA aH r)(h:MT N aA aH=some r):B9 prog 39 [(C8 aA),sr eBg5 aH] (.tup [sr eBg6 r.1,vi r.2]):=by
 refine O0 cf0 func39 call39 ntmps39 ?_;intro E H0 K hE hK hO
 repeat' (cbv;first|apply C4 hE h<;>intro _ h|refine B0 hE h (c41 _ _) .z fun _ h=>?_|refine B0 hE h (c42 _ _) .z fun _ h=>?_|refine B0 hE h (c98 _ _ _) .z fun _ h=>?_|(cases h;exact hK hO (.tup (.cons (.lit _ (E4)) .z)))|(cases h;exact hK hO .z))
theorem c8 (N aA aH r)(h:Ck N aA aH=some r):B9 prog 8 [(C8 aA),sr eBg5 aH] (.bool r):=by
 refine O0 cf0 func8 call8 ntmps8 ?_;intro E H0 K hE hK hO
 repeat' (cbv;first|apply C4 hE h<;>intro _ h|refine B0 hE h (c38 _ _ _) .z fun _ h=>?_|refine B0 hE h (c24 _) .z fun _ h=>?_|refine B0 hE h (c36 _ _) .z fun _ h=>?_|refine B0 hE h (c15 _ _ _) .z fun _ h=>?_|refine B0 hE h (c39 _ _ _) .z fun _ h=>?_|refine B0 hE h (c40 _ _ _) .z fun _ h=>?_|(cases h;exact hK hO .z))
end Go.Ab
