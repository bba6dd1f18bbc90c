/- GVCo2 GVCo3 -/
import Derived.Test.YtjhobbohibnioaaGreatDoorE12
set_option linter.all false
open List (append_assoc append_nil)
open Go.Ab.Ar (an ar lst nt_eq)
namespace Go.Ab
open Go.RowKit Go.Proofs Go.Proofs.Tryz I8
variable [Ar][I8]
set_option maxRecDepth 100000
def cf335 :Cf:=⟨[4],[],[],[],[],[]⟩
theorem c335 (N aD bK r)(h:FI N aD bK=some r):B6 prog 335 [(Bi aD),vi bK] (.tup [(E0 r.1),vi r.2]):=by
 unfold FI at h
 refine J9 cf335 func335 call335 ntmps335 ?_;intro E H0 K hE hK hO;cbv;refine D2 hE hO fun b1 H hO=>?_;cbv;refine E1 hE ?_;cbv;refine A8 hE h (fun _ h=>?_) fun _ h=>?_
 ·cbv;refine B2 hE hO 0 rfl rfl fun H hO=>?_;cbv;refine B0 hE hO 0 rfl ?_;cbv;cases h;exact hK hO (.refl _)
 cbv;refine C7 hE eAi0 h fun x2 h=>?_;cbv;refine B2 hE hO 0 rfl rfl fun H hO=>?_;cbv;refine B0 hE hO 0 rfl ?_;cbv;cases h;exact hK hO (.refl _)
theorem c376 (N aN r)(h:Bn N aN=some r):B6 prog 376 [vi aN] (.bool r):=by
 unfold Bn at h
 refine J9 cf0 func376 call376 ntmps376 ?_;intro E H0 K hE hK hO;cbv;cases h;exact hK hO (.refl _)
theorem c390 (N aN aJ r)(h:Bm N aN aJ=some r):B6 prog 390 [vi aN,(E0 aJ)] (.bool r):=by
 unfold Bm at h
 refine J9 cf0 func390 call390 ntmps390 ?_;intro E H0 K hE hK hO;cbv;cases h;exact hK hO (.refl _)
theorem c377 (N aN aJ r)(h:Bl N aN aJ=some r):B6 prog 377 [vi aN,(E0 aJ)] (vi r):=by
 unfold Bl at h
 refine J9 cf0 func377 call377 ntmps377 ?_;intro E H0 K hE hK hO;cbv;refine A7 hE h (c336 N aJ) (.refl _) fun r1 h=>?_;cbv;refine A8 hE h (fun _ h=>?_) fun _ h=>?_
 ·cbv;cases h;exact hK hO (.refl _)
 cbv;refine A7 hE h (c390 N aN aJ) (.refl _) fun r2 h=>?_;cbv;refine A8 hE h (fun _ h=>?_) fun _ h=>?_
 ·cbv;cases h;exact hK hO (.refl _)
 cbv;cases h;exact hK hO (.refl _)
def cf378 :Cf:=⟨[3,6],[],[],[],[],[]⟩
theorem c378 (N:Nat) (cA:D8) (aL:List B3) (cI:V) (cC:D8→B3→Option D8) (cJ:∀y1 y2 q,cC y1 y2=some q→S0 prog cI [(J6 y1),(E0 y2)] ((J6 q))) (r:D8) (h:N2 N cA aL cC=some r):B6 prog 378 [(J6 cA),sr eAi1 aL,cI] ((J6 r)):=by
 unfold N2 at h
 refine J9 cf378 func378 call378 ntmps378 ?_;intro E H0 K hE hK hO;cbv;refine D2 hE hO fun b1 H hO=>?_;cbv;refine D2 hE hO fun b2 H hO=>?_;cbv;refine E1 hE ?_;cbv;obtain⟨s4,hx,h⟩:=bind_some h;refine F3 cf378 hE K4 (fun s3=>[(2,.v (cI)),(3,.v (.ref b1 0)),(6,.v (.ref b2 0)),(9,.v (sr eAi1 aL)),fi 10 (Ar.len aL),fi 11 s3.1]) (fun(s3:Int×D8) H1=>B9 Eq H0 [cb b2 [vi 0,vi 0,vi 0,vi 0,.str (⟨#[]⟩)],cb b1 (ET s3.2)] H1) (fun x e l H1=>e= .exit 0∧l=[(3,.v (.ref b1 0)),(6,.v (.ref b2 0))]∧B9 Eq H0 [cb b2 [vi 0,vi 0,vi 0,vi 0,.str (⟨#[]⟩)],cb b1 (ET x)] H1) (by kernel_rfl) ?_ hx ?_ hO ?_
 ·intro s3 H o hO h;clear hx;cbv;refine A8 hE h (fun _ h=>?_) fun _ h=>?_
  ·cbv;refine C7 hE eAi0 h fun x5 h=>?_;cbv;refine B0 hE hO 1 rfl ?_;cbv;refine V7 hE (g:=fun r6=>(J6 r6)) h (fun r6 hx=>cJ s3.2 x5 r6 hx) (.refl _) fun r6 h=>?_;cbv;refine B2 hE hO 1 rfl rfl fun H hO=>?_;cbv;cases h;exact⟨_,rfl,.e2 (.e4 .z),rfl,hO⟩
  cbv;cases h;exact⟨_,_,rfl,⟨rfl,rfl,hO⟩,.e2 .z,rfl⟩
 ·exact .e2 (.e4 .z)
 clear hx;rintro e l H ⟨rfl,rfl,hO⟩;cbv;refine B0 hE hO 1 rfl ?_;cbv;refine B2 hE hO 0 rfl rfl fun H hO=>?_;cbv;refine B0 hE hO 0 rfl ?_;cbv;cases h;exact hK hO (.refl _)
def cf397 :Cf:=⟨[0],[],[],[],[],[]⟩
theorem c397 (N r)(h:Ba N=some r):B6 prog 397 [] ((E0 r)):=by
 unfold Ba at h
 refine J9 cf397 func397 call397 ntmps397 ?_;intro E H0 K hE hK hO;cbv;refine D2 hE hO fun b1 H hO=>?_;cbv;refine B2 hE hO 0 rfl rfl fun H hO=>?_;cbv;refine B0 hE hO 0 rfl ?_;cbv;cases h;exact hK hO (.refl _)
def cf398 :Cf:=⟨[2],[],[],[],[],[]⟩
theorem c398 (N bA aU r)(h:AZ N bA aU=some r):B6 prog 398 [.eref (P5 bA) 0,.eref (P5 aU) 0] ((E0 r)):=by
 unfold AZ at h
 refine J9 cf398 func398 call398 ntmps398 ?_;intro E H0 K hE hK hO;cbv;refine D2 hE hO fun b1 H hO=>?_;cbv;refine B2 hE hO 0 rfl rfl fun H hO=>?_;cbv;refine B0 hE hO 0 rfl ?_;cbv;cases h;exact hK hO (.refl _)
def cf399 :Cf:=⟨[2],[],[],[],[],[]⟩
theorem c399 (N bA aU r)(h:AY N bA aU=some r):B6 prog 399 [.eref (P5 bA) 0,.eref (P5 aU) 0] ((E0 r)):=by
 unfold AY at h
 refine J9 cf399 func399 call399 ntmps399 ?_;intro E H0 K hE hK hO;cbv;refine D2 hE hO fun b1 H hO=>?_;cbv;refine B2 hE hO 0 rfl rfl fun H hO=>?_;cbv;refine B0 hE hO 0 rfl ?_;cbv;cases h;exact hK hO (.refl _)
def cf400 :Cf:=⟨[2],[],[],[],[],[]⟩
theorem c400 (N bA aU r)(h:AX N bA aU=some r):B6 prog 400 [.eref (P5 bA) 0,.eref (P5 aU) 0] ((E0 r)):=by
 unfold AX at h
 refine J9 cf400 func400 call400 ntmps400 ?_;intro E H0 K hE hK hO;cbv;refine D2 hE hO fun b1 H hO=>?_;cbv;refine B2 hE hO 0 rfl rfl fun H hO=>?_;cbv;refine B0 hE hO 0 rfl ?_;cbv;cases h;exact hK hO (.refl _)
def cf401 :Cf:=⟨[1],[],[],[],[],[]⟩
theorem c401 (N bA r)(h:AW N bA=some r):B6 prog 401 [.eref (P5 bA) 0] ((E0 r)):=by
 unfold AW at h
 refine J9 cf401 func401 call401 ntmps401 ?_;intro E H0 K hE hK hO;cbv;refine D2 hE hO fun b1 H hO=>?_;cbv;refine B2 hE hO 0 rfl rfl fun H hO=>?_;cbv;refine B0 hE hO 0 rfl ?_;cbv;cases h;exact hK hO (.refl _)
def cf402 :Cf:=⟨[1],[],[],[],[],[]⟩
theorem c402 (N bA r)(h:AV N bA=some r):B6 prog 402 [.eref (P5 bA) 0] ((E0 r)):=by
 unfold AV at h
 refine J9 cf402 func402 call402 ntmps402 ?_;intro E H0 K hE hK hO;cbv;refine D2 hE hO fun b1 H hO=>?_;cbv;refine B2 hE hO 0 rfl rfl fun H hO=>?_;cbv;refine B0 hE hO 0 rfl ?_;cbv;cases h;exact hK hO (.refl _)
def cf391 :Cf:=⟨[6],[],[],[],[],[]⟩
theorem c391 (N aN aB aC r)(h:Cq N aN aB aC=some r):B6 prog 391 [vi aN,(E0 aB),(E0 aC)] ((E0 r)):=by
 unfold Cq at h
 refine J9 cf391 func391 call391 ntmps391 ?_;intro E H0 K hE hK hO;cbv;refine D2 hE hO fun b1 H hO=>?_;cbv;refine Yk hE [0,1,2,3,4,5] (by rfl) ?_;cbv;refine A8 hE h (fun _ h=>?_) fun _ h=>?_
 ·cbv;refine A7 hE h (c397 N) (.refl _) fun r2 h=>?_;cbv;refine B2 hE hO 0 rfl rfl fun H hO=>?_;cbv;refine B0 hE hO 0 rfl ?_;cbv;cases h;exact hK hO (.refl _)
 cbv;refine A8 hE h (fun _ h=>?_) fun _ h=>?_
 ·cbv;refine V7 hE (g:=fun r3=>(E0 r3)) h (fun r3 hx=>B6.value (F:=[]) (C:=[.eref (P5 aB) 0,.eref (P5 aC) 0]) (c398 N aB aC r3 hx)) (.refl _) fun r3 h=>?_;cbv;refine B2 hE hO 0 rfl rfl fun H hO=>?_;cbv;refine B0 hE hO 0 rfl ?_;cbv;cases h;exact hK hO (.refl _)
 cbv;refine A8 hE h (fun _ h=>?_) fun _ h=>?_
 ·cbv;refine V7 hE (g:=fun r4=>(E0 r4)) h (fun r4 hx=>B6.value (F:=[]) (C:=[.eref (P5 aB) 0,.eref (P5 aC) 0]) (c399 N aB aC r4 hx)) (.refl _) fun r4 h=>?_;cbv;refine B2 hE hO 0 rfl rfl fun H hO=>?_;cbv;refine B0 hE hO 0 rfl ?_;cbv;cases h;exact hK hO (.refl _)
 cbv;refine A8 hE h (fun _ h=>?_) fun _ h=>?_
 ·cbv;refine V7 hE (g:=fun r5=>(E0 r5)) h (fun r5 hx=>B6.value (F:=[]) (C:=[.eref (P5 aB) 0,.eref (P5 aC) 0]) (c400 N aB aC r5 hx)) (.refl _) fun r5 h=>?_;cbv;refine B2 hE hO 0 rfl rfl fun H hO=>?_;cbv;refine B0 hE hO 0 rfl ?_;cbv;cases h;exact hK hO (.refl _)
 cbv;refine A8 hE h (fun _ h=>?_) fun _ h=>?_
 ·cbv;refine V7 hE (g:=fun r6=>(E0 r6)) h (fun r6 hx=>B6.value (F:=[]) (C:=[.eref (P5 aB) 0]) (c401 N aB r6 hx)) (.refl _) fun r6 h=>?_;cbv;refine B2 hE hO 0 rfl rfl fun H hO=>?_;cbv;refine B0 hE hO 0 rfl ?_;cbv;cases h;exact hK hO (.refl _)
 cbv;refine A8 hE h (fun _ h=>?_) fun _ h=>?_
 ·cbv;refine V7 hE (g:=fun r7=>(E0 r7)) h (fun r7 hx=>B6.value (F:=[]) (C:=[.eref (P5 aC) 0]) (c402 N aC r7 hx)) (.refl _) fun r7 h=>?_;cbv;refine B2 hE hO 0 rfl rfl fun H hO=>?_;cbv;refine B0 hE hO 0 rfl ?_;cbv;cases h;exact hK hO (.refl _)
 cbv;cases h
def cf380 :Cf:=⟨[4],[(5,14)],[],[],[],[]⟩
theorem c380 (N aB aC r)(h:CL N aB aC=some r):B6 prog 380 [(J6 aB),(J6 aC)] ((J6 r)):=by
 unfold CL at h
 refine J9 cf380 func380 call380 ntmps380 ?_;intro E H0 K hE hK hO;cbv;refine D2 hE hO fun b1 H hO=>?_;cbv;refine A8 hE h (fun _ h=>?_) fun _ h=>?_
 ·cbv;refine B2 hE hO 0 rfl rfl fun H hO=>?_;cbv;refine B0 hE hO 0 rfl ?_;cbv;cases h;exact hK hO (.refl _)
 cbv;refine A8 hE h (fun _ h=>?_) fun _ h=>?_
 ·cbv;refine B2 hE hO 0 rfl rfl fun H hO=>?_;cbv;refine B0 hE hO 0 rfl ?_;cbv;cases h;exact hK hO (.refl _)
 cbv;refine C6 hE (g:=fun r2=>(E0 r2)) h (c391 N aB.Kind aB.Value aC.Value) (.refl _) fun r2 h=>?_;cbv;refine B2 hE hO 0 rfl rfl fun H hO=>?_;cbv;refine B0 hE hO 0 rfl ?_;cbv;cases h;exact hK hO (.refl _)
def cf381 :Cf:=⟨[4],[],[],[],[],[]⟩
theorem c381 (N aN aJ r)(h:CK N aN aJ=some r):B6 prog 381 [vi aN,(E0 aJ)] ((E0 r)):=by
 unfold CK at h
 refine J9 cf381 func381 call381 ntmps381 ?_;intro E H0 K hE hK hO;cbv;refine D2 hE hO fun b1 H hO=>?_;cbv;refine A8 hE h (fun _ h=>?_) fun _ h=>?_
 ·cbv;refine B2 hE hO 0 rfl rfl fun H hO=>?_;cbv;refine B0 hE hO 0 rfl ?_;cbv;cases h;exact hK hO (.refl _)
 cbv;refine B2 hE hO 0 rfl rfl fun H hO=>?_;cbv;refine B0 hE hO 0 rfl ?_;cbv;cases h;exact hK hO (.refl _)
def cf379 :Cf:=⟨[5],[(1,6)],[],[],[],[]⟩
theorem c379 (N aB aJ aY r)(h:Cr N aB aJ aY=some r):B6 prog 379 [(J6 aB),(E0 aJ),.eref [vi aY] 0] ((J6 r)):=by
 unfold Cr at h
 refine J9 cf379 func379 call379 ntmps379 ?_;intro E H0 K hE hK hO;cbv;refine D2 hE hO fun b1 H hO=>?_;cbv;refine C6 hE (g:=fun r2=>(E0 r2)) h (c381 N aY aJ) (.refl _) fun r2 h=>?_;cbv;refine A7 hE h (c380 N aB (⟨aY,1,r2⟩:D8)) (.refl _) fun r3 h=>?_;cbv;refine B2 hE hO 0 rfl rfl fun H hO=>?_;cbv;refine B0 hE hO 0 rfl ?_;cbv;cases h;exact hK hO (.refl _)
theorem c392 (N aB r) (h:Dr N aB=some r):B6 prog 392 [(J6 aB)] (vi r):=by
 unfold Dr at h
 refine J9 cf0 func392 call392 ntmps392 ?_;intro E H0 K hE hK hO;cbv;refine A7 hE h (c376 N aB.Kind) (.refl _) fun r1 h=>?_;cbv;refine A8 hE h (fun _ h=>?_) fun _ h=>?_
 ·cbv;cases h;exact hK hO (.refl _)
 cbv;refine A8 hE h (fun _ h=>?_) fun _ h=>?_
 ·cbv;cases h;exact hK hO (.refl _)
 cbv;refine A8 hE h (fun _ h=>?_) fun _ h=>?_
 ·cbv;refine A8 hE h (fun _ h=>?_) fun _ h=>?_
  ·cbv;cases h;exact hK hO (.refl _)
  cbv;cases h;exact hK hO (.refl _)
 cbv;refine A8 hE h (fun _ h=>?_) fun _ h=>?_
 ·cbv;refine A8 hE h (fun _ h=>?_) fun _ h=>?_
  ·cbv;cases h;exact hK hO (.refl _)
  cbv;cases h;exact hK hO (.refl _)
 cbv;refine A7 hE h (c336 N aB.Value) (.refl _) fun r2 h=>?_;cbv;refine A8 hE h (fun _ h=>?_) fun _ h=>?_
 ·cbv;refine A7 hE h (c390 N aB.Kind aB.Value) (.refl _) fun r3 h=>?_;cbv;refine A8 hE h (fun _ h=>?_) fun _ h=>?_
  ·cbv;cases h;exact hK hO (.refl _)
  cbv;cases h;exact hK hO (.refl _)
 cbv;cases h;exact hK hO (.refl _)
def cf382 :Cf:=⟨[4],[],[],[],[],[]⟩
theorem c382 (N aB bH r)(h:CM N aB bH=some r):B6 prog 382 [(J6 aB),(E0 bH)] (.tup [(E0 r.1),vi r.2]):=by
 unfold CM at h
 refine J9 cf382 func382 call382 ntmps382 ?_;intro E H0 K hE hK hO;cbv;refine D2 hE hO fun b1 H hO=>?_;cbv;refine A7 hE h (c392 N aB) (.refl _) fun r2 h=>?_;cbv;refine A8 hE h (fun _ h=>?_) fun _ h=>?_
 ·cbv;refine B2 hE hO 0 rfl rfl fun H hO=>?_;cbv;refine B0 hE hO 0 rfl ?_;cbv;cases h;exact hK hO (.refl _)
 cbv;refine A7 hE h (c377 N aB.Kind bH) (.refl _) fun r3 h=>?_;cbv;refine A8 hE h (fun _ h=>?_) fun _ h=>?_
 ·cbv;refine B2 hE hO 0 rfl rfl fun H hO=>?_;cbv;refine B0 hE hO 0 rfl ?_;cbv;cases h;exact hK hO (.refl _)
 cbv;refine A8 hE h (fun _ h=>?_) fun _ h=>?_
 ·cbv;refine B2 hE hO 0 rfl rfl fun H hO=>?_;cbv;refine B0 hE hO 0 rfl ?_;cbv;cases h;exact hK hO (.refl _)
 cbv;refine A8 hE h (fun _ h=>?_) fun _ h=>?_
 ·cbv;refine B2 hE hO 0 rfl rfl fun H hO=>?_;cbv;refine B0 hE hO 0 rfl ?_;cbv;cases h;exact hK hO (.refl _)
 cbv;refine B2 hE hO 0 rfl rfl fun H hO=>?_;cbv;refine B0 hE hO 0 rfl ?_;cbv;cases h;exact hK hO (.refl _)
def cf357 :Cf:=⟨[6],[],[],[],[],[]⟩
theorem c357 (N aN aL bH r) (h:FT N aN aL bH=some r):B6 prog 357 [vi aN,sr eAi1 aL,(E0 bH)] (.tup [(E0 r.1),vi r.2]):=by
 unfold FT at h
 refine J9 cf357 func357 call357 ntmps357 ?_;intro E H0 K hE hK hO;cbv;refine D2 hE hO fun b1 H hO=>?_;cbv;refine A7 hE h (c376 N aN) (.refl _) fun r2 h=>?_;cbv;refine A8 hE h (fun _ h=>?_) fun _ h=>?_
 ·cbv;refine B2 hE hO 0 rfl rfl fun H hO=>?_;cbv;refine B0 hE hO 0 rfl ?_;cbv;cases h;exact hK hO (.refl _)
 cbv;refine E1 hE ?_;cbv;refine A8 hE h (fun _ h=>?_) fun _ h=>?_
 ·cbv;refine B2 hE hO 0 rfl rfl fun H hO=>?_;cbv;refine B0 hE hO 0 rfl ?_;cbv;cases h;exact hK hO (.refl _)
 cbv;refine E1 hE ?_;cbv;obtain⟨s4,hx,h⟩:=bind_some h;refine F3 cf357 hE K4 (fun s3=>[(1,.v (sr eAi1 aL)),(3,.v (.eref [vi aN] 0)),(5,.v (.eref (P5 bH) 0)),(6,.v (.ref b1 0)),(22,.v (sr eAi1 aL)),fi 23 (Ar.len aL),fi 24 s3]) (fun s3 H1=>B9 Eq H0 [cb b1 [vi 0,vi 0,.str (⟨#[]⟩)]] H1) (fun x e l H1=>match(generalizing:=false) x with| .inl y=>e= .exit 1∧l=[(1,.v (sr eAi1 aL)),(3,.v (.eref [vi aN] 0)),(5,.v (.eref (P5 bH) 0)),(6,.v (.ref b1 0))]∧B9 Eq H0 [cb b1 [vi 0,vi 0,.str (⟨#[]⟩)]] H1| .inr y=>e= .ret∧l=[(6,.v (.ref b1 0)),fi 7 y]∧B9 Eq H0 [cb b1 [vi 0,vi 0,.str (⟨#[]⟩)]] H1) (by kernel_rfl) ?_ hx ?_ hO ?_
 ·intro s3 H o hO h;clear hx;cbv;refine A8 hE h (fun _ h=>?_) fun _ h=>?_
  ·cbv;refine C7 hE eAi0 h fun x5 h=>?_;cbv;refine A7 hE h (c377 N aN x5) (.refl _) fun r6 h=>?_;cbv;refine A8 hE h (fun _ h=>?_) fun _ h=>?_
   ·cbv;refine B2 hE hO 0 rfl rfl fun H hO=>?_;cbv;cases h;exact⟨_,_,rfl,⟨rfl,rfl,hO⟩,.e2 .z,rfl⟩
   cbv;cases h;exact⟨_,rfl,.e rfl (.e2 (.e4 .z)),rfl,hO⟩
  cbv;cases h;exact⟨_,_,rfl,⟨rfl,rfl,hO⟩,.e4 .z,rfl⟩
 ·exact .e rfl (.e2 (.e4 .z))
 clear hx
 rcases s4 with y7|y10
 ·rintro e l H ⟨rfl,rfl,hO⟩;cbv;refine A7 hE (g:=fun r8=>(J6 r8)) h (fun r8 hx=>c378 N (⟨aN,0,(⟨0,0,⟨#[]⟩⟩:B3)⟩:D8) aL (.func (.func 379) [] [.eref [vi aN] 0]) (fun y1 y2=>Cr N y1 y2 aN) (fun y1 y2 r hx=>B6.value (F:=[]) (C:=[.eref [vi aN] 0]) (c379 N y1 y2 aN r hx)) r8 hx) (.refl _) fun r8 h=>?_;cbv;refine A7 hE h (c382 N r8 bH) (.refl _) fun r9 h=>?_;cbv;refine B2 hE hO 0 rfl rfl fun H hO=>?_;cbv;refine B0 hE hO 0 rfl ?_;cbv;cases h;exact hK hO (.refl _)
 rintro e l H ⟨rfl,rfl,hO⟩;cbv;refine B0 hE hO 0 rfl ?_;cbv;cases h;exact hK hO (.refl _)
def cf334 :Cf:=⟨[4],[],[],[],[],[]⟩
theorem c334 (N aF aD r) (h:Az N aF aD=some r):B6 prog 334 [(AE aF),(W2 aD)] (.tup [(E0 r.1),vi r.2]):=by
 unfold Az at h
 refine J9 cf334 func334 call334 ntmps334 ?_;intro E H0 K hE hK hO;cbv;refine D2 hE hO fun b1 H hO=>?_;cbv;refine A7 hE h (c333 N aF aD.Var) (.refl _) fun r2 h=>?_;cbv;refine E1 hE ?_;cbv;replace hO:=hO.tl0 (t:=.nil) rfl;obtain⟨s5,hx,h⟩:=bind_some h;refine M9 cf334 hE K4 (γ:=E8) (fun s3 g=>[(3,.v (.eref (Bw aD) 0)),(4,.v (.ref b1 0)),(6,.v (.sl (lst eAi1 s3.1) g)),(14,.v (sr eAh5 r2)),fi 15 (Ar.len r2),fi 16 s3.2]) (fun s3 g H1=>Bz g∧B9 Eq H0 [.tl g,cb b1 [vi 0,vi 0,.str (⟨#[]⟩)]] H1) (fun x e l H1=>match(generalizing:=false) x with| .inl y=>∃u1:E8,Bz u1∧e= .exit 0∧l=[(3,.v (.eref (Bw aD) 0)),(4,.v (.ref b1 0)),(6,.v (.sl (lst eAi1 y) u1))]∧B9 Eq H0 [.tl u1,cb b1 [vi 0,vi 0,.str (⟨#[]⟩)]] H1| .inr y=>∃u1:E8,Bz u1∧e= .ret∧l=[(4,.v (.ref b1 0)),fi 5 y]∧B9 Eq H0 [.tl u1,cb b1 [vi 0,vi 0,.str (⟨#[]⟩)]] H1) (by kernel_rfl) ?_ .nil hx ?_ ?_ ?_
 ·rintro s3 t4 H o ⟨ht4,hO⟩ h;clear hx;cbv;refine A8 hE h (fun _ h=>?_) fun _ h=>?_
  ·cbv;refine C7 hE eAi4 h fun x6 h=>?_;cbv;refine A7 hE h (c335 N x6 aD.Field) (.refl _) fun r7 h=>?_;cbv;refine A8 hE h (fun _ h=>?_) fun _ h=>?_
   ·cbv;refine B2 hE hO 1 rfl rfl fun H hO=>?_;cbv;cases h;exact⟨_,_,rfl,⟨t4,ht4,rfl,rfl,hO⟩,.e2 .z,rfl⟩
   cbv;refine Aw (f:=eAi1) hE MR (by decide) hO 0 rfl ht4 (l:=s3.1) (m:=[r7.1]) (.refl _) (.lstc (.eq (eAi0 r7.1) (.refl _)) (.lst0)) h fun l9 t8 H hO ht8 h=>?_;cbv;cases h;exact⟨_,t8,rfl,.e2 (.e4 .z),rfl,ht8,hO⟩
  cbv;cases h;exact⟨_,_,rfl,⟨t4,ht4,rfl,rfl,hO⟩,.e rfl (.e2 .z),rfl⟩
 ·exact .e2 (.v (.slt _ (.lst0)) (.e rfl (.e rfl (.e rfl (.z)))))
 ·exact⟨trivial,hO⟩
 clear hx
 rcases s5 with y10|y13
 ·rintro e l H ⟨t11,ht11,rfl,rfl,hO⟩;cbv;refine A7 hE h (c357 N aD.Kind y10 aD.Value) (.cons (.refl _) (.cons (.ro _ _) (.refl _))) fun r12 h=>?_;cbv;refine B2 hE hO 1 rfl rfl fun H hO=>?_;cbv;refine B0 hE hO 1 rfl ?_;cbv;cases h;exact hK hO (.refl _)
 rintro e l H ⟨t14,ht14,rfl,rfl,hO⟩;cbv;refine B0 hE hO 1 rfl ?_;cbv;cases h;exact hK hO (.refl _)
def cf308 :Cf:=⟨[4,7],[],[(38,12),(63,19)],[],[],[]⟩
theorem c308 (N aF aD r) (h:AR N aF aD=some r):B6 prog 308 [(AE aF),(W2 aD)] (.tup [(E0 r.1),vi r.2]):=by
 unfold AR at h
 refine J9 cf308 func308 call308 ntmps308 ?_;intro E H0 K hE hK hO;cbv;refine D2 hE hO fun b1 H hO=>?_;cbv;refine A7 hE h (c333 N aF aD.Var) (.refl _) fun r2 h=>?_;cbv;refine A8 hE h (fun _ h=>?_) fun _ h=>?_
 ·cbv;refine B2 hE hO 0 rfl rfl fun H hO=>?_;cbv;refine B0 hE hO 0 rfl ?_;cbv;cases h;exact hK hO (.refl _)
 cbv;refine A8 hE h (fun _ h=>?_) fun _ h=>?_
 ·cbv;refine E1 hE ?_;cbv;refine B2 hE hO 0 rfl rfl fun H hO=>?_;cbv;refine B0 hE hO 0 rfl ?_;cbv;cases h;exact hK hO (.refl _)
 cbv;refine A8 hE h (fun _ h=>?_) fun _ h=>?_
 ·cbv;refine A7 hE h (c334 N aF aD) (.refl _) fun r3 h=>?_;cbv;refine B2 hE hO 0 rfl rfl fun H hO=>?_;cbv;refine B0 hE hO 0 rfl ?_;cbv;cases h;exact hK hO (.refl _)
 cbv;refine D2 hE hO fun b4 H hO=>?_;cbv;refine B2 hE hO 0 rfl rfl fun H hO=>?_;cbv;obtain⟨s5,hx,h⟩:=bind_some h;refine I7 cf308 hE K4 (fun e l H1=>match(generalizing:=false) s5 with| .inl y=>e= .normal∧l=[(3,.v (.eref (Bw aD) 0)),(4,.v (.ref b1 0)),(7,.v (.ref b4 0))]∧B9 Eq H0 [cb b4 (KU y),cb b1 [vi 0,vi 0,.str (⟨#[]⟩)]] H1| .inr y=>e= .ret∧l=[(4,.v (.ref b1 0)),fi 5 10]∧B9 Eq H0 [cb b4 (KU aF.event),cb b1 [vi 0,vi 0,.str (⟨#[]⟩)]] H1) (by kernel_rfl) ?_ ?_
 ·clear h;have h:=hx;clear hx;cbv;refine A8 hE h (fun _ h=>?_) fun _ h=>?_
  ·cbv;refine E1 hE ?_;cbv;refine A8 hE h (fun _ h=>?_) fun _ h=>?_
   ·cbv;refine B2 hE hO 1 rfl rfl fun H hO=>?_;cbv;cases h;exact⟨_,⟨rfl,rfl,hO⟩,.e2 .z,rfl⟩
   cbv;refine E1 hE ?_;cbv;refine C7 hE eAi4 h fun x6 h=>?_;cbv;refine B2 hE hO 0 rfl rfl fun H hO=>?_;cbv;cases h;exact⟨_,⟨rfl,rfl,hO⟩,.e rfl (.e2 .z),rfl⟩
  cbv;cases h;exact⟨_,⟨rfl,rfl,hO⟩,.e rfl (.e2 .z),rfl⟩
 clear hx
 rcases s5 with y7|y11
 ·rintro e l H ⟨rfl,rfl,hO⟩;cbv;refine A8 hE h (fun _ h=>?_) fun _ h=>?_
  ·cbv;refine B0 hE hO 0 rfl ?_;cbv;refine B2 hE hO 1 rfl rfl fun H hO=>?_;cbv;refine B0 hE hO 1 rfl ?_;cbv;cases h;exact hK hO (.refl _)
  cbv;refine B0 hE hO 0 rfl ?_;cbv;refine A7 hE h (c335 N y7 aD.Field) (.refl _) fun r8 h=>?_;cbv;obtain⟨s9,hx,h⟩:=bind_some h;refine I7 cf308 hE K4 (fun e l H1=>e= .normal∧l=[(4,.v (.ref b1 0)),(8,.v (.eref (P5 r8.1) 0)),fi 9 s9]∧B9 Eq H0 [cb b4 (KU y7),cb b1 [vi 0,vi 0,.str (⟨#[]⟩)]] H1) (by kernel_rfl) ?_ ?_
  ·clear h;have h:=hx;clear hx;cbv;refine A8 hE h (fun _ h=>?_) fun _ h=>?_
   ·cbv;refine A7 hE h (c336 N r8.1) (.refl _) fun r10 h=>?_;cbv;cases h;exact⟨_,⟨rfl,rfl,hO⟩,.e rfl (.e2 .z),rfl⟩
   cbv;cases h;exact⟨_,⟨rfl,rfl,hO⟩,.e rfl (.e2 .z),rfl⟩
  clear hx;rintro e l H ⟨rfl,rfl,hO⟩;cbv;refine A8 hE h (fun _ h=>?_) fun _ h=>?_
  ·cbv;refine B2 hE hO 1 rfl rfl fun H hO=>?_;cbv;refine B0 hE hO 1 rfl ?_;cbv;cases h;exact hK hO (.refl _)
  cbv;refine B2 hE hO 1 rfl rfl fun H hO=>?_;cbv;refine B0 hE hO 1 rfl ?_;cbv;cases h;exact hK hO (.refl _)
 rintro e l H ⟨rfl,rfl,hO⟩;cbv;refine B0 hE hO 1 rfl ?_;cbv;cases h;exact hK hO (.refl _)
def cf309 :Cf:=⟨[],[],[(15,8),(22,13)],[],[],[]⟩
theorem c309 (N aP bE r) (h:ES N aP bE=some r):B6 prog 309 [vi aP,sr (V.int .i64) bE] (vi r):=by
 unfold ES at h
 refine J9 cf309 func309 call309 ntmps309 ?_;intro E H0 K hE hK hO;cbv;refine E1 hE ?_;cbv;obtain⟨s2,hx,h⟩:=bind_some h;refine F3 cf309 hE K4 (fun s1=>[fi 0 aP,(1,.v (sr (V.int .i64) bE)),(8,.v (sr (V.int .i64) bE)),fi 9 (Ar.len bE),fi 10 s1]) (fun s1 H1=>B9 Eq H0 [] H1) (fun x e l H1=>match(generalizing:=false) x with| .inl y=>e= .exit 0∧l=[]∧B9 Eq H0 [] H1| .inr y=>e= .ret∧l=[fi 4 9]∧B9 Eq H0 [] H1) (by kernel_rfl) ?_ hx ?_ hO ?_
 ·intro s1 H o hO h;clear hx;cbv;refine A8 hE h (fun _ h=>?_) fun _ h=>?_
  ·cbv;refine C7 hE (fun _=>rfl) h fun x3 h=>?_;cbv;obtain⟨s4,hx,h⟩:=bind_some h;refine I7 cf309 hE K4 (fun e l H1=>e= .normal∧l=[fi 0 aP,(1,.v (sr (V.int .i64) bE)),fi 6 x3,(7,.b true),(8,.v (sr (V.int .i64) bE)),fi 9 (Ar.len bE),fi 10 s1,fi 14 aP,(15,.v (.bool s4))]∧B9 Eq H0 [] H1) (by kernel_rfl) ?_ ?_
   ·clear h;have h:=hx;clear hx;cbv;refine A8 hE h (fun _ h=>?_) fun _ h=>?_
    ·cbv;cases h;exact⟨_,⟨rfl,rfl,hO⟩,.e rfl (.e2 (.b rfl (.e rfl (.e rfl (.e rfl (.e rfl (.e rfl (.z)))))))),rfl⟩
    cbv;refine A8 hE h (fun _ h=>?_) fun _ h=>?_
    ·cbv;cases h;exact⟨_,⟨rfl,rfl,hO⟩,.e rfl (.e2 (.b rfl (.e rfl (.e rfl (.e rfl (.e rfl (.e rfl (.z)))))))),rfl⟩
    cbv;refine A8 hE h (fun _ h=>?_) fun _ h=>?_
    ·cbv;cases h;exact⟨_,⟨rfl,rfl,hO⟩,.e rfl (.e2 (.b rfl (.e rfl (.e rfl (.e rfl (.e rfl (.e rfl (.z)))))))),rfl⟩
    cbv;cases h;exact⟨_,⟨rfl,rfl,hO⟩,.e rfl (.e2 (.b rfl (.e rfl (.e rfl (.e rfl (.e rfl (.e rfl (.z)))))))),rfl⟩
   clear hx;rintro e l H ⟨rfl,rfl,hO⟩;cbv;refine A8 hE h (fun _ h=>?_) fun _ h=>?_
   ·cbv;refine A8 hE h (fun _ h=>?_) fun _ h=>?_
    ·cbv;cases h;exact⟨_,_,rfl,⟨rfl,rfl,hO⟩,.e rfl .z,rfl⟩
    cbv;cases h;exact⟨_,rfl,.e rfl (.e4 .z),rfl,hO⟩
   cbv;obtain⟨s5,hx,h⟩:=bind_some h;refine I7 cf309 hE K4 (fun e l H1=>e= .normal∧l=[fi 0 aP,(1,.v (sr (V.int .i64) bE)),fi 6 x3,(7,.b true),(8,.v (sr (V.int .i64) bE)),fi 9 (Ar.len bE),fi 10 s1,fi 14 aP,(22,.v (.bool s5))]∧B9 Eq H0 [] H1) (by kernel_rfl) ?_ ?_
   ·clear h;have h:=hx;clear hx;cbv;refine A8 hE h (fun _ h=>?_) fun _ h=>?_
    ·cbv;cases h;exact⟨_,⟨rfl,rfl,hO⟩,.e rfl (.e2 (.b rfl (.e rfl (.e rfl (.e rfl (.e rfl (.e rfl (.z)))))))),rfl⟩
    cbv;refine A8 hE h (fun _ h=>?_) fun _ h=>?_
    ·cbv;cases h;exact⟨_,⟨rfl,rfl,hO⟩,.e rfl (.e2 (.b rfl (.e rfl (.e rfl (.e rfl (.e rfl (.e rfl (.z)))))))),rfl⟩
    cbv;cases h;exact⟨_,⟨rfl,rfl,hO⟩,.e rfl (.e2 (.b rfl (.e rfl (.e rfl (.e rfl (.e rfl (.e rfl (.z)))))))),rfl⟩
   clear hx;rintro e l H ⟨rfl,rfl,hO⟩;cbv;refine A8 hE h (fun _ h=>?_) fun _ h=>?_
   ·cbv;refine A8 hE h (fun _ h=>?_) fun _ h=>?_
    ·cbv;cases h;exact⟨_,_,rfl,⟨rfl,rfl,hO⟩,.e rfl .z,rfl⟩
    cbv;cases h;exact⟨_,rfl,.e rfl (.e4 .z),rfl,hO⟩
   cbv;refine A8 hE h (fun _ h=>?_) fun _ h=>?_
   ·cbv;refine C7 hE (fun _=>rfl) h fun x6 h=>?_;cbv;refine A8 hE h (fun _ h=>?_) fun _ h=>?_
    ·cbv;cases h;exact⟨_,_,rfl,⟨rfl,rfl,hO⟩,.e rfl .z,rfl⟩
    cbv;cases h;exact⟨_,rfl,.e rfl (.e4 .z),rfl,hO⟩
   cbv;cases h;exact⟨_,rfl,.e rfl (.e4 .z),rfl,hO⟩
  cbv;cases h;exact⟨_,_,rfl,⟨rfl,rfl,hO⟩,.z,rfl⟩
 ·exact .e rfl (.e4 .z)
 clear hx
 rcases s2 with y7|y8
 ·rintro e l H ⟨rfl,rfl,hO⟩;cbv;cases h;exact hK hO (.refl _)
 rintro e l H ⟨rfl,rfl,hO⟩;cbv;cases h;exact hK hO (.refl _)
def cf268 :Cf:=⟨[4,3000042,8000042,9000042],[(11,8),(17,6),(18,16)],[],[],[],[]⟩
theorem c268 (N:Nat):∀n aF aD r,X7 N n aF aD=some r→B6 prog 268 [(AE aF),(W2 aD)] (.tup [(E0 r.1),vi r.2]):=by
 intro n
 induction n with
 |zero=>intro aF aD r h;cases h
 |succ n ih=>
 intro aF aD r h
 unfold X7 at h
 refine J9 cf268 func268 call268 ntmps268 ?_;intro E H0 K hE hK hO;cbv;refine D2 hE hO fun b1 H hO=>?_;cbv;refine E1 hE ?_;cbv;refine A8 hE h (fun _ h=>?_) fun _ h=>?_
 ·cbv;refine A7 hE h (c308 N aF aD) (.refl _) fun r2 h=>?_;cbv;refine B2 hE hO 0 rfl rfl fun H hO=>?_;cbv;refine B0 hE hO 0 rfl ?_;cbv;cases h;exact hK hO (.refl _)
 cbv;refine E1 hE ?_;cbv;replace hO:=hO.tl0 (t:=.nil) rfl;replace hO:=hO.tl0 (t:=.nil) rfl;obtain⟨s6,hx,h⟩:=bind_some h;refine M9 cf268 hE K4 (γ:=E8×E8) (fun s3 g=>[(2,.v (.eref (CH aF) 0)),(3,.v (.eref (Bw aD) 0)),(4,.v (.ref b1 0)),(6,.v (.sl (lst eAi1 s3.1) g.2)),(7,.v (.sl (lst (V.int .i64) s3.2.1) g.1)),(23,.v (sr eAi7 aD.cK)),fi 24 (Ar.len aD.cK),fi 25 s3.2.2]) (fun s3 g H1=>Bz g.1∧Bz g.2∧B9 Eq H0 [.tl g.1,.tl g.2,cb b1 [vi 0,vi 0,.str (⟨#[]⟩)]] H1) (fun x e l H1=>match(generalizing:=false) x with| .inl y=>∃u1:E8,Bz u1∧∃u2:E8,Bz u2∧e= .exit 0∧l=[(2,.v (.eref (CH aF) 0)),(3,.v (.eref (Bw aD) 0)),(4,.v (.ref b1 0)),(6,.v (.sl (lst eAi1 y.1) u2)),(7,.v (.sl (lst (V.int .i64) y.2) u1))]∧B9 Eq H0 [.tl u1,.tl u2,cb b1 [vi 0,vi 0,.str (⟨#[]⟩)]] H1| .inr y=>∃u1:E8,Bz u1∧∃u2:E8,Bz u2∧e= .ret∧l=[(4,.v (.ref b1 0)),fi 5 y]∧B9 Eq H0 [.tl u1,.tl u2,cb b1 [vi 0,vi 0,.str (⟨#[]⟩)]] H1) (by kernel_rfl) ?_ (⟨.nil,.nil⟩) hx ?_ ?_ ?_
 ·rintro s3 ⟨t4,t5⟩ H o ⟨ht4,ht5,hO⟩ h;clear hx;cbv;refine A8 hE h (fun _ h=>?_) fun _ h=>?_
  ·cbv;refine C7 hE eAi6 h fun x7 h=>?_;cbv;refine A7 hE h (ih aF x7) (.refl _) fun r8 h=>?_;cbv;refine A8 hE h (fun _ h=>?_) fun _ h=>?_
   ·cbv;refine B2 hE hO 2 rfl rfl fun H hO=>?_;cbv;cases h;exact⟨_,_,rfl,⟨t4,ht4,t5,ht5,rfl,rfl,hO⟩,.e2 .z,rfl⟩
   cbv;refine Tc hE hO 1 rfl ht5 fun H hO=>?_;cbv;refine LG hE trivial ?_;cbv;refine RQ (f:=eAi1) hE MR (by decide) (l:=s3.1) (m:=[r8.1]) (.refl _) (.lstc (.eq (eAi0 r8.1) (.refl _)) (.lst0)) h fun l9 h=>?_;cbv;refine Te hE hO 1 rfl fun t10 H hO ht10=>?_;cbv;refine Aw (f:=(V.int .i64)) hE (fun _=>rfl) (by decide) hO 0 rfl ht4 (l:=s3.2.1) (m:=[r8.1.Kind]) (.refl _) (.lstc (.refl _) (.lst0)) h fun l12 t11 H hO ht11 h=>?_;cbv;cases h;exact⟨_,⟨t11,t10⟩,rfl,.e4 (.e4 .z),rfl,ht11,ht10,hO⟩
  cbv;cases h;exact⟨_,_,rfl,⟨t4,ht4,t5,ht5,rfl,rfl,hO⟩,.e rfl (.e4 .z),rfl⟩
 ·exact .e rfl (.e2 (.v (.slt _ (.lst0)) (.v (.slt _ (.lst0)) (.e rfl (.e rfl (.e rfl (.z)))))))
 ·exact⟨trivial,trivial,hO⟩
 clear hx
 rcases s6 with y13|y43
 ·rintro e l H ⟨t14,ht14,t15,ht15,rfl,rfl,hO⟩;cbv;refine A7 hE h (c309 N aD.Op y13.2) (.cons (.refl _) (.cons (.ro _ _) (.refl _))) fun r16 h=>?_;cbv;refine A8 hE h (fun _ h=>?_) fun _ h=>?_
  ·cbv;refine B2 hE hO 2 rfl rfl fun H hO=>?_;cbv;refine B0 hE hO 2 rfl ?_;cbv;cases h;exact hK hO (.refl _)
  cbv;refine A8 hE h (fun _ h=>?_) fun _ h=>?_
  ·cbv;refine C7 hE eAi0 h fun x17 h=>?_;cbv;refine C7 hE eAi0 h fun x18 h=>?_;cbv;refine A7 hE h (c229 N (an (Ar.cmp .eql x17.Kind x18.Kind) (an (Ar.cmp .eql x17.Num x18.Num) (an (Ar.scmp .eql x17.Text x18.Text) true)))) (.refl _) fun r19 h=>?_;cbv;refine B2 hE hO 2 rfl rfl fun H hO=>?_;cbv;refine B0 hE hO 2 rfl ?_;cbv;cases h;exact hK hO (.refl _)
  cbv;refine ZY hE (kt:=3) (et:=338) (z:=.nilf) (by kernel_rfl) (by kernel_rfl) (by kernel_rfl) rfl ?_;cbv;refine A8 hE h (fun _ h=>?_) fun _ h=>?_
  ·cbv;refine C7 hE eAi0 h fun x20 h=>?_;cbv;refine E1 hE ?_;cbv;refine C7 hE eAi0 h fun x21 h=>?_;cbv;refine V7 hE (g:=fun r22=>(E0 r22)) h (fun r22 hx=>B6.value (F:=[]) (C:=[.eref [.func (.func 300) [] []] 0]) (c301 N x20.Num x21.Num (.func (.func 300) [] []) (fun y1=>S1 N y1) (fun y1 r hx=>B6.value (F:=[]) (C:=[]) (c300 N y1 r hx)) r22 hx)) (.refl _) fun r22 h=>?_;cbv;refine B2 hE hO 2 rfl rfl fun H hO=>?_;cbv;refine B0 hE hO 2 rfl ?_;cbv;cases h;exact hK hO (.refl _)
  cbv;refine A8 hE h (fun _ h=>?_) fun _ h=>?_
  ·cbv;refine C7 hE eAi0 h fun x23 h=>?_;cbv;refine E1 hE ?_;cbv;refine C7 hE eAi0 h fun x24 h=>?_;cbv;refine V7 hE (g:=fun r25=>(E0 r25)) h (fun r25 hx=>B6.value (F:=[]) (C:=[.eref [.func (.func 300) [] []] 0]) (c302 N x23.Num x24.Num (.func (.func 300) [] []) (fun y1=>S1 N y1) (fun y1 r hx=>B6.value (F:=[]) (C:=[]) (c300 N y1 r hx)) r25 hx)) (.refl _) fun r25 h=>?_;cbv;refine B2 hE hO 2 rfl rfl fun H hO=>?_;cbv;refine B0 hE hO 2 rfl ?_;cbv;cases h;exact hK hO (.refl _)
  cbv;refine A8 hE h (fun _ h=>?_) fun _ h=>?_
  ·cbv;refine C7 hE eAi0 h fun x26 h=>?_;cbv;refine E1 hE ?_;cbv;refine C7 hE eAi0 h fun x27 h=>?_;cbv;refine A7 hE h (c303 N x26.Num x27.Num) (.refl _) fun r28 h=>?_;cbv;refine B2 hE hO 2 rfl rfl fun H hO=>?_;cbv;refine B0 hE hO 2 rfl ?_;cbv;cases h;exact hK hO (.refl _)
  cbv;refine A8 hE h (fun _ h=>?_) fun _ h=>?_
  ·cbv;refine C7 hE eAi0 h fun x29 h=>?_;cbv;refine E1 hE ?_;cbv;refine C7 hE eAi0 h fun x30 h=>?_;cbv;refine A7 hE h (c304 N x29.Num x30.Num) (.refl _) fun r31 h=>?_;cbv;refine B2 hE hO 2 rfl rfl fun H hO=>?_;cbv;refine B0 hE hO 2 rfl ?_;cbv;cases h;exact hK hO (.refl _)
  cbv;refine A8 hE h (fun _ h=>?_) fun _ h=>?_
  ·cbv;refine C7 hE eAi0 h fun x32 h=>?_;cbv;refine E1 hE ?_;cbv;refine C7 hE eAi0 h fun x33 h=>?_;cbv;refine A7 hE h (c305 N x32.Num x33.Num) (.refl _) fun r34 h=>?_;cbv;refine B2 hE hO 2 rfl rfl fun H hO=>?_;cbv;refine B0 hE hO 2 rfl ?_;cbv;cases h;exact hK hO (.refl _)
  cbv;refine A8 hE h (fun _ h=>?_) fun _ h=>?_
  ·cbv;refine C7 hE eAi0 h fun x35 h=>?_;cbv;refine E1 hE ?_;cbv;refine C7 hE eAi0 h fun x36 h=>?_;cbv;refine A7 hE h (c306 N x35.Num x36.Num) (.refl _) fun r37 h=>?_;cbv;refine B2 hE hO 2 rfl rfl fun H hO=>?_;cbv;refine B0 hE hO 2 rfl ?_;cbv;cases h;exact hK hO (.refl _)
  cbv;refine A8 hE h (fun _ h=>?_) fun _ h=>?_
  ·cbv;refine C7 hE eAi0 h fun x38 h=>?_;cbv;refine E1 hE ?_;cbv;refine C7 hE eAi0 h fun x39 h=>?_;cbv;refine A7 hE h (c307 N x38.Num x39.Num) (.refl _) fun r40 h=>?_;cbv;refine B2 hE hO 2 rfl rfl fun H hO=>?_;cbv;refine B0 hE hO 2 rfl ?_;cbv;cases h;exact hK hO (.refl _)
  cbv;refine C7 hE eAi0 h fun x41 h=>?_;cbv;refine E1 hE ?_;cbv;refine C7 hE eAi0 h fun x42 h=>?_;cbv;cases h
 rintro e l H ⟨t44,ht44,t45,ht45,rfl,rfl,hO⟩;cbv;refine B0 hE hO 2 rfl ?_;cbv;cases h;exact hK hO (.refl _)
def cf228 :Cf:=⟨[8],[(3000004,0),(3000004,1),(3000004,2),(3000004,4),(3000004,5),(3000004,7),(3000004,8),(3000004,10)],[],[2000004],[],[]⟩
theorem c228 (N aD bM bN bO r)(h:JP N aD bM bN bO=some r):B6 prog 228 [(W2 aD),(SN bM),vi bN,(Bi bO)] (.tup [(E0 r.1),vi r.2]):=by
 unfold JP at h
 refine J9 cf228 func228 call228 ntmps228 ?_;intro E H0 K hE hK hO;cbv;refine D2 hE hO fun b1 H hO=>?_;cbv;refine A7 hE h (c260 N aD) (.refl _) fun r2 h=>?_;cbv;refine A8 hE h (fun _ h=>?_) fun _ h=>?_
 ·cbv;refine B2 hE hO 0 rfl rfl fun H hO=>?_;cbv;refine B0 hE hO 0 rfl ?_;cbv;cases h;exact hK hO (.refl _)
 cbv;obtain⟨s3,hx,h⟩:=bind_some h;refine I7 cf228 hE K4 (fun e l H1=>e= .normal∧l=[(8,.v (.ref b1 0)),fi 9 s3.1]∧B9 Eq H0 [cb b1 (P5 s3.2)] H1) (by kernel_rfl) ?_ ?_
 ·clear h;have h:=hx;clear hx;cbv;obtain⟨r244,er244,h⟩:=bind_some h;refine Wn hE (c267 N () rfl) (.refl _) hO fun m125 H hO=>?_;cbv;refine Yj hE (g:=fun r244=>.tup [(E0 r244.1),vi r244.2]) (J0 er244) (c268 N N (⟨bM,bN,bO,()⟩:L1) aD) (fun _=>.tup2 (.agg rfl) (.int _ _)) (.agg (.le (.refl _) (.le (.refl _) (.le (.refl _) (.le (.refl _) (.le (.refl _) (.le (.refl _) (.le (.refl _) (.fm (hO.get 0 rfl) (.nil))))))))) (.le (.refl _) (.nil))) fun r244 hh=>?_;obtain rfl:=D9 hh;cbv;refine B2 hE hO 1 rfl rfl fun H hO=>?_;cbv;cases h;exact⟨_,⟨rfl,rfl,hO.tail⟩,.e2 .z,rfl⟩
 clear hx;rintro e l H ⟨rfl,rfl,hO⟩;cbv;refine B0 hE hO 0 rfl ?_;cbv;cases h;exact hK hO (.refl _)
def cf177 :Cf:=⟨[],[(2,5)],[],[],[],[]⟩
theorem c177 (N aD bM bN bO r)(h:It N aD bM bN bO=some r):B6 prog 177 [(W2 aD),(SN bM),vi bN,(Bi bO)] (.bool r):=by
 unfold It at h
 refine J9 cf177 func177 call177 ntmps177 ?_;intro E H0 K hE hK hO;cbv;refine A7 hE h (c228 N aD bM bN bO) (.refl _) fun r1 h=>?_;cbv;refine A8 hE h (fun _ h=>?_) fun _ h=>?_
 ·cbv;refine C6 hE (g:=fun r2=>(E0 r2)) h (c229 N true) (.refl _) fun r2 h=>?_;cbv;cases h;exact hK hO (.refl _)
 cbv;cases h;exact hK hO (.refl _)
def cf178 :Cf:=⟨[6,7,3000041,8000041,9000041],[(6,20)],[],[],[(44,1000007)],[]⟩
theorem c178 (N aF aL bY r) (h:Aj N aF aL bY=some r):B6 prog 178 [.eref (C5 aF) 0,sr eAh2 aL,vi bY] ((SN r)):=by
 unfold Aj at h
 refine J9 cf178 func178 call178 ntmps178 ?_;intro E H0 K hE hK hO;cbv;refine D2 hE hO fun b1 H hO=>?_;cbv;refine Ae8 hE (f:=eAh5) (by decide) hO 1 h fun l3 w2 H hw2 h hO=>?_;have hO:B9 Eq H0 (.blk w2.q.id (.arr 1 (w2.q.pre++lst (Dv eAh5) w2.row++w2.q.rest))::cb b1 [.sl [] .nil]::(Hy w2++[])) H:=hO;cbv;refine D2 hE hO fun b4 H hO=>?_;cbv;refine B2 hE hO 0 rfl rfl fun H hO=>?_;cbv;refine E1 hE ?_;cbv;obtain⟨s7,hx,h⟩:=bind_some h;refine M9 cf178 hE K4 (γ:=Rw B8) (fun s5 g=>[(0,.v (.eref (C5 aF) 0)),fi 2 bY,(6,.v (.ref b1 0)),(7,.v (.ref b4 0)),(12,.v (sr eAh2 aL)),fi 13 (Ar.len aL),fi 14 s5.1]) (fun s5 g H1=>CN g s5.2∧B9 Eq H0 (cb b4 [.own g.q.id g.q.lo g.q.n]:: .blk g.q.id (.arr 1 (g.q.pre++lst (Dv eAh5) g.row++g.q.rest))::cb b1 [.sl [] .nil]::(Hy g++[])) H1) (fun x e l H1=>∃u1:Rw B8,CN u1 x∧e= .exit 0∧l=[(6,.v (.ref b1 0)),(7,.v (.ref b4 0))]∧B9 Eq H0 (cb b4 [.own u1.q.id u1.q.lo u1.q.n]:: .blk u1.q.id (.arr 1 (u1.q.pre++lst (Dv eAh5) u1.row++u1.q.rest))::cb b1 [.sl [] .nil]::(Hy u1++[])) H1) (by kernel_rfl) ?_ w2 hx ?_ ?_ ?_
 ·rintro s5 w6 H o ⟨hw6,hO⟩ h;clear hx;cbv;refine A8 hE h (fun _ h=>?_) fun _ h=>?_
  ·cbv;refine C7 hE eAi2 h fun x8 h=>?_;cbv;refine A8 hE h (fun _ h=>?_) fun _ h=>?_
   ·cbv;obtain⟨x9,hxx9,h⟩:=bind_some h
    obtain⟨hjx9,t10,hrx9,hax9⟩:=hw6.at hxx9
    obtain⟨Rx9,hO,hbx9⟩:=hO.rtake (w:=w6) (T1:=[]) (T2:=[]) 3 rfl hrx9;refine Tc hE hO 0 rfl hax9 fun H hO=>?_;cbv;refine B0 hE hO 1 rfl ?_;cbv;refine B0 hE hO 1 rfl ?_;cbv;refine WO hE (f:=Dv eAh5) hO hw6.ok 2 rfl hjx9 ?_;cbv;refine YI hE (f:=Dv eAh5) (fun _=>rfl) hO hw6.ok 2 rfl hjx9.1 hrx9 ?_;cbv;refine C7 hE eAi4 h fun x14 h=>?_;cbv;refine LG hE trivial ?_;cbv;refine RQ (f:=eAh5) hE MS (by decide) (l:=x9) (m:=[x14]) (.refl _) (.lstc (.eq (eAi4 x14) (.refl _)) (.lst0)) h fun l15 h=>?_;cbv;refine Te hE hO 0 rfl fun t11 H hO htt11=>?_;cbv;refine WO hE (f:=Dv eAh5) hO hw6.ok 2 rfl hjx9 ?_;cbv;refine WN hE (f:=Dv eAh5) (tz:=1) (x':=(l15,t11)) (fun _=>⟨.sl (lst eAh5 l15) t11,.refl _,rfl,rfl,rfl⟩) (by decide) hO hw6.ok 2 rfl hjx9 fun H hO=>?_;cbv;obtain⟨l13,hu,h⟩:=bind_some h;obtain⟨w12,hqw12,hw12,hO⟩:∃w0:Rw B8,w0.q=w6.q∧CN w0 l13∧B9 Eq H0 (cb b4 [.own w0.q.id w0.q.lo w0.q.n]:: .blk w0.q.id (.arr 1 (w0.q.pre++lst (Dv eAh5) w0.row++w0.q.rest))::cb b1 [.sl [] .nil]::(Hy w0++[])) H:=⟨(⟨w6.q,w6.row.set (x8.v).toNat (l15,t11)⟩:Rw B8),rfl,by rw[Vt hu];exact hw6.put _ htt11,(by have e:=hbx9 (l15,t11) H [cb b4 [.own w6.q.id w6.q.lo w6.q.n],.blk w6.q.id (.arr 1 (w6.q.pre++lst (Dv eAh5) (w6.row.set (x8.v).toNat (l15,t11))++w6.q.rest)),cb b1 [.sl [] .nil]] hO;simp only[List.cons_append,List.nil_append,append_nil]at e ⊢;exact e)⟩
    try rw[←hqw12]
    cases h;exact⟨_,w12,rfl,.e rfl (.e2 (.e4 .z)),rfl,hw12,hO⟩
   cbv;cases h;exact⟨_,w6,rfl,.e rfl (.e2 (.e4 .z)),rfl,hw6,hO⟩
  cbv;cases h;exact⟨_,_,rfl,⟨w6,hw6,rfl,rfl,hO⟩,.e2 .z,rfl⟩
 ·exact .e rfl (.e2 (.e4 .z))
 ·exact⟨hw2,hO⟩
 clear hx;rintro e l H ⟨w16,hw16,rfl,rfl,hO⟩;cbv;refine Wd hE (e:=eAj0) eAk3 hO hw16 0 1 rfl rfl rfl (by decide) fun H hO=>?_;have hO:B9 Eq H0 [cb b4 [sr eAj0 s7],cb b1 [.sl [] .nil]] H:=hO.rdrop (w:=w16) (T1:=[]) (T2:=[]) 2 rfl;cbv;refine B0 hE hO 0 rfl ?_;cbv;refine B2 hE hO 1 rfl rfl fun H hO=>?_;cbv;refine B0 hE hO 1 rfl ?_;cbv;cases h;exact hK hO (.refl _)
def cf139 :Cf:=⟨[],[(2,15)],[],[],[],[]⟩
theorem c139 (N aF aA aI bX r)(h:N6 N aF aA aI bX=some r):B6 prog 139 [.eref (C5 aF) 0,(B7 aA),sr eAh2 aI,vi bX] (.bool r):=by
 unfold N6 at h
 refine J9 cf139 func139 call139 ntmps139 ?_;intro E H0 K hE hK hO;cbv;refine C7 hE eAi4 h fun x1 h=>?_;cbv;refine A8 hE h (fun _ h=>?_) fun _ h=>?_
 ·cbv;refine C6 hE (g:=fun r2=>(SN r2)) h (c178 N aF aI bX) (.refl _) fun r2 h=>?_;cbv;refine A7 hE h (c177 N aA.cL r2 aA.Var x1) (.refl _) fun r3 h=>?_;cbv;cases h;exact hK hO (.refl _)
 cbv;cases h;exact hK hO (.refl _)
def cf230 :Cf:=⟨[22],[],[],[],[],[]⟩
theorem c230 (N aH aM r) (h:Z3 N aH aM=some r):NL prog 230 [.sl [] .nil,vi aM] 2 (lst eAh2 r):=by
 unfold Z3 at h
 obtain⟨h1,h2,hr⟩:=Wr (f:=eAh2) h;rw[hr];clear hr h;intro H0
 have hneg:∀b,Ar.cmp .lss aM 0=b→b=false:=fun b h=>by rw[Ar.cmp_eq]at h;subst h;simp[Iy];omega
 have hsub:ar .sub .i64 aM (ar .sub .i64 0 0)=aM:=by rw[Ar.ar_eq,Ar.ar_eq];simp only[arI];rw[show(0:Int) - 0=0 from rfl,wrap_small 0 (by omega) (by omega),Int.sub_zero];exact wrap_small _ (by omega) (by omega)
 have hgt:∀b,Ar.cmp .gtr (ar .sub .i64 aM (ar .sub .i64 0 0)) 0=b→(b=false→aM=0):=fun b h=>by rw[hsub,Ar.cmp_eq]at h;subst h;simp[Iy];omega
 have hbn:aM.toNat*16≤140737488355328:=by have:=Ym (a:=aM.toNat) (b:=0) (by_:=16) (by omega) (by decide);simpa using this
 have hl0:(0:Int)=(([]:List V).length:Nat):=rfl;refine Hv (T:=TT) cf230 K4 func230 (by rfl) (by kernel_rfl) call230 ntmps230 (by rfl) (by rfl) ?_;intro E K hE hK hN;cbv;refine r_br hE (fun hc=>absurd (hneg _ hc) (by decide)) (fun hc=>?_);cbv;refine r_ln hE hl0 ?_;cbv;refine r_br hE (fun hc2=>?_) (fun hc2=>?_)
 ·cbv;refine XR hE ?_;cbv;refine VS hE aM hsub (.inl rfl) h1 hbn fun t m row j ht hm hrow=>?_;obtain⟨RL,hRL,hR0⟩:∃RL:Int,RL=(row.length:Nat)∧0≤RL:=⟨_,rfl,by omega⟩;cbv;refine r_ln hE hl0 ?_;cbv;refine VQ hE (B4 _ _ _) hRL 0 0 rfl rfl (Int.le_refl _) (Int.le_refl _) hR0 fun l' n' q1 q2=>?_;cbv
  have e1:0=l':=by omega
  have e2:0=n':=by omega
  subst e1 e2;exact hK ⟨t,0,0,[],row⟩ [] _ ⟨rfl,rfl⟩ ((B9.start G3 rfl).push ht rfl)
 cbv;exact hN rfl [] H0 (.start G3 rfl)
theorem c180 {cmp:A3→A3→Option Int}{g:Nat}{C:List V}(eg:∀vals w,(callFunc g vals).run prog w= .ok (.enter g vals) w)(hc:∀y1 y2 r,cmp y1 y2=some r→B6 prog g ([(L7 y1),(L7 y2)]++C) (vi r)){l r:List A3}(h:Lf cmp l=some r):
 OT prog 180 (.func (.func g) [] C) 2 (lst eAh2 l) (lst eAh2 r):=Kq Go.Proofs.Tryz.sorts180 call180 (va:=fun x=>(W6 x)) eAi2 (fun _=>rfl) eg hc h
theorem c181 (N aB aC r)(h:Bt N aB aC=some r):B6 prog 181 [(L7 aB),(L7 aC)] (vi r):=by
 unfold Bt at h
 refine J9 cf0 func181 call181 ntmps181 ?_;intro E H0 K hE hK hO;cbv;cases h;exact hK hO (.refl _)
def cfo179 :Cf:=⟨[6000002],[],[],[],[],[]⟩
theorem o179 (N bJ r) (h:X1 N bJ=some r):NL prog 179 [sr eAj2 bJ] 2 (lst eAh2 r):=by
 unfold X1 at h
 intro H0;refine Hv (T:=TT) (F:=H0) cfo179 K4 func179 (by rfl) (by kernel_rfl) call179 ntmps179 (by rfl) (by rfl) ?_;intro E K hE hK hN;have hO:B9 Eq H0 [] H0:=.start G3 rfl;cbv;refine RO hE (f:=eAh2) hO fun q1 H hq1 hO=>?_;cbv;refine E1 hE ?_;cbv;obtain⟨s3,hx,h⟩:=bind_some h;refine F3 cfo179 hE K4 (fun s2=>[(0,.v (sr eAj2 bJ)),fi 3 s2.1,(9,.v (sr eAj2 bJ)),fi 10 (Ar.len bJ),fi 11 s2.2]) (fun s2 H1=>B9 Eq H0 [ob q1 2 eAh2 ([]:List A3)] H1) (fun x e l H1=>e= .exit 0∧l=[(0,.v (sr eAj2 bJ)),fi 3 x]∧B9 Eq H0 [ob q1 2 eAh2 ([]:List A3)] H1) (by kernel_rfl) ?_ hx ?_ hO ?_
 ·intro s2 H o hO h;clear hx;cbv;refine A8 hE h (fun _ h=>?_) fun _ h=>?_
  ·cbv;refine C7 hE eAj6 h fun x4 h=>?_;cbv;refine E1 hE ?_;cbv;refine A8 hE h (fun _ h=>?_) fun _ h=>?_
   ·cbv;cases h
   cbv;cases h;exact⟨_,rfl,.e rfl (.e4 .z),rfl,hO⟩
  cbv;cases h;exact⟨_,_,rfl,⟨rfl,rfl,hO⟩,.e2 .z,rfl⟩
 ·exact .e rfl (.e4 .z)
 clear hx;rintro e l H ⟨rfl,rfl,hO⟩;cbv;refine KP hE (f:=eAh2) h (c230 N [] s3) (.cons (.refl _) (.cons (.refl _) .nil)) hO fun l5 q6 H hq6 hO h=>?_;cbv;refine E1 hE ?_;cbv;obtain⟨s9,hx,h⟩:=bind_some h;refine M9 cfo179 hE K4 (γ:=OG) (fun s7 g=>[(6,.v (.own g.id g.lo g.n)),(25,.v (sr eAj2 bJ)),fi 26 (Ar.len bJ),fi 27 s7.1]) (fun s7 g H1=>T4 g (Ar.len s7.2)∧B9 Eq H0 [ob g 2 eAh2 s7.2,ob q1 2 eAh2 ([]:List A3)] H1) (fun x e l H1=>∃u1:OG,T4 u1 (Ar.len x)∧e= .exit 2∧l=[(6,.v (.own u1.id u1.lo u1.n))]∧B9 Eq H0 [ob u1 2 eAh2 x,ob q1 2 eAh2 ([]:List A3)] H1) (by kernel_rfl) ?_ q6 hx ?_ ?_ ?_
 ·rintro s7 q8 H o ⟨hq8,hO⟩ h;clear hx;cbv;refine A8 hE h (fun _ h=>?_) fun _ h=>?_
  ·cbv;refine C7 hE eAj6 h fun x10 h=>?_;cbv;refine Om (f:=eAh2) hE O9 (by decide) hO hq8 0 rfl (m:=x10) (Jz (f:=eAh2) hE O9 (.refl _)) h fun l12 q11 H hq11 hO h=>?_;cbv;cases h;exact⟨_,q11,rfl,.e4 .z,rfl,hq11,hO⟩
  cbv;cases h;exact⟨_,_,rfl,⟨q8,hq8,rfl,rfl,hO⟩,.e rfl .z,rfl⟩
 ·exact .e4 .z
 ·exact⟨hq6,hO⟩
 clear hx;rintro e l H ⟨q13,hq13,rfl,rfl,hO⟩;cbv;cases h;exact hK q13 _ _ (CS hE hq13) (hO)
theorem c140 (N aB aC r)(h:I6 N aB aC=some r):B6 prog 140 [sr eAh2 aB,sr eAh2 aC] (sr eAh2 r):=by
 unfold I6 at h
 refine Cn (T:=TT) cf0 K4 func140 (by rfl) (by kernel_rfl) call140 ntmps140 (by rfl) (by rfl) ?_;intro E H0 K hE hK hF;have hO:B9 Eq H0 [] H0:=.start G3 rfl;cbv;refine KP hE (f:=eAh2) h (o179 N ([aB,aC])) (.cons (.lit _ (E2 ((eAj6 aB).symm) (E2 ((eAj6 aC).symm) (D0)))) (.refl _)) hO fun l1 q2 H hq2 hO h=>?_;cbv;refine Qc hE hO hq2 0 rfl h (fun l3 hx=>c180 (g:=181) (C:=[]) call181 (fun y1 y2 r hx=>c181 N y1 y2 r hx) hx) fun l3 H hq2 hO h=>?_;cbv;cases h;exact hF q2 _ _ 0 _ _ hO rfl (CS hE hq2) (.refl _)
theorem c232 (N:Nat) (aH:List A3) (bI:V) (bC:A3→Option Bool) (bS:∀y1 q,bC y1=some q→S0 prog bI [(L7 y1)] (.bool q)) (r:Int) (h:T5 N aH bC=some r):B6 prog 232 [sr eAh2 aH,bI] (vi r):=by
 unfold T5 at h
 refine J9 cf0 func232 call232 ntmps232 ?_;intro E H0 K hE hK hO;cbv;refine E1 hE ?_;cbv;obtain⟨s2,hx,h⟩:=bind_some h;refine F3 cf0 hE K4 (fun s1=>[(0,.v (sr eAh2 aH)),(1,.v (bI)),fi 7 (Ar.len aH),fi 8 s1]) (fun s1 H1=>B9 Eq H0 [] H1) (fun x e l H1=>match(generalizing:=false) x with| .inl y=>e= .exit 0∧l=[]∧B9 Eq H0 [] H1| .inr y=>e= .ret∧l=[fi 4 y]∧B9 Eq H0 [] H1) (by kernel_rfl) ?_ hx ?_ hO ?_
 ·intro s1 H o hO h;clear hx;cbv;refine A8 hE h (fun _ h=>?_) fun _ h=>?_
  ·cbv;refine C7 hE eAi2 h fun x3 h=>?_;cbv;refine V7 hE (g:=fun r4=>.bool r4) h (fun r4 hx=>bS x3 r4 hx) (.refl _) fun r4 h=>?_;cbv;refine A8 hE h (fun _ h=>?_) fun _ h=>?_
   ·cbv;cases h;exact⟨_,_,rfl,⟨rfl,rfl,hO⟩,.e rfl .z,rfl⟩
   cbv;cases h;exact⟨_,rfl,.e4 .z,rfl,hO⟩
  cbv;cases h;exact⟨_,_,rfl,⟨rfl,rfl,hO⟩,.z,rfl⟩
 ·exact .e4 .z
 clear hx
 rcases s2 with y5|y6
 ·rintro e l H ⟨rfl,rfl,hO⟩;cbv;cases h;exact hK hO (.refl _)
 rintro e l H ⟨rfl,rfl,hO⟩;cbv;cases h;exact hK hO (.refl _)
end Go.Ab
namespace Go.Ab
open Go.RowKit Go.Proofs Go.Proofs.Tryz I8
variable [Ar][I8]
set_option maxRecDepth 100000
theorem c182 (N:Nat)(aH:List A3)(bI:V)(bC:A3→Option Bool)(bS:∀y1 q,bC y1=some q→S0 prog bI [(L7 y1)] (.bool q))(r:Bool)(h:L3 N aH bC=some r):B6 prog 182 [sr eAh2 aH,bI] (.bool r):=by
 unfold L3 at h
 refine J9 cf0 func182 call182 ntmps182 ?_;intro E H0 K hE hK hO;cbv;refine A7 hE h (c232 N aH bI bC bS) (.refl _) fun r1 h=>?_;cbv;cases h;exact hK hO (.refl _)
def cf143 :Cf:=⟨[12],[(1,12),(5,19),(7,11)],[],[],[(73,12)],[]⟩
theorem c143 (N aF aA aI aH r)(h:X6 N aF aA aI aH=some r):B6 prog 143 [.eref (C5 aF) 0,(B7 aA),sr eAh2 aI,sr eAh2 aH] (.bool r):=by
 unfold X6 at h
 refine J9 cf143 func143 call143 ntmps143 ?_;intro E H0 K hE hK hO;cbv;cases h
theorem c184 (N bL aU r)(h:S3 N bL aU=some r):B6 prog 184 [(L7 bL),.eref (W6 aU) 0] (.bool r):=by
 unfold S3 at h
 refine J9 cf0 func184 call184 ntmps184 ?_;intro E H0 K hE hK hO;cbv;cases h;exact hK hO (.refl _)
theorem c183 (N aV aU r)(h:W1 N aV aU=some r):B6 prog 183 [(L7 aV),.eref [sr eAh2 aU] 0] (.bool r):=by
 unfold W1 at h
 refine J9 cf0 func183 call183 ntmps183 ?_;intro E H0 K hE hK hO;cbv;refine A7 hE (g:=fun r1=>.bool r1) h (fun r1 hx=>c182 N aU (.func (.func 184) [] [.eref (W6 aV) 0]) (fun y1=>S3 N y1 aV) (fun y1 r hx=>B6.value (F:=[]) (C:=[.eref (W6 aV) 0]) (c184 N y1 aV r hx)) r1 hx) (.refl _) fun r1 h=>?_;cbv;cases h;exact hK hO (.refl _)
theorem c141 (N aB aC r)(h:X8 N aB aC=some r):B6 prog 141 [sr eAh2 aB,sr eAh2 aC] (.bool r):=by
 unfold X8 at h
 refine J9 cf0 func141 call141 ntmps141 ?_;intro E H0 K hE hK hO;cbv;refine A7 hE (g:=fun r1=>.bool r1) h (fun r1 hx=>c182 N aB (.func (.func 183) [] [.eref [sr eAh2 aC] 0]) (fun y1=>W1 N y1 aC) (fun y1 r hx=>B6.value (F:=[]) (C:=[.eref [sr eAh2 aC] 0]) (c183 N y1 aC r hx)) r1 hx) (.refl _) fun r1 h=>?_;cbv;cases h;exact hK hO (.refl _)
theorem c142 (N aH r)(h:S5 N aH=some r):B6 prog 142 [sr eAh2 aH] (vi r):=by
 unfold S5 at h
 refine J9 cf0 func142 call142 ntmps142 ?_;intro E H0 K hE hK hO;cbv;refine E1 hE ?_;cbv;refine C7 hE eAi2 h fun x1 h=>?_;cbv;cases h;exact hK hO (.refl _)
def cf218 :Cf:=⟨[7],[],[],[],[],[]⟩
theorem c218 (N aH r)(h:M3 N aH=some r):NL prog 218 [sr eAh4 aH] 5 (lst eAh4 r):=by
 unfold M3 at h
 intro H0;refine Hv (T:=TT) cf218 K4 func218 (by rfl) (by kernel_rfl) call218 ntmps218 (by rfl) (by rfl) ?_;intro E K hE hK hN;have hO:B9 Eq H0 [] H0:=.start G3 rfl;cbv;refine ZX hE rfl (fun hx=>?_) ?_
 ·cbv;exact hN (Xj hx h) [] H0 hO
 cbv;refine Yg (f:=eAh4) hE M2 (by decide) hO (.inr rfl) (m:=aH) (Jz (f:=eAh4) hE M2 (.refl _)) h fun l q H hq hO h=>?_;cbv;cases h;exact hK q _ _ (CS hE hq) hO
def K57 (N n:Nat):Prop:=∀(aF:C9) (aA:A0) (aI:List A3) (aW:Int) (r:(List A9)),L5 N n aF aA aI aW=some r→Hc prog 57 [.eref (C5 aF) 0,(B7 aA),sr eAh2 aI,vi aW] (fun v=>Mw prog v (r.map fun(x:A9)=>[(C4 x)]))
def cf123 :Cf:=⟨[],[],[(9,4)],[],[],[]⟩
def cf121 :Cf:=⟨[6,1000005],[],[],[],[],[]⟩
def Ac9 (N n:Nat):Prop:=∀(aU:C9) (aY:A0) (bU:List A3) (bV:Int) (r:(List A9)),Q7 N n aU aY bU bV=some r→Jr prog 121 (fun yv=>[yv,.eref [.eref (C5 aU) 0] 0,.eref (D6 aY) 0,.eref [sr eAh2 bU] 0,.eref [vi bV] 0]) (List.map (fun(x:A9)=>[(C4 x)]) r) rbN
def cf122 :Cf:=⟨[10,12,13,1000009],[(6,22),(23,7)],[(88,21)],[],[],[]⟩
def Ac8 (N n:Nat):Prop:=∀(aF:C9) (aA:A0) (aI:List A3) (aW:Int) (r:(List A9)),W0 N n aF aA aI aW=some r→Jr prog 122 (fun yv=>[.eref (C5 aF) 0,(B7 aA),sr eAh2 aI,vi aW,yv]) (List.map (fun(x:A9)=>[(C4 x)]) r) rbB
def cf158 :Cf:=⟨[14,1000013],[(3,6),(10,12),(16,17)],[(39,4),(54,10),(75,15)],[],[],[]⟩
def YX (N n:Nat):Prop:=∀(aF:C9) (aA:A0) (aI:List A3) (aW:Int) (bB:List A2) (aH:List A3) (r:(List A9)),O7 N n aF aA aI aW bB aH=some r→Jr prog 158 (fun yv=>[.eref (C5 aF) 0,(B7 aA),sr eAh2 aI,vi aW,sr eAh4 bB,sr eAh2 aH,yv]) (List.map (fun(x:A9)=>[(C4 x)]) r) rbB
theorem k57 (N n:Nat)(ih121:Ac9 N n):K57 N (n+1):=by
 intro aF aA aI aW r h
 unfold L5 at h
 refine HM cf0 K4 func57 (by rfl) (by kernel_rfl) call57 ntmps57 (by rfl) (by rfl) ?_;intro E H0 K hE hK;have hO:B9 Eq H0 [] H0:=.start G3 rfl;cbv;exact hK _ _ _ hO (HJ call121 (ih121 aF aA aI aW r h))
theorem k121 (N n:Nat) (ih122:Ac8 N n):Ac9 N (n+1):=by
 intro aU aY bU bV r h
 unfold Q7 at h
 obtain⟨⟨w0,u0⟩,h1,hr⟩:=bind_some h;clear h;have hr:=D9 hr;subst hr;have h:=h1;clear h1;refine Bf cf121 K4 func121 (by rfl) (by kernel_rfl) call121 ntmps121 (by rfl) (fun _=>rfl) ?_;intro yv I D hI hD hy tl F E H K hE hO hK hKD
 have hO:B9 (I (List.map (fun(x:A9)=>[(C4 x)]) (w0++[])++tl)) F [] H:=by rw[append_nil];exact hO
 cbv;refine LG hE hy.1 ?_;cbv;refine D2 hE hO fun b1 H hO=>?_;cbv;refine B2 hE hO 0 rfl rfl fun H hO=>?_;cbv;obtain⟨l2,hl,h⟩:=bind_some h;obtain⟨w3,w4,o9,hx,h1,he⟩:=W9 h;clear h;have h:=h1;clear h1
 rw[he,append_assoc]at hO
 clear he
 rcases o9 with s10|u
 ·refine Yh (Ls:=fun s7=>[cb b1 [vi s7]]) (w':=w4++[]) (cv:=.func (.func 123) [] [.ref b1 0,.eref [.eref (C5 aU) 0] 0,.eref [yv] 0]) hE hI hD ⟨rfl,rfl⟩ (ih122 aU aY bU bV l2 hl) hx hO (.refl _) ?_ ?_ ?_
  ·rintro s7 y8 w5 w6 F H o h hO;clear hx hl;refine G8.value (F:=[]) (C:=[.ref b1 0,.eref [.eref (C5 aU) 0] 0,.eref [yv] 0]) (QB cf123 K4 func123 (by rfl) (by kernel_rfl) call123 ntmps123 (by rfl) (by rfl) ?_);intro E K hE hK hKD;cbv;refine B0 hE hO 0 rfl ?_;cbv;refine B2 hE hO 0 rfl rfl fun H hO=>?_;cbv;refine B0 hE hO 0 rfl ?_;cbv;obtain⟨w12,w13,s11,hx,h1,he⟩:=W9 h;clear h;have h:=h1;clear h1
   rw[he,append_assoc]at hO
   clear he;refine I7 cf123 hE K4 (fun e l H1=>(e= .normal∧l=[(2,.v (.eref [.eref (C5 aU) 0] 0)),(3,.v (.eref [yv] 0)),(4,.v (.eref (V4 y8) 0))]∧B9 (I (List.map (fun(x:A9)=>[(C4 x)]) (w13++w6)++tl)) F [cb b1 [vi (ar .add .i64 s7 1)]] H1)∨(False)) (by kernel_rfl) ?_ ?_
   ·clear h;have h:=hx;clear hx;cbv;refine A8 hE h (fun _ h=>?_) fun _ h=>?_
    ·cbv;refine B0 hE hO 0 rfl ?_;cbv;cases h
    cbv;obtain⟨hw,rfl⟩:=H6 h
    rw[←hw]at hO
    exact⟨_,.inl ⟨rfl,rfl,hO⟩,.e rfl (.e2 .z),rfl⟩
   clear hx;rintro e l H hX
   rcases hX with hX|hX
   ·obtain⟨rfl,rfl,hO⟩:=hX;cbv;refine A8 hE h (fun _ h=>?_) fun _ h=>?_
    ·cbv;obtain⟨w14,h1,he⟩:=BA h;clear h;have h:=h1;clear h1
     rw[he,append_assoc]at hO
     clear he;have hO:B9 (I ([(C4 y8)]::(List.map (fun(x:A9)=>[(C4 x)]) (w14++w6)++tl))) F [cb b1 [vi (ar .add .i64 s7 1)]] _:=hO;refine KM hE hI hD hy hO (.refl _) (fun H hO=>?_) (fun H hO=>?_)
     ·cbv;obtain⟨hw,rfl⟩:=H6 h
      rw[←hw]at hO
      exact hK _ _ ⟨_,rfl,hO⟩ rfl
     clear h;cbv;exact hKD _ _ _ hO rfl
    cbv;cases h
   exact hX.elim
  ·rintro v H hb hO;cases hb;clear hl hx;cbv;obtain⟨hw,_⟩:=H6 h
   rw[←hw]at hO
   exact hK _ _ _ hO trivial
  rintro v L H hb hO;cases hb;clear h hl hx;cbv;exact hKD _ _ _ hO trivial
 cases h
theorem k122 (N n:Nat) (ih57:K57 N n) (ih158:YX N n):Ac8 N (n+1):=by
 intro aF aA aI aW r h
 unfold W0 at h
 obtain⟨⟨w0,u0⟩,h1,hr⟩:=bind_some h;clear h;have hr:=D9 hr;subst hr;have h:=h1;clear h1;refine Bf cf122 K4 func122 (by rfl) (by kernel_rfl) call122 ntmps122 (by rfl) (fun _=>rfl) ?_;intro yv I D hI hD hy tl F E H K hE hO hK hKD
 have hO:B9 (I (List.map (fun(x:A9)=>[(C4 x)]) (w0++[])++tl)) F [] H:=by rw[append_nil];exact hO
 cbv;refine LG hE hy.1 ?_;cbv;refine D2 hE hO fun b1 H hO=>?_;cbv;refine A8 hE h (fun _ h=>?_) fun _ h=>?_
 ·cbv;obtain⟨w3,w4,s7,hx,h1,he⟩:=W9 h;clear h;have h:=h1;clear h1
  rw[he,append_assoc]at hO
  clear he;refine Tf cf122 hE K4 (γ:=Unit) (fun s2 g=>[(5,.v (.eref [.eref (C5 aF) 0] 0)),(6,.v (.eref (D6 aA) 0)),(7,.v (.eref [sr eAh2 aI] 0)),(9,.v (.eref [yv] 0)),(10,.v (.ref b1 0)),fi 11 s2]) (fun s2 g w H1=>B9 (I (List.map (fun(x:A9)=>[(C4 x)]) w++tl)) F [cb b1 [.bool false]] H1) (fun x e l w H1=>e= .exit 1∧l=[(10,.v (.ref b1 0))]∧B9 (I (List.map (fun(x:A9)=>[(C4 x)]) w++tl)) F [cb b1 [.bool false]] H1) (fun e l H1=>(e= .ret∧l=[(10,.v (.ref b1 0))]∧B9 D F [cb b1 [.bool false]] H1)) (by kernel_rfl) ?_ (w':=w4++[]) () hx ?_ ?_ ?_ ?_
  ·rintro s2 _ w5 w6 H o hO h;clear hx
   skip
   cbv;refine E1 hE ?_;cbv;refine A8 hE h (fun _ h=>?_) fun _ h=>?_
   ·cbv;refine C6 hE (g:=fun r8=>.bool r8) h (c139 N aF aA aI s2) (.refl _) fun r8 h=>?_;cbv;refine A8 hE h (fun _ h=>?_) fun _ h=>?_
    ·cbv;refine C7 hE eAi4 h fun x9 h=>?_;cbv;refine C6 hE (g:=fun r10=>(BR r10)) h (c116 N x9) (.refl _) fun r10 h=>?_;cbv;obtain⟨w11,h1,he⟩:=BA h;clear h;have h:=h1;clear h1
     rw[he,append_assoc]at hO
     clear he;have hO:B9 (I ([.agg [vi r10.Time,vi r10.Source,vi r10.Seq,vi 0,sr eAh4 ([]),sr eAh2 ([(⟨aA.Var,s2⟩:A3)])]]::(List.map (fun(x:A9)=>[(C4 x)]) (w11++w6)++tl))) F [cb b1 [.bool false]] _:=hO;refine KM hE hI hD hy hO (.cons (.agg (.cons (.refl _) (.cons (.refl _) (.cons (.refl _) (.cons (.refl _) (.cons (.lit _ (D0)) (.cons (.lit _ (E2 ((eAi2 (⟨aA.Var,s2⟩:A3)).symm) (D0))) (.refl _)))))))) (.refl _)) (fun H hO=>?_) (fun H hO=>?_)
     ·cbv;refine Qe hE (nt_eq _) ?_;cbv;obtain⟨hw,rfl⟩:=H6 h
      rw[←hw]at hO
      exact⟨_,(),rfl,.e2 (.e4 .z),rfl,hO⟩
     clear h;cbv;refine Qd hE (nt_eq _) ?_;cbv;refine B2 hE hO 0 rfl rfl fun H hO=>?_;cbv;exact .inr ⟨_,⟨rfl,rfl,hO⟩,.e rfl .z,rfl⟩
    cbv;obtain⟨hw,rfl⟩:=H6 h
    rw[←hw]at hO
    exact⟨_,(),rfl,.e2 (.e4 .z),rfl,hO⟩
   cbv;obtain⟨hw,rfl⟩:=H6 h
   rw[←hw]at hO
   exact .inl ⟨_,_,rfl,⟨rfl,rfl,hO⟩,.e rfl .z,rfl⟩
  ·exact .e2 (.e4 .z)
  ·exact hO
  ·rintro e l H ⟨rfl,rfl,hO⟩;clear hx;cbv;refine B2 hE hO 0 rfl rfl fun H hO=>?_;cbv;refine B0 hE hO 0 rfl ?_;cbv;obtain⟨hw,_⟩:=H6 h
   rw[←hw]at hO
   exact hK _ _ _ hO rfl
  rintro e l H hX;obtain⟨rfl,rfl,hO⟩:=hX;clear h;cbv;refine B0 hE hO 0 rfl ?_;cbv;exact hKD _ _ _ hO rfl
 cbv;refine A8 hE h (fun _ h=>?_) fun _ h=>?_
 ·cbv;cases h
 cbv;obtain⟨w13,w14,s12,hx,h1,he⟩:=W9 h;clear h;have h:=h1;clear h1
 rw[he,append_assoc]at hO
 clear he;refine I7 cf122 hE K4 (fun e l H1=>(e= .normal∧l=[fi 3 aW,(5,.v (.eref [.eref (C5 aF) 0] 0)),(6,.v (.eref (D6 aA) 0)),(7,.v (.eref [sr eAh2 aI] 0)),(9,.v (.eref [yv] 0)),(10,.v (.ref b1 0)),(88,.v (.bool s12))]∧B9 (I (List.map (fun(x:A9)=>[(C4 x)]) (w14++[])++tl)) F [cb b1 [.bool false]] H1)∨(False)) (by kernel_rfl) ?_ ?_
 ·clear h;have h:=hx;clear hx;cbv;refine A8 hE h (fun _ h=>?_) fun _ h=>?_
  ·cbv;obtain⟨hw,rfl⟩:=H6 h
   rw[←hw]at hO
   exact⟨_,.inl ⟨rfl,rfl,hO⟩,.e rfl (.e2 (.e4 .z)),rfl⟩
  cbv;refine A8 hE h (fun _ h=>?_) fun _ h=>?_
  ·cbv;obtain⟨hw,rfl⟩:=H6 h
   rw[←hw]at hO
   exact⟨_,.inl ⟨rfl,rfl,hO⟩,.e rfl (.e2 (.e4 .z)),rfl⟩
  cbv;obtain⟨hw,rfl⟩:=H6 h
  rw[←hw]at hO
  exact⟨_,.inl ⟨rfl,rfl,hO⟩,.e rfl (.e2 (.e4 .z)),rfl⟩
 clear hx;rintro e l H hX
 rcases hX with hX|hX
 ·obtain⟨rfl,rfl,hO⟩:=hX;cbv;refine A8 hE h (fun _ h=>?_) fun _ h=>?_
  ·cbv;obtain⟨l15,hl,h⟩:=bind_some h;obtain⟨w16,h1,he⟩:=BA h;clear h;have h:=h1;clear h1
   rw[he,append_assoc]at hO
   clear he
   rw[List.map_append,append_assoc]at hO
   refine Oo hE hI hD hy (ih158 aF aA aI aW ([]) ([]) l15 hl) hO (.cons (.refl _) (.cons (.refl _) (.cons (.refl _) (.cons (.refl _) (.cons (.lit _ (D0)) (.cons (.lit _ (D0)) (.refl _))))))) (fun v H hb hO=>?_) (fun v H hb hO=>?_)
   ·cases hb;clear hl;cbv;refine B2 hE hO 0 rfl rfl fun H hO=>?_;cbv;refine B0 hE hO 0 rfl ?_;cbv;obtain⟨hw,_⟩:=H6 h
    rw[←hw]at hO
    exact hK _ _ _ hO rfl
   cases hb;clear h hl;cbv;refine B2 hE hO 0 rfl rfl fun H hO=>?_;cbv;refine B0 hE hO 0 rfl ?_;cbv;exact hKD _ _ _ hO rfl
  cbv;cases h
 exact hX.elim
theorem k158 (N n:Nat) (ih57:K57 N n) (ih158:YX N n):YX N (n+1):=by
 intro aF aA aI aW bB aH r h
 unfold O7 at h
 obtain⟨⟨w0,u0⟩,h1,hr⟩:=bind_some h;clear h;have hr:=D9 hr;subst hr;have h:=h1;clear h1;refine Bf cf158 K4 func158 (by rfl) (by kernel_rfl) call158 ntmps158 (by rfl) (fun _=>rfl) ?_;intro yv I D hI hD hy tl F E H K hE hO hK hKD
 have hO:B9 (I (List.map (fun(x:A9)=>[(C4 x)]) (w0++[])++tl)) F [] H:=by rw[append_nil];exact hO
 cbv;refine LG hE hy.1 ?_;cbv;refine D2 hE hO fun b1 H hO=>?_;cbv;refine E1 hE ?_;cbv;refine E1 hE ?_;cbv;obtain⟨w3,w4,s2,hx,h1,he⟩:=W9 h;clear h;have h:=h1;clear h1
 rw[he,append_assoc]at hO
 clear he;refine I7 cf158 hE K4 (fun e l H1=>(match(generalizing:=false) s2 with| .inl y=>e= .normal∧l=[(7,.v (.eref [.eref (C5 aF) 0] 0)),(8,.v (.eref (D6 aA) 0)),(9,.v (.eref [sr eAh2 aI] 0)),(10,.v (.eref [vi aW] 0)),(11,.v (.eref [sr eAh4 bB] 0)),(12,.v (.eref [sr eAh2 aH] 0)),(13,.v (.eref [yv] 0)),(14,.v (.ref b1 0)),(15,.v (.eref [vi (Ar.len bB)] 0))]∧B9 (I (List.map (fun(x:A9)=>[(C4 x)]) (w4++[])++tl)) F [cb b1 [.bool false]] H1| .inr y=>e= .ret∧l=[(14,.v (.ref b1 0))]∧B9 (I (List.map (fun(x:A9)=>[(C4 x)]) (w4++[])++tl)) F [cb b1 [.bool y]] H1)∨((e= .ret∧l=[(14,.v (.ref b1 0))]∧B9 D F [cb b1 [.bool false]] H1))) (by kernel_rfl) ?_ ?_
 ·clear h;have h:=hx;clear hx;cbv;refine A8 hE h (fun hc h=>?_) (fun hc h=>?_)
  ·cbv;refine C6 hE (g:=fun r5=>sr eAh4 r5) h (fun r5 hx=>Mm (c218 N bB r5 hx)) (.refl _) fun r5 h=>?_;cbv;obtain⟨w6,h1,he⟩:=BA h;clear h;have h:=h1;clear h1
   rw[he,append_assoc]at hO
   clear he;have hO:B9 (I ([.agg [vi 0,vi 0,vi 0,vi 0,sr eAh4 r5,sr eAh2 aH]]::(List.map (fun(x:A9)=>[(C4 x)]) (w6++(w4++[]))++tl))) F [cb b1 [.bool false]] _:=hO;refine KM hE hI hD hy hO (.refl _) (fun H hO=>?_) (fun H hO=>?_)
   ·cbv;refine Qe hE (nt_eq _) ?_;cbv;refine A8 hE h (fun hc h=>?_) (fun hc h=>?_)
    ·cbv;refine B2 hE hO 0 rfl rfl fun H hO=>?_;cbv;obtain⟨hw,rfl⟩:=H6 h
     rw[←hw]at hO
     exact⟨_,.inl ⟨rfl,rfl,hO⟩,.e rfl .z,rfl⟩
    cbv;obtain⟨hw,rfl⟩:=H6 h
    rw[←hw]at hO
    exact⟨_,.inl ⟨rfl,rfl,hO⟩,.e rfl (.e4 (.e4 .z)),rfl⟩
   clear h;cbv;refine Qd hE (nt_eq _) ?_;cbv;refine B2 hE hO 0 rfl rfl fun H hO=>?_;cbv;exact⟨_,.inr (⟨rfl,rfl,hO⟩),.e rfl .z,rfl⟩
  cbv;obtain⟨hw,rfl⟩:=H6 h
  rw[←hw]at hO
  exact⟨_,.inl ⟨rfl,rfl,hO⟩,.e rfl (.e4 (.e4 .z)),rfl⟩
 clear hx;rintro e l H hX
 rcases hX with hX|hX
 ·rcases s2 with y7|y34
  ·obtain⟨rfl,rfl,hO⟩:=hX;cbv;obtain⟨w9,w10,s8,hx,h1,he⟩:=W9 h;clear h;have h:=h1;clear h1
   rw[he,append_assoc]at hO
   clear he;refine I7 cf158 hE K4 (fun e l H1=>(e= .normal∧l=[(7,.v (.eref [.eref (C5 aF) 0] 0)),(8,.v (.eref (D6 aA) 0)),(9,.v (.eref [sr eAh2 aI] 0)),(10,.v (.eref [vi aW] 0)),(11,.v (.eref [sr eAh4 bB] 0)),(12,.v (.eref [sr eAh2 aH] 0)),(13,.v (.eref [yv] 0)),(14,.v (.ref b1 0)),(15,.v (.eref [vi (Ar.len bB)] 0)),(16,.v (sr eAh2 s8))]∧B9 (I (List.map (fun(x:A9)=>[(C4 x)]) (w10++[])++tl)) F [cb b1 [.bool false]] H1)∨(False)) (by kernel_rfl) ?_ ?_
   ·clear h;have h:=hx;clear hx;cbv;refine A8 hE h (fun hc h=>?_) (fun hc h=>?_)
    ·cbv;refine A7 hE h (c140 N aI aH) (.refl _) fun r11 h=>?_;cbv;obtain⟨hw,rfl⟩:=H6 h
     rw[←hw]at hO
     exact⟨_,.inl ⟨rfl,rfl,hO⟩,.e2 (.e4 (.e4 .z)),rfl⟩
    cbv;obtain⟨hw,rfl⟩:=H6 h
    rw[←hw]at hO
    exact⟨_,.inl ⟨rfl,rfl,hO⟩,.e2 (.e4 (.e4 .z)),rfl⟩
   clear hx;rintro e l H hX
   rcases hX with hX|hX
   ·obtain⟨rfl,rfl,hO⟩:=hX;cbv;refine E1 hE ?_;cbv;refine KO hE h fun h=>?_;cbv;refine C7 hE eAh9 h fun x12 h=>?_;cbv;refine Ho hE h (ih57 aF x12 s8 aW) (.refl _) fun r13 v14 hv14 h=>?_;cbv;obtain⟨w18,w19,o22,hx,h1,he⟩:=W9 h;clear h;have h:=h1;clear h1
    rw[he,append_assoc]at hO
    clear he;refine We cf158 hE K4 (ι:=Unit) (σ:=Unit) (R:=Unit) (enc:=fun(x:A9)=>[(C4 x)]) (fun _ w F1 H=>B9 (I (List.map (fun(x:A9)=>[(C4 x)]) w++tl)) F1 [cb b1 [.bool false]] H) (fun _ e w F1 H=>False) (fun e F1 H=>e= .ret∧B9 D F1 [cb b1 [.bool false]] H) (fun i _ y15=>[(7,.v (.eref [.eref (C5 aF) 0] 0)),(8,.v (.eref (D6 aA) 0)),(9,.v (.eref [sr eAh2 aI] 0)),(10,.v (.eref [vi aW] 0)),(11,.v (.eref [sr eAh4 bB] 0)),(12,.v (.eref [sr eAh2 aH] 0)),(13,.v (.eref [yv] 0)),(14,.v (.ref b1 0)),(15,.v (.eref [vi (Ar.len bB)] 0)),(17,.v (.eref (V4 y15) 0))]) (fun i _ y15 w F1 H=>B9 (I (List.map (fun(x:A9)=>[(C4 x)]) w++tl)) F1 [cb b1 [.bool false]] H) (fun _ _=>B9.stable (hI _) _) (fun _ _ _=>⟨fun h=>h.elim,fun _ _ h=>h.elim⟩) (fun _=>D7.con (B9.stable hD _)) (fun _ _ _ _=>B9.stable (hI _) _) hv14 hx (w':=w19++[]) hO (by decide) (fun _=>rfl) (by kernel_rfl) (by kernel_rfl) ?_ ?_ ?_ ?_ ?_
    ·rintro E i17 y15 _ w F16 H hE hO;clear hx h;cbv;exact⟨(),hO,.e2 (.e4 (.e4 .z)),rfl⟩
    ·rintro E i17 _ y15 _ w20 w21 F16 H o hE hF h hO;clear hx;cbv;obtain⟨w24,w25,s23,hx,h1,he⟩:=W9 h;clear h;have h:=h1;clear h1
     rw[he,append_assoc]at hO
     clear he;refine I7 cf158 hE K4 (fun e l H1=>(e= .normal∧l=[(7,.v (.eref [.eref (C5 aF) 0] 0)),(8,.v (.eref (D6 aA) 0)),(9,.v (.eref [sr eAh2 aI] 0)),(11,.v (.eref [sr eAh4 bB] 0)),(12,.v (.eref [sr eAh2 aH] 0)),(13,.v (.eref [yv] 0)),(14,.v (.ref b1 0)),(15,.v (.eref [vi (Ar.len bB)] 0)),(17,.v (.eref (V4 y15) 0)),fi 18 s23]∧B9 (I (List.map (fun(x:A9)=>[(C4 x)]) (w25++w21)++tl)) F16 [cb b1 [.bool false]] H1)∨(False)) (by kernel_rfl) ?_ ?_
     ·clear h;have h:=hx;clear hx;cbv;refine A8 hE h (fun hc h=>?_) (fun hc h=>?_)
      ·cbv;refine A7 hE h (c142 N y15.s) (.refl _) fun r26 h=>?_;cbv;obtain⟨hw,rfl⟩:=H6 h
       rw[←hw]at hO
       exact⟨_,.inl ⟨rfl,rfl,hO⟩,.e2 (.e4 (.e4 .z)),rfl⟩
      cbv;obtain⟨hw,rfl⟩:=H6 h
      rw[←hw]at hO
      exact⟨_,.inl ⟨rfl,rfl,hO⟩,.e2 (.e4 (.e4 .z)),rfl⟩
     clear hx;rintro e l H hX
     rcases hX with hX|hX
     ·obtain⟨rfl,rfl,hO⟩:=hX;cbv;refine A7 hE h (c141 N aH y15.s) (.refl _) fun r27 h=>?_;cbv;refine A8 hE h (fun hc h=>?_) (fun hc h=>?_)
      ·cbv;obtain⟨hw,rfl⟩:=H6 h
       rw[←hw]at hO
       exact⟨_,rfl,hO⟩
      cbv;refine Wc hE (f:=eAh4) M2 h fun l28 h=>?_;cbv;refine RQ (f:=eAh4) hE M2 (by decide) (l:=l28) (m:=[y15.d]) (.refl _) (.lstc (.eq (eAh6 y15.d) (.refl _)) (.lst0)) h fun l29 h=>?_;cbv;refine C6 hE (g:=fun r30=>sr eAh2 r30) h (c140 N aH y15.s) (.refl _) fun r30 h=>?_;cbv;obtain⟨l31,hl,h⟩:=bind_some h;obtain⟨w32,h1,he⟩:=BA h;clear h;have h:=h1;clear h1
      rw[he,append_assoc]at hO
      clear he
      rw[List.map_append,append_assoc]at hO
      refine Oo hE hI hD hy (ih158 aF aA aI s23 l29 r30 l31 hl) hO (.refl _) (fun v H hb hO=>?_) (fun v H hb hO=>?_)
      ·cases hb;clear hl;cbv;refine Qe hE (nt_eq _) ?_;cbv;obtain⟨hw,rfl⟩:=H6 h
       rw[←hw]at hO
       exact⟨_,rfl,hO⟩
      cases hb;clear h hl;cbv;refine Qd hE (nt_eq _) ?_;cbv;refine B2 hE hO 0 rfl rfl fun H hO=>?_;cbv
      first|exact .inr ⟨rfl,rfl,hO⟩|exact .inr (hO)
     exact hX.elim
    ·rintro d33 _ H rfl hd hO;have hO:B9 (I (List.map (fun(x:A9)=>[(C4 x)]) (w19++[])++tl)) F [cb b1 [.bool false],.blk d33 DB] H:=B9.dblk hd hO;clear hd hx;cbv;refine B2 hE hO 0 rfl rfl fun H hO=>?_;cbv;refine IS hE hO 1 rfl fun H hO=>?_;cbv;refine B0 hE hO 0 rfl ?_;cbv;obtain⟨hc,h⟩:=LT h;obtain⟨hw,_⟩:=H6 h
     rw[←hw]at hO
     exact hK _ _ _ hO (congrArg V.bool hc)
    ·rintro _ _ _ _ _ _ h;exact h.elim
    rintro d33 e H hd ⟨rfl,hO⟩;have hO:B9 D F [cb b1 [.bool false],.blk d33 DB] H:=B9.dblk hd hO;clear hd hx h;cbv;refine IS hE hO 1 rfl fun H hO=>?_;cbv;refine B0 hE hO 0 rfl ?_;cbv;exact hKD _ _ _ hO rfl
   exact hX.elim
  obtain⟨rfl,rfl,hO⟩:=hX;cbv;refine B0 hE hO 0 rfl ?_;cbv;obtain⟨hc,h⟩:=LT h;obtain⟨hw,_⟩:=H6 h
  rw[←hw]at hO
  exact hK _ _ _ hO (congrArg V.bool hc)
 obtain⟨rfl,rfl,hO⟩:=hX;clear h;cbv;refine B0 hE hO 0 rfl ?_;cbv;exact hKD _ _ _ hO rfl
theorem Ky (N:Nat):∀n,K57 N n∧Ac9 N n∧Ac8 N n∧YX N n:=by
 intro n
 induction n with
 |zero=>exact⟨(by intro aF aA aI aW r h;unfold L5 at h;cases h),(by intro aU aY bU bV r h;unfold Q7 at h;cases h),(by intro aF aA aI aW r h;unfold W0 at h;cases h),(by intro aF aA aI aW bB aH r h;unfold O7 at h;cases h)⟩
 |succ n ih=>
  obtain⟨ih57,ih121,ih122,ih158⟩:=ih;exact⟨k57 N n ih121,k121 N n ih122,k122 N n ih57 ih158,k158 N n ih57 ih158⟩
theorem c57 (N n aF aA aI aW r)(h:L5 N n aF aA aI aW=some r):Hc prog 57 [.eref (C5 aF) 0,(B7 aA),sr eAh2 aI,vi aW] (fun v=>Mw prog v (r.map fun(x:A9)=>[(C4 x)])):=(Ky N n).1 aF aA aI aW r h
theorem c58 {cmp:A2→A2→Option Int}{g:Nat}{C:List V}(eg:∀vals w,(callFunc g vals).run prog w= .ok (.enter g vals) w)(hc:∀y1 y2 r,cmp y1 y2=some r→B6 prog g ([(C2 y1),(C2 y2)]++C) (vi r)){l r:List A2}(h:Lf cmp l=some r):
 OT prog 58 (.func (.func g) [] C) 5 (lst eAh4 l) (lst eAh4 r):=Kq Go.Proofs.Tryz.sorts58 call58 (va:=fun x=>(K3 x)) eAh6 (fun _=>rfl) eg hc h
def cf15 :Cf:=⟨[9,5000009],[(3000011,0),(3000011,1),(3000011,2),(3000011,3)],[],[2000011],[],[]⟩
set_option maxHeartbeats 2000000 in
theorem c15 (N aA aH r) (h:Ed N aA aH=some r):B6 prog 15 [(B7 aA),sr eAh5 aH] (.tup [sr eAh4 r.1,vi r.2]):=by
 unfold Ed at h
 refine Ml (T:=TT) cf15 K4 func15 (by rfl) (by kernel_rfl) call15 ntmps15 (by rfl) (by rfl) ?_;intro E H0 K hE hK hF;have hO:B9 Eq H0 [] H0:=.start G3 rfl;cbv;refine A7 hE h (c55 N aA) (.refl _) fun r1 h=>?_;cbv;refine A8 hE h (fun _ h=>?_) fun _ h=>?_
 ·cbv;cases h
 cbv;refine A7 hE h (c56 N aH) (.refl _) fun r2 h=>?_;cbv;refine A8 hE h (fun _ h=>?_) fun _ h=>?_
 ·cbv;cases h
 cbv;refine Qb hE (f0:=eAh4) hO fun q4 b3 H hq4 hO=>?_;cbv;refine Ho hE h (c57 N N (⟨aH,0⟩:C9) aA ([]) 0) (.cons (.refl _) (.cons (.refl _) (.cons (.lit _ (D0)) (.refl _)))) fun r5 v6 hv6 h=>?_;cbv;obtain⟨o12,hx,h⟩:=bind_some h;refine IR cf15 hE K4 (ι:=Unit) (enc:=fun(x:A9)=>[(C4 x)]) (fun(s8:(List A2)) F H=>∃g:OG,(T4 g (Ar.len s8))∧B9 Eq F [cb b3 [.own g.id g.lo g.n],ob g 5 eAh4 s8] H) (fun(r:Unit) e F H=>False) (fun i s8 y7=>[(9,.v (.ref b3 0)),(10,.v (.eref (V4 y7) 0))]) (fun i s8 y7 F H=>∃g:OG,(T4 g (Ar.len s8))∧B9 Eq F [cb b3 [.own g.id g.lo g.n],ob g 5 eAh4 s8] H) (fun _=>D7.ex fun _=>B9.stable G3 _) (fun _ _=>⟨fun h=>h.elim,fun _ _ h=>h.elim⟩) (fun _ _ _=>D7.ex fun _=>B9.stable G3 _) hv6 hx (⟨q4,hq4,hO⟩) (by decide) (fun _=>rfl) (by kernel_rfl) (by kernel_rfl) ?_ ?_ ?_ ?_
 ·rintro E i10 y7 s8 F9 H hE ⟨q11,hq11,hO⟩;clear hx h;cbv;exact⟨(),⟨q11,hq11,hO⟩,.e2 .z,rfl⟩
 ·rintro E i10 _ y7 s8 F9 H o hE hF h ⟨q11,hq11,hO⟩;clear hx;cbv;obtain⟨s13,hx,h⟩:=bind_some h;refine I7 cf15 hE K4 (fun e l H1=>∃u1:OG,T4 u1 (Ar.len s13)∧e= .normal∧l=[]∧B9 Eq F9 [cb b3 [.own u1.id u1.lo u1.n],ob u1 5 eAh4 s13] H1) (by kernel_rfl) ?_ ?_
  ·clear h;have h:=hx;clear hx;cbv;obtain⟨l215,el215,h⟩:=bind_some h;obtain⟨u253_0,eu253_0,h⟩:=bind_some h;obtain⟨l295,el295,h⟩:=bind_some h
   repeat' first|refine And.intro ?_ ?_|(refine B0 hE hO 0 rfl ?_;cbv)|(refine LF hE hq11 ?_;cbv)|(refine Om (f:=eAh4) hE M2 (by decide) hO hq11 1 rfl (m:=[(⟨(⟨0,0,0⟩:R0),0,[]⟩:A2)]) (Jz (f:=eAh4) hE M2 (.lstc (.eq (eAh6 (⟨(⟨0,0,0⟩:R0),0,[]⟩:A2)) (.agg (.cons (.refl _) (.cons (.refl _) (.cons (.refl _) (.cons (.refl _) (.cons (.lit _ (D0)) (.refl _)))))))) (.lst0))) (J0 el215) fun l215 q214 H hq214 hO hh=>?_;obtain rfl:=D9 hh;cbv)|(refine J8 hE hO hq214 1 rfl (J0 eu253_0) fun hh=>?_;clear hh;cbv)|(refine Y3 hE (f:=eAh4) (esz:=5) (tz:=5) (off:=0) (u:=(fun x294:A2=>y7.d)) (fun _=>⟨_,.eq (eAh6 _) (.refl _),(by rw[eAh6];rfl),M2 _,rfl⟩) (by decide) hO hq214 1 rfl (J0 el295) fun l295 H hq214 hh hO=>?_;obtain rfl:=D9 hh;cbv)|(refine B2 hE hO 0 rfl rfl fun H hO=>?_;cbv)|(have h:=D9 h;subst h;exact⟨_,⟨q214,hq214,rfl,rfl,hO⟩,.z,rfl⟩)
  clear hx;rintro e l H ⟨q414,hq414,rfl,rfl,hO⟩;cbv;cases h;exact⟨_,rfl,⟨q414,hq414,hO⟩⟩
 ·rintro d415 s418 H rfl hd ⟨q419,hq419,hO⟩;have hO:B9 Eq H0 [cb b3 [.own q419.id q419.lo q419.n],ob q419 5 eAh4 s418,.blk d415 DB] H:=B9.dblk hd hO;clear hd;clear hx;cbv;refine A8 hE h (fun _ h=>?_) fun _ h=>?_
  ·cbv;cases h
  cbv;refine B0 hE hO 0 rfl ?_;cbv;refine LF hE hq419 ?_;cbv;obtain⟨s421,hx,h⟩:=bind_some h;refine F3 cf15 hE K4 (fun s420=>[(9,.v (.ref b3 0)),(42,.v (.own q419.id q419.lo q419.n)),fi 43 (Ar.len s418),fi 44 s420]) (fun s420 H1=>B9 Eq H0 [cb b3 [.own q419.id q419.lo q419.n],ob q419 5 eAh4 s418,.blk d415 DB] H1) (fun x e l H1=>e= .exit 2∧l=[(9,.v (.ref b3 0))]∧B9 Eq H0 [cb b3 [.own q419.id q419.lo q419.n],ob q419 5 eAh4 s418,.blk d415 DB] H1) (by kernel_rfl) ?_ hx ?_ hO ?_
  ·intro s420 H o hO h;clear hx;cbv;refine A8 hE h (fun _ h=>?_) fun _ h=>?_
   ·cbv;refine J8 hE hO hq419 1 rfl h fun h=>?_;cbv;refine M8 hE eAh6 hO hq419 1 rfl h fun x422 h=>?_;cbv;refine A7 hE h (c29 N N x422) (.refl _) fun r423 h=>?_;cbv;refine A8 hE h (fun _ h=>?_) fun _ h=>?_
    ·cbv;cases h
    cbv;cases h;exact⟨_,rfl,.e4 .z,rfl,hO⟩
   cbv;cases h;exact⟨_,_,rfl,⟨rfl,rfl,hO⟩,.e rfl .z,rfl⟩
  ·exact .e4 .z
  clear hx;rintro e l H ⟨rfl,rfl,hO⟩;cbv;refine B0 hE hO 0 rfl ?_;cbv;refine Qc hE hO hq419 1 rfl h (fun l424 hx=>c58 (g:=21) (C:=[]) call21 (fun y1 y2 r hx=>c21 N N y1 y2 r hx) hx) fun l424 H hq419 hO h=>?_;cbv;refine B0 hE hO 0 rfl ?_;cbv;refine IS hE hO 2 rfl fun H hO=>?_;cbv;cases h;exact hF _ (Ct.tup [.bad,vi 0] 0 (by simp)) q419 _ _ 1 _ _ hO rfl (CS hE hq419) (.tup (.refl _))
 rintro d r e H rfl hd hO;exact hO.elim
def cf69 :Cf:=⟨[],[(1,14)],[],[],[],[]⟩
theorem c69 (N aB aC r)(h:CA N aB aC=some r):B6 prog 69 [(BR aB),(BR aC)] (vi r):=by
 unfold CA at h
 refine J9 cf69 func69 call69 ntmps69 ?_;intro E H0 K hE hK hO;cbv;refine C6 hE (g:=fun r1=>vi r1) h (c70 N aB.Time aC.Time) (.refl _) fun r1 h=>?_;cbv;refine C6 hE (g:=fun r2=>vi r2) h (c70 N aB.Source aC.Source) (.refl _) fun r2 h=>?_;cbv;refine A7 hE h (c70 N aB.Seq aC.Seq) (.refl _) fun r3 h=>?_;cbv;refine A7 hE h (c68 N ([r1,r2,r3])) (.cons (.lit _ (E2 (rfl) (E2 (rfl) (E2 (rfl) (D0))))) (.refl _)) fun r4 h=>?_;cbv;cases h;exact hK hO (.refl _)
theorem c146 (N aL r) (h:Fc N aL=some r):B6 prog 146 [sr eAi1 aL] (.bool r):=by
 unfold Fc at h
 refine J9 cf0 func146 call146 ntmps146 ?_;intro E H0 K hE hK hO;cbv;obtain⟨s2,hx,h⟩:=bind_some h;refine F3 cf0 hE K4 (fun s1=>[(0,.v (sr eAi1 aL)),fi 3 s1]) (fun s1 H1=>B9 Eq H0 [] H1) (fun x e l H1=>match(generalizing:=false) x with| .inl y=>e= .exit 0∧l=[(0,.v (sr eAi1 aL))]∧B9 Eq H0 [] H1| .inr y=>e= .ret∧l=[(2,.b false)]∧B9 Eq H0 [] H1) (by kernel_rfl) ?_ hx ?_ hO ?_
 ·intro s1 H o hO h;clear hx;cbv;refine E1 hE ?_;cbv;refine A8 hE h (fun _ h=>?_) fun _ h=>?_
  ·cbv;refine C7 hE eAi0 h fun x3 h=>?_;cbv;refine A8 hE h (fun _ h=>?_) fun _ h=>?_
   ·cbv;cases h;exact⟨_,_,rfl,⟨rfl,rfl,hO⟩,.b rfl (.z),rfl⟩
   cbv;cases h;exact⟨_,rfl,.e2 .z,rfl,hO⟩
  cbv;cases h;exact⟨_,_,rfl,⟨rfl,rfl,hO⟩,.e rfl .z,rfl⟩
 ·exact .e2 .z
 clear hx
 rcases s2 with y4|y5
 ·rintro e l H ⟨rfl,rfl,hO⟩;cbv;refine E1 hE ?_;cbv;cases h;exact hK hO (.refl _)
 rintro e l H ⟨rfl,rfl,hO⟩;cbv;cases h;exact hK hO (.refl _)
theorem c94 (N aD r)(h:Hk N aD=some r):B6 prog 94 [(Bi aD)] (.bool r):=by
 unfold Hk at h
 refine J9 cf0 func94 call94 ntmps94 ?_;intro E H0 K hE hK hO;cbv;refine A7 hE h (c146 N aD.Values) (.refl _) fun r1 h=>?_;cbv;cases h;exact hK hO (.refl _)
theorem c36 (N aL r) (h:BX N aL=some r):B6 prog 36 [sr eAh5 aL] (.bool r):=by
 unfold BX at h
 refine J9 cf0 func36 call36 ntmps36 ?_;intro E H0 K hE hK hO;cbv;obtain⟨s2,hx,h⟩:=bind_some h;refine F3 cf0 hE K4 (fun s1=>[(0,.v (sr eAh5 aL)),fi 3 s1]) (fun s1 H1=>B9 Eq H0 [] H1) (fun x e l H1=>match(generalizing:=false) x with| .inl y=>e= .exit 0∧l=[(0,.v (sr eAh5 aL))]∧B9 Eq H0 [] H1| .inr y=>e= .ret∧l=[(2,.b false)]∧B9 Eq H0 [] H1) (by kernel_rfl) ?_ hx ?_ hO ?_
 ·intro s1 H o hO h;clear hx;cbv;refine E1 hE ?_;cbv;refine A8 hE h (fun _ h=>?_) fun _ h=>?_
  ·cbv;refine C7 hE eAi4 h fun x3 h=>?_;cbv;refine A7 hE h (c94 N x3) (.refl _) fun r4 h=>?_;cbv;refine A8 hE h (fun _ h=>?_) fun _ h=>?_
   ·cbv;cases h;exact⟨_,_,rfl,⟨rfl,rfl,hO⟩,.b rfl (.z),rfl⟩
   cbv;cases h;exact⟨_,rfl,.e2 .z,rfl,hO⟩
  cbv;cases h;exact⟨_,_,rfl,⟨rfl,rfl,hO⟩,.e rfl .z,rfl⟩
 ·exact .e2 .z
 clear hx
 rcases s2 with y5|y6
 ·rintro e l H ⟨rfl,rfl,hO⟩;cbv;refine E1 hE ?_;cbv;cases h;exact hK hO (.refl _)
 rintro e l H ⟨rfl,rfl,hO⟩;cbv;cases h;exact hK hO (.refl _)
theorem c100 (N:Nat):∀n aA r,R4 N n aA=some r→B6 prog 100 [(B7 aA)] (sr eAh8 r):=by
 intro n
 induction n with
 |zero=>intro aA r h;cases h
 |succ n ih=>
 intro aA r h
 unfold R4 at h
 refine J9 cf0 func100 call100 ntmps100 ?_;intro E H0 K hE hK hO;cbv;replace hO:=hO.tl0 (t:=.full) rfl;obtain⟨s3,hx,h⟩:=bind_some h;refine M9 cf0 hE K4 (γ:=E8) (fun s1 g=>[(1,.v (.eref (D6 aA) 0)),(3,.v (.sl (lst eAh8 s1.1) g)),fi 4 s1.2]) (fun s1 g H1=>Bz g∧B9 Eq H0 [.tl g] H1) (fun x e l H1=>∃u1:E8,Bz u1∧e= .exit 0∧l=[(3,.v (.sl (lst eAh8 x) u1))]∧B9 Eq H0 [.tl u1] H1) (by kernel_rfl) ?_ .full hx ?_ ?_ ?_
 ·rintro s1 t2 H o ⟨ht2,hO⟩ h;clear hx;cbv;refine E1 hE ?_;cbv;refine A8 hE h (fun _ h=>?_) fun _ h=>?_
  ·cbv;refine C7 hE eAh9 h fun x4 h=>?_;cbv;refine A7 hE h (ih x4) (.refl _) fun r5 h=>?_;cbv;refine Aw (f:=eAh8) hE Gn (by decide) hO 0 rfl ht2 (l:=s1.1) (m:=r5) (.refl _) (.refl _) h fun l7 t6 H hO ht6 h=>?_;cbv;cases h;exact⟨_,t6,rfl,.e rfl (.e2 .z),rfl,ht6,hO⟩
  cbv;cases h;exact⟨_,_,rfl,⟨t2,ht2,rfl,rfl,hO⟩,.e rfl .z,rfl⟩
 ·exact .e rfl (.v (.slt _ (.lstc (.eq (eAh9 aA) (.refl _)) (.lst0))) (.e rfl (.z)))
 ·exact⟨trivial,hO⟩
 clear hx;rintro e l H ⟨t8,ht8,rfl,rfl,hO⟩;cbv;cases h;exact hK hO (.ro _ _)
theorem c132 (N:Nat):∀n aA bD r,T9 N n aA bD=some r→B6 prog 132 [(B7 aA),vi bD] (vi r):=by
 intro n
 induction n with
 |zero=>intro aA bD r h;cases h
 |succ n ih=>
 intro aA bD r h
 unfold T9 at h
 refine J9 cf0 func132 call132 ntmps132 ?_;intro E H0 K hE hK hO;cbv;obtain⟨s2,hx,h⟩:=bind_some h;refine F3 cf0 hE K4 (fun s1=>[fi 1 bD,(2,.v (.eref (D6 aA) 0)),fi 5 s1.1,fi 6 s1.2]) (fun s1 H1=>B9 Eq H0 [] H1) (fun x e l H1=>e= .exit 0∧l=[fi 5 x]∧B9 Eq H0 [] H1) (by kernel_rfl) ?_ hx ?_ hO ?_
 ·intro s1 H o hO h;clear hx;cbv;refine E1 hE ?_;cbv;refine A8 hE h (fun _ h=>?_) fun _ h=>?_
  ·cbv;refine C7 hE eAh9 h fun x3 h=>?_;cbv;refine A7 hE h (ih x3 bD) (.refl _) fun r4 h=>?_;cbv;cases h;exact⟨_,rfl,.e4 .z,rfl,hO⟩
  cbv;cases h;exact⟨_,_,rfl,⟨rfl,rfl,hO⟩,.e rfl .z,rfl⟩
 ·exact .e4 .z
 clear hx;rintro e l H ⟨rfl,rfl,hO⟩;cbv;cases h;exact hK hO (.refl _)
theorem c133 (N:Nat):∀n aA r,U3 N n aA=some r→B6 prog 133 [(B7 aA)] (vi r):=by
 intro n
 induction n with
 |zero=>intro aA r h;cases h
 |succ n ih=>
 intro aA r h
 unfold U3 at h
 refine J9 cf0 func133 call133 ntmps133 ?_;intro E H0 K hE hK hO;cbv;obtain⟨s2,hx,h⟩:=bind_some h;refine F3 cf0 hE K4 (fun s1=>[(1,.v (.eref (D6 aA) 0)),fi 3 s1.1,fi 4 s1.2]) (fun s1 H1=>B9 Eq H0 [] H1) (fun x e l H1=>e= .exit 0∧l=[fi 3 x]∧B9 Eq H0 [] H1) (by kernel_rfl) ?_ hx ?_ hO ?_
 ·intro s1 H o hO h;clear hx;cbv;refine E1 hE ?_;cbv;refine A8 hE h (fun _ h=>?_) fun _ h=>?_
  ·cbv;refine C7 hE eAh9 h fun x3 h=>?_;cbv;refine A7 hE h (ih x3) (.refl _) fun r4 h=>?_;cbv;cases h;exact⟨_,rfl,.e rfl (.e2 .z),rfl,hO⟩
  cbv;cases h;exact⟨_,_,rfl,⟨rfl,rfl,hO⟩,.e rfl .z,rfl⟩
 ·exact .e rfl (.e2 .z)
 clear hx;rintro e l H ⟨rfl,rfl,hO⟩;cbv;cases h;exact hK hO (.refl _)
theorem c174 (N:Nat):∀n aD bD r,U5 N n aD bD=some r→B6 prog 174 [(W2 aD),vi bD] (vi r):=by
 intro n
 induction n with
 |zero=>intro aD bD r h;cases h
 |succ n ih=>
 intro aD bD r h
 unfold U5 at h
 refine J9 cf0 func174 call174 ntmps174 ?_;intro E H0 K hE hK hO;cbv;obtain⟨s2,hx,h⟩:=bind_some h;refine F3 cf0 hE K4 (fun s1=>[fi 1 bD,(2,.v (.eref (Bw aD) 0)),fi 5 s1.1,fi 6 s1.2]) (fun s1 H1=>B9 Eq H0 [] H1) (fun x e l H1=>e= .exit 0∧l=[fi 5 x]∧B9 Eq H0 [] H1) (by kernel_rfl) ?_ hx ?_ hO ?_
 ·intro s1 H o hO h;clear hx;cbv;refine E1 hE ?_;cbv;refine A8 hE h (fun _ h=>?_) fun _ h=>?_
  ·cbv;refine C7 hE eAi6 h fun x3 h=>?_;cbv;refine A7 hE h (ih x3 bD) (.refl _) fun r4 h=>?_;cbv;cases h;exact⟨_,rfl,.e4 .z,rfl,hO⟩
  cbv;cases h;exact⟨_,_,rfl,⟨rfl,rfl,hO⟩,.e rfl .z,rfl⟩
 ·exact .e4 .z
 clear hx;rintro e l H ⟨rfl,rfl,hO⟩;cbv;cases h;exact hK hO (.refl _)
theorem c175 (N:Nat):∀n aD r,U4 N n aD=some r→B6 prog 175 [(W2 aD)] (vi r):=by
 intro n
 induction n with
 |zero=>intro aD r h;cases h
 |succ n ih=>
 intro aD r h
 unfold U4 at h
 refine J9 cf0 func175 call175 ntmps175 ?_;intro E H0 K hE hK hO;cbv;obtain⟨s2,hx,h⟩:=bind_some h;refine F3 cf0 hE K4 (fun s1=>[(1,.v (.eref (Bw aD) 0)),fi 3 s1.1,fi 4 s1.2]) (fun s1 H1=>B9 Eq H0 [] H1) (fun x e l H1=>e= .exit 0∧l=[fi 3 x]∧B9 Eq H0 [] H1) (by kernel_rfl) ?_ hx ?_ hO ?_
 ·intro s1 H o hO h;clear hx;cbv;refine E1 hE ?_;cbv;refine A8 hE h (fun _ h=>?_) fun _ h=>?_
  ·cbv;refine C7 hE eAi6 h fun x3 h=>?_;cbv;refine A7 hE h (ih x3) (.refl _) fun r4 h=>?_;cbv;cases h;exact⟨_,rfl,.e rfl (.e2 .z),rfl,hO⟩
  cbv;cases h;exact⟨_,_,rfl,⟨rfl,rfl,hO⟩,.e rfl .z,rfl⟩
 ·exact .e rfl (.e2 .z)
 clear hx;rintro e l H ⟨rfl,rfl,hO⟩;cbv;cases h;exact hK hO (.refl _)
theorem c134 (N aD r)(h:BF N aD=some r):B6 prog 134 [(W2 aD)] (.bool r):=by
 unfold BF at h
 refine J9 cf0 func134 call134 ntmps134 ?_;intro E H0 K hE hK hO;cbv;refine A7 hE h (c174 N N aD 200) (.refl _) fun r1 h=>?_;cbv;refine A8 hE h (fun _ h=>?_) fun _ h=>?_
 ·cbv;refine A7 hE h (c175 N N aD) (.refl _) fun r2 h=>?_;cbv;cases h;exact hK hO (.refl _)
 cbv;cases h;exact hK hO (.refl _)
theorem c75 (N aA r) (h:Fb N aA=some r):B6 prog 75 [(B7 aA)] (.bool r):=by
 unfold Fb at h
 refine J9 cf0 func75 call75 ntmps75 ?_;intro E H0 K hE hK hO;cbv;refine A7 hE h (c132 N N aA 150) (.refl _) fun r1 h=>?_;cbv;refine A8 hE h (fun _ h=>?_) fun _ h=>?_
 ·cbv;cases h;exact hK hO (.refl _)
 cbv;refine A7 hE h (c133 N N aA) (.refl _) fun r2 h=>?_;cbv;refine A8 hE h (fun _ h=>?_) fun _ h=>?_
 ·cbv;cases h;exact hK hO (.refl _)
 cbv;refine A7 hE h (c100 N N aA) (.refl _) fun r3 h=>?_;cbv;obtain⟨s5,hx,h⟩:=bind_some h;refine F3 cf0 hE K4 (fun s4=>[(3,.v (sr eAh8 r3)),fi 4 s4]) (fun s4 H1=>B9 Eq H0 [] H1) (fun x e l H1=>match(generalizing:=false) x with| .inl y=>e= .exit 0∧l=[]∧B9 Eq H0 [] H1| .inr y=>e= .ret∧l=[(2,.b false)]∧B9 Eq H0 [] H1) (by kernel_rfl) ?_ hx ?_ hO ?_
 ·intro s4 H o hO h;clear hx;cbv;refine E1 hE ?_;cbv;refine A8 hE h (fun _ h=>?_) fun _ h=>?_
  ·cbv;refine C7 hE eAh9 h fun x6 h=>?_;cbv;refine A7 hE h (c134 N x6.cL) (.refl _) fun r7 h=>?_;cbv;refine A8 hE h (fun _ h=>?_) fun _ h=>?_
   ·cbv;cases h;exact⟨_,_,rfl,⟨rfl,rfl,hO⟩,.b rfl (.z),rfl⟩
   cbv;cases h;exact⟨_,rfl,.e2 .z,rfl,hO⟩
  cbv;cases h;exact⟨_,_,rfl,⟨rfl,rfl,hO⟩,.z,rfl⟩
 ·exact .e2 .z
 clear hx
 rcases s5 with y8|y9
 ·rintro e l H ⟨rfl,rfl,hO⟩;cbv;cases h;exact hK hO (.refl _)
 rintro e l H ⟨rfl,rfl,hO⟩;cbv;cases h;exact hK hO (.refl _)
theorem c103 (N aA r)(h:X3 N aA=some r):B6 prog 103 [(B7 aA)] (.bool r):=by
 unfold X3 at h
 refine J9 cf0 func103 call103 ntmps103 ?_;intro E H0 K hE hK hO;cbv;cases h;exact hK hO (.refl _)
theorem c102 (N aA r)(h:U9 N aA=some r):B6 prog 102 [(B7 aA)] (.bool r):=by
 unfold U9 at h
 refine J9 cf0 func102 call102 ntmps102 ?_;intro E H0 K hE hK hO;cbv;refine A8 hE h (fun _ h=>?_) fun _ h=>?_
 ·cbv;cases h;exact hK hO (.refl _)
 cbv;refine A7 hE h (c103 N aA) (.refl _) fun r1 h=>?_;cbv;cases h;exact hK hO (.refl _)
theorem c104 (N aA r)(h:U0 N aA=some r):B6 prog 104 [(B7 aA)] (.bool r):=by
 unfold U0 at h
 refine J9 cf0 func104 call104 ntmps104 ?_;intro E H0 K hE hK hO;cbv;cases h;exact hK hO (.refl _)
def cf194 :Cf:=⟨[],[],[(11,6)],[],[],[]⟩
theorem c194 (N aA r) (h:Db N aA=some r):B6 prog 194 [(B7 aA)] (.bool r):=by
 unfold Db at h
 refine J9 cf194 func194 call194 ntmps194 ?_;intro E H0 K hE hK hO;cbv;refine A8 hE h (fun _ h=>?_) fun _ h=>?_
 ·cbv;refine E1 hE ?_;cbv;cases h;exact hK hO (.refl _)
 cbv;obtain⟨s1,hx,h⟩:=bind_some h;refine I7 cf194 hE K4 (fun e l H1=>e= .normal∧l=[(1,.v (.eref (D6 aA) 0)),fi 4 aA.Op,(11,.v (.bool s1))]∧B9 Eq H0 [] H1) (by kernel_rfl) ?_ ?_
 ·clear h;have h:=hx;clear hx;cbv;refine A8 hE h (fun _ h=>?_) fun _ h=>?_
  ·cbv;cases h;exact⟨_,⟨rfl,rfl,hO⟩,.e rfl (.e2 .z),rfl⟩
  cbv;refine A8 hE h (fun _ h=>?_) fun _ h=>?_
  ·cbv;cases h;exact⟨_,⟨rfl,rfl,hO⟩,.e rfl (.e2 .z),rfl⟩
  cbv;cases h;exact⟨_,⟨rfl,rfl,hO⟩,.e rfl (.e2 .z),rfl⟩
 clear hx;rintro e l H ⟨rfl,rfl,hO⟩;cbv;refine A8 hE h (fun _ h=>?_) fun _ h=>?_
 ·cbv;refine E1 hE ?_;cbv;cases h;exact hK hO (.refl _)
 cbv;refine A8 hE h (fun _ h=>?_) fun _ h=>?_
 ·cbv;refine E1 hE ?_;cbv;cases h;exact hK hO (.refl _)
 cbv;refine E1 hE ?_;cbv;cases h;exact hK hO (.refl _)
theorem c195 (N aA r)(h:Ad N aA=some r):B6 prog 195 [(B7 aA)] (.bool r):=by
 unfold Ad at h
 refine J9 cf0 func195 call195 ntmps195 ?_;intro E H0 K hE hK hO;cbv;refine A7 hE h (c102 N aA) (.refl _) fun r1 h=>?_;cbv;cases h;exact hK hO (.refl _)
theorem c196 (N bF aM bG r)(h:Y2 N bF aM bG=some r):B6 prog 196 [.bool bF,vi aM,vi bG] (.bool r):=by
 unfold Y2 at h
 refine J9 cf0 func196 call196 ntmps196 ?_;intro E H0 K hE hK hO;cbv;cases h;exact hK hO (.refl _)
def cf316 :Cf:=⟨[],[],[(4,4)],[],[],[]⟩
theorem c316 (N aP r) (h:Dd N aP=some r):B6 prog 316 [vi aP] (vi r):=by
 unfold Dd at h
 refine J9 cf316 func316 call316 ntmps316 ?_;intro E H0 K hE hK hO;cbv;obtain⟨s1,hx,h⟩:=bind_some h;refine I7 cf316 hE K4 (fun e l H1=>e= .normal∧l=[fi 3 aP,(4,.v (.bool s1))]∧B9 Eq H0 [] H1) (by kernel_rfl) ?_ ?_
 ·clear h;have h:=hx;clear hx;cbv;refine A8 hE h (fun _ h=>?_) fun _ h=>?_
  ·cbv;cases h;exact⟨_,⟨rfl,rfl,hO⟩,.e2 .z,rfl⟩
  cbv;refine A8 hE h (fun _ h=>?_) fun _ h=>?_
  ·cbv;cases h;exact⟨_,⟨rfl,rfl,hO⟩,.e2 .z,rfl⟩
  cbv;refine A8 hE h (fun _ h=>?_) fun _ h=>?_
  ·cbv;cases h;exact⟨_,⟨rfl,rfl,hO⟩,.e2 .z,rfl⟩
  cbv;refine A8 hE h (fun _ h=>?_) fun _ h=>?_
  ·cbv;cases h;exact⟨_,⟨rfl,rfl,hO⟩,.e2 .z,rfl⟩
  cbv;cases h;exact⟨_,⟨rfl,rfl,hO⟩,.e2 .z,rfl⟩
 clear hx;rintro e l H ⟨rfl,rfl,hO⟩;cbv;refine A8 hE h (fun _ h=>?_) fun _ h=>?_
 ·cbv;cases h;exact hK hO (.refl _)
 cbv;refine A8 hE h (fun _ h=>?_) fun _ h=>?_
 ·cbv;cases h;exact hK hO (.refl _)
 cbv;refine A8 hE h (fun _ h=>?_) fun _ h=>?_
 ·cbv;cases h;exact hK hO (.refl _)
 cbv;refine A8 hE h (fun _ h=>?_) fun _ h=>?_
 ·cbv;cases h;exact hK hO (.refl _)
 cbv;refine A8 hE h (fun _ h=>?_) fun _ h=>?_
 ·cbv;cases h;exact hK hO (.refl _)
 cbv;refine A8 hE h (fun _ h=>?_) fun _ h=>?_
 ·cbv;cases h;exact hK hO (.refl _)
 cbv;refine A8 hE h (fun _ h=>?_) fun _ h=>?_
 ·cbv;cases h;exact hK hO (.refl _)
 cbv;refine A8 hE h (fun _ h=>?_) fun _ h=>?_
 ·cbv;cases h;exact hK hO (.refl _)
 cbv;refine A8 hE h (fun _ h=>?_) fun _ h=>?_
 ·cbv;cases h;exact hK hO (.refl _)
 cbv;cases h;exact hK hO (.refl _)
theorem c317 (N aP r)(h:DT N aP=some r):B6 prog 317 [vi aP] (.tup [.bool r.1,.bool r.2]):=by
 unfold DT at h
 refine J9 cf0 func317 call317 ntmps317 ?_;intro E H0 K hE hK hO;cbv;cases h;exact hK hO (.refl _)
theorem c318 (N aJ r) (h:Df N aJ=some r):B6 prog 318 [(E0 aJ)] (vi r):=by
 unfold Df at h
 refine J9 cf0 func318 call318 ntmps318 ?_;intro E H0 K hE hK hO;cbv;refine A8 hE h (fun _ h=>?_) fun _ h=>?_
 ·cbv;cases h;exact hK hO (.refl _)
 cbv;refine A8 hE h (fun _ h=>?_) fun _ h=>?_
 ·cbv;refine A8 hE h (fun _ h=>?_) fun _ h=>?_
  ·cbv;cases h;exact hK hO (.refl _)
  cbv;refine A8 hE h (fun _ h=>?_) fun _ h=>?_
  ·cbv;cases h;exact hK hO (.refl _)
  cbv;cases h;exact hK hO (.refl _)
 cbv;refine A8 hE h (fun _ h=>?_) fun _ h=>?_
 ·cbv;cases h;exact hK hO (.refl _)
 cbv;refine A8 hE h (fun _ h=>?_) fun _ h=>?_
 ·cbv;cases h;exact hK hO (.refl _)
 cbv;cases h;exact hK hO (.refl _)
theorem c319 (N bK aJ r)(h:De N bK aJ=some r):B6 prog 319 [vi bK,(E0 aJ)] (.bool r):=by
 unfold De at h
 refine J9 cf0 func319 call319 ntmps319 ?_;intro E H0 K hE hK hO;cbv;cases h;exact hK hO (.refl _)
def cf284 :Cf:=⟨[],[],[(69,15)],[],[],[]⟩
theorem c284 (N aD r) (h:Cx N aD=some r):B6 prog 284 [(W2 aD)] (vi r):=by
 unfold Cx at h
 refine J9 cf284 func284 call284 ntmps284 ?_;intro E H0 K hE hK hO;cbv;refine A7 hE h (c316 N aD.Op) (.refl _) fun r1 h=>?_;cbv;refine A8 hE h (fun _ h=>?_) fun _ h=>?_
 ·cbv;cases h;exact hK hO (.refl _)
 cbv;refine E1 hE ?_;cbv;refine A8 hE h (fun _ h=>?_) fun _ h=>?_
 ·cbv;cases h;exact hK hO (.refl _)
 cbv;refine A7 hE h (c317 N aD.Op) (.refl _) fun r2 h=>?_;cbv;refine A8 hE h (fun _ h=>?_) fun _ h=>?_
 ·cbv;cases h;exact hK hO (.refl _)
 cbv;refine A8 hE h (fun _ h=>?_) fun _ h=>?_
 ·cbv;cases h;exact hK hO (.refl _)
 cbv;obtain⟨s3,hx,h⟩:=bind_some h;refine I7 cf284 hE K4 (fun e l H1=>match(generalizing:=false) s3 with| .inl y=>e= .normal∧l=[(1,.v (.eref (Bw aD) 0)),(4,.v (.bool r2.1)),(5,.v (.bool r2.2)),(6,.v (.bool (Ar.cmp .eql aD.Op 4))),(7,.v (.bool (Ar.or (Ar.cmp .eql aD.Op 4) (Ar.cmp .eql aD.Op 0))))]∧B9 Eq H0 [] H1| .inr y=>e= .ret∧l=[fi 2 y]∧B9 Eq H0 [] H1) (by kernel_rfl) ?_ ?_
 ·clear h;have h:=hx;clear hx;cbv;refine A8 hE h (fun _ h=>?_) fun _ h=>?_
  ·cbv;refine A7 hE h (c318 N aD.Value) (.refl _) fun r4 h=>?_;cbv;refine A8 hE h (fun _ h=>?_) fun _ h=>?_
   ·cbv;cases h;exact⟨_,⟨rfl,rfl,hO⟩,.e rfl .z,rfl⟩
   cbv;cases h;exact⟨_,⟨rfl,rfl,hO⟩,.e rfl (.e4 .z),rfl⟩
  cbv;cases h;exact⟨_,⟨rfl,rfl,hO⟩,.e rfl (.e4 .z),rfl⟩
 clear hx
 rcases s3 with y5|y7
 ·rintro e l H ⟨rfl,rfl,hO⟩;cbv;refine A8 hE h (fun _ h=>?_) fun _ h=>?_
  ·cbv;refine A7 hE h (c319 N aD.Kind aD.Value) (.refl _) fun r6 h=>?_;cbv;refine A8 hE h (fun _ h=>?_) fun _ h=>?_
   ·cbv;cases h;exact hK hO (.refl _)
   cbv;refine A8 hE h (fun _ h=>?_) fun _ h=>?_
   ·cbv;cases h;exact hK hO (.refl _)
   cbv;cases h;exact hK hO (.refl _)
  cbv;refine A8 hE h (fun _ h=>?_) fun _ h=>?_
  ·cbv;cases h;exact hK hO (.refl _)
  cbv;cases h;exact hK hO (.refl _)
 rintro e l H ⟨rfl,rfl,hO⟩;cbv;cases h;exact hK hO (.refl _)
end Go.Ab
