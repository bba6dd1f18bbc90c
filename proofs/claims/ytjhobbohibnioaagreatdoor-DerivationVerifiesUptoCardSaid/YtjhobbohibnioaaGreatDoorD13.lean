/- GVCo2 GVCo3 -/
import Derived.Test.YtjhobbohibnioaaGreatDoorD12
set_option linter.all false
open List (append_assoc append_nil)
open Go.Ab.Ar (an ar lst nt_eq)
namespace Go.Ab
open Go.RowKit Go.Proofs Go.Proofs.Tryz I8
variable [Ar][I8]
set_option maxRecDepth 100000
def cf335 :Cf:=⟨[4],[],[],[],[],[]⟩
theorem c335 (N aB aW r)(h:Au N aB aW=some r):B6 prog 335 [(Q4 aB),vi aW] (.tup [(D7 r.1),vi r.2]):=by
 unfold Au at h
 refine J2 cf335 func335 call335 ntmps335 ?_;intro E H0 K hE hK hO;cbv;refine C9 hE hO fun b1 H hO=>?_;cbv;refine E0 hE ?_;cbv;refine A5 hE h (fun _ h=>?_) fun _ h=>?_
 ·cbv;refine B0 hE hO 0 rfl rfl fun H hO=>?_;cbv;refine B1 hE hO 0 rfl ?_;cbv;cases h;exact hK hO (.refl _)
 cbv;refine C1 hE eAu9 h fun x2 h=>?_;cbv;refine B0 hE hO 0 rfl rfl fun H hO=>?_;cbv;refine B1 hE hO 0 rfl ?_;cbv;cases h;exact hK hO (.refl _)
theorem c376 (N aM r)(h:X0 N aM=some r):B6 prog 376 [vi aM] (.bool r):=by
 unfold X0 at h
 refine J2 cf0 func376 call376 ntmps376 ?_;intro E H0 K hE hK hO;cbv;cases h;exact hK hO (.refl _)
theorem c390 (N aM aJ r)(h:T7 N aM aJ=some r):B6 prog 390 [vi aM,(D7 aJ)] (.bool r):=by
 unfold T7 at h
 refine J2 cf0 func390 call390 ntmps390 ?_;intro E H0 K hE hK hO;cbv;cases h;exact hK hO (.refl _)
theorem c377 (N aM aJ r)(h:O1 N aM aJ=some r):B6 prog 377 [vi aM,(D7 aJ)] (vi r):=by
 unfold O1 at h
 refine J2 cf0 func377 call377 ntmps377 ?_;intro E H0 K hE hK hO;cbv;refine A4 hE h (c336 N aJ) (.refl _) fun r1 h=>?_;cbv;refine A5 hE h (fun _ h=>?_) fun _ h=>?_
 ·cbv;cases h;exact hK hO (.refl _)
 cbv;refine A4 hE h (c390 N aM aJ) (.refl _) fun r2 h=>?_;cbv;refine A5 hE h (fun _ h=>?_) fun _ h=>?_
 ·cbv;cases h;exact hK hO (.refl _)
 cbv;cases h;exact hK hO (.refl _)
def cf378 :Cf:=⟨[3,6],[],[],[],[],[]⟩
theorem c378 (N:Nat) (cB:C2) (aI:List A6) (cI:V) (cC:C2→A6→Option C2) (cJ:∀y1 y2 q,cC y1 y2=some q→W3 prog cI [(G6 y1),(D7 y2)] ((G6 q))) (r:C2) (h:H8 N cB aI cC=some r):B6 prog 378 [(G6 cB),sr eAv4 aI,cI] ((G6 r)):=by
 unfold H8 at h
 refine J2 cf378 func378 call378 ntmps378 ?_;intro E H0 K hE hK hO;cbv;refine C9 hE hO fun b1 H hO=>?_;cbv;refine C9 hE hO fun b2 H hO=>?_;cbv;refine E0 hE ?_;cbv;obtain⟨s4,hx,h⟩:=bind_some h;refine E6 cf378 hE L4 (fun s3=>[(2,.v (cI)),(3,.v (.ref b1 0)),(6,.v (.ref b2 0)),(9,.v (sr eAv4 aI)),fi 10 (Ar.len aI),fi 11 s3.1]) (fun(s3:Int×C2) H1=>C3 Eq H0 [cb b2 [vi 0,vi 0,vi 0,vi 0,.str (⟨#[]⟩)],cb b1 (AF s3.2)] H1) (fun x e l H1=>e= .exit 0∧l=[(3,.v (.ref b1 0)),(6,.v (.ref b2 0))]∧C3 Eq H0 [cb b2 [vi 0,vi 0,vi 0,vi 0,.str (⟨#[]⟩)],cb b1 (AF x)] H1) (by kernel_rfl) ?_ hx ?_ hO ?_
 ·intro s3 H o hO h;clear hx;cbv;refine A5 hE h (fun _ h=>?_) fun _ h=>?_
  ·cbv;refine C1 hE eAu9 h fun x5 h=>?_;cbv;refine B1 hE hO 1 rfl ?_;cbv;refine Aq hE (g:=fun r6=>(G6 r6)) h (fun r6 hx=>cJ s3.2 x5 r6 hx) (.refl _) fun r6 h=>?_;cbv;refine B0 hE hO 1 rfl rfl fun H hO=>?_;cbv;cases h;exact⟨_,rfl,.e2 (.e4 .z),rfl,hO⟩
  cbv;cases h;exact⟨_,_,rfl,⟨rfl,rfl,hO⟩,.e2 .z,rfl⟩
 ·exact .e2 (.e4 .z)
 clear hx;rintro e l H ⟨rfl,rfl,hO⟩;cbv;refine B1 hE hO 1 rfl ?_;cbv;refine B0 hE hO 0 rfl rfl fun H hO=>?_;cbv;refine B1 hE hO 0 rfl ?_;cbv;cases h;exact hK hO (.refl _)
def cf397 :Cf:=⟨[0],[],[],[],[],[]⟩
theorem c397 (N r)(h:BO N=some r):B6 prog 397 [] ((D7 r)):=by
 unfold BO at h
 refine J2 cf397 func397 call397 ntmps397 ?_;intro E H0 K hE hK hO;cbv;refine C9 hE hO fun b1 H hO=>?_;cbv;refine B0 hE hO 0 rfl rfl fun H hO=>?_;cbv;refine B1 hE hO 0 rfl ?_;cbv;cases h;exact hK hO (.refl _)
def cf398 :Cf:=⟨[2],[],[],[],[],[]⟩
theorem c398 (N bD aP r)(h:BN N bD aP=some r):B6 prog 398 [.eref (O6 bD) 0,.eref (O6 aP) 0] ((D7 r)):=by
 unfold BN at h
 refine J2 cf398 func398 call398 ntmps398 ?_;intro E H0 K hE hK hO;cbv;refine C9 hE hO fun b1 H hO=>?_;cbv;refine B0 hE hO 0 rfl rfl fun H hO=>?_;cbv;refine B1 hE hO 0 rfl ?_;cbv;cases h;exact hK hO (.refl _)
def cf399 :Cf:=⟨[2],[],[],[],[],[]⟩
theorem c399 (N bD aP r)(h:BM N bD aP=some r):B6 prog 399 [.eref (O6 bD) 0,.eref (O6 aP) 0] ((D7 r)):=by
 unfold BM at h
 refine J2 cf399 func399 call399 ntmps399 ?_;intro E H0 K hE hK hO;cbv;refine C9 hE hO fun b1 H hO=>?_;cbv;refine B0 hE hO 0 rfl rfl fun H hO=>?_;cbv;refine B1 hE hO 0 rfl ?_;cbv;cases h;exact hK hO (.refl _)
def cf400 :Cf:=⟨[2],[],[],[],[],[]⟩
theorem c400 (N bD aP r)(h:BL N bD aP=some r):B6 prog 400 [.eref (O6 bD) 0,.eref (O6 aP) 0] ((D7 r)):=by
 unfold BL at h
 refine J2 cf400 func400 call400 ntmps400 ?_;intro E H0 K hE hK hO;cbv;refine C9 hE hO fun b1 H hO=>?_;cbv;refine B0 hE hO 0 rfl rfl fun H hO=>?_;cbv;refine B1 hE hO 0 rfl ?_;cbv;cases h;exact hK hO (.refl _)
def cf401 :Cf:=⟨[1],[],[],[],[],[]⟩
theorem c401 (N bD r)(h:BK N bD=some r):B6 prog 401 [.eref (O6 bD) 0] ((D7 r)):=by
 unfold BK at h
 refine J2 cf401 func401 call401 ntmps401 ?_;intro E H0 K hE hK hO;cbv;refine C9 hE hO fun b1 H hO=>?_;cbv;refine B0 hE hO 0 rfl rfl fun H hO=>?_;cbv;refine B1 hE hO 0 rfl ?_;cbv;cases h;exact hK hO (.refl _)
def cf402 :Cf:=⟨[1],[],[],[],[],[]⟩
theorem c402 (N bD r)(h:BJ N bD=some r):B6 prog 402 [.eref (O6 bD) 0] ((D7 r)):=by
 unfold BJ at h
 refine J2 cf402 func402 call402 ntmps402 ?_;intro E H0 K hE hK hO;cbv;refine C9 hE hO fun b1 H hO=>?_;cbv;refine B0 hE hO 0 rfl rfl fun H hO=>?_;cbv;refine B1 hE hO 0 rfl ?_;cbv;cases h;exact hK hO (.refl _)
def cf391 :Cf:=⟨[6],[],[],[],[],[]⟩
theorem c391 (N aM aC aD r)(h:X9 N aM aC aD=some r):B6 prog 391 [vi aM,(D7 aC),(D7 aD)] ((D7 r)):=by
 unfold X9 at h
 refine J2 cf391 func391 call391 ntmps391 ?_;intro E H0 K hE hK hO;cbv;refine C9 hE hO fun b1 H hO=>?_;cbv;refine Af1 hE [0,1,2,3,4,5] (by rfl) ?_;cbv;refine A5 hE h (fun _ h=>?_) fun _ h=>?_
 ·cbv;refine A4 hE h (c397 N) (.refl _) fun r2 h=>?_;cbv;refine B0 hE hO 0 rfl rfl fun H hO=>?_;cbv;refine B1 hE hO 0 rfl ?_;cbv;cases h;exact hK hO (.refl _)
 cbv;refine A5 hE h (fun _ h=>?_) fun _ h=>?_
 ·cbv;refine Aq hE (g:=fun r3=>(D7 r3)) h (fun r3 hx=>B6.value (F:=[]) (C:=[.eref (O6 aC) 0,.eref (O6 aD) 0]) (c398 N aC aD r3 hx)) (.refl _) fun r3 h=>?_;cbv;refine B0 hE hO 0 rfl rfl fun H hO=>?_;cbv;refine B1 hE hO 0 rfl ?_;cbv;cases h;exact hK hO (.refl _)
 cbv;refine A5 hE h (fun _ h=>?_) fun _ h=>?_
 ·cbv;refine Aq hE (g:=fun r4=>(D7 r4)) h (fun r4 hx=>B6.value (F:=[]) (C:=[.eref (O6 aC) 0,.eref (O6 aD) 0]) (c399 N aC aD r4 hx)) (.refl _) fun r4 h=>?_;cbv;refine B0 hE hO 0 rfl rfl fun H hO=>?_;cbv;refine B1 hE hO 0 rfl ?_;cbv;cases h;exact hK hO (.refl _)
 cbv;refine A5 hE h (fun _ h=>?_) fun _ h=>?_
 ·cbv;refine Aq hE (g:=fun r5=>(D7 r5)) h (fun r5 hx=>B6.value (F:=[]) (C:=[.eref (O6 aC) 0,.eref (O6 aD) 0]) (c400 N aC aD r5 hx)) (.refl _) fun r5 h=>?_;cbv;refine B0 hE hO 0 rfl rfl fun H hO=>?_;cbv;refine B1 hE hO 0 rfl ?_;cbv;cases h;exact hK hO (.refl _)
 cbv;refine A5 hE h (fun _ h=>?_) fun _ h=>?_
 ·cbv;refine Aq hE (g:=fun r6=>(D7 r6)) h (fun r6 hx=>B6.value (F:=[]) (C:=[.eref (O6 aC) 0]) (c401 N aC r6 hx)) (.refl _) fun r6 h=>?_;cbv;refine B0 hE hO 0 rfl rfl fun H hO=>?_;cbv;refine B1 hE hO 0 rfl ?_;cbv;cases h;exact hK hO (.refl _)
 cbv;refine A5 hE h (fun _ h=>?_) fun _ h=>?_
 ·cbv;refine Aq hE (g:=fun r7=>(D7 r7)) h (fun r7 hx=>B6.value (F:=[]) (C:=[.eref (O6 aD) 0]) (c402 N aD r7 hx)) (.refl _) fun r7 h=>?_;cbv;refine B0 hE hO 0 rfl rfl fun H hO=>?_;cbv;refine B1 hE hO 0 rfl ?_;cbv;cases h;exact hK hO (.refl _)
 cbv;cases h
def cf380 :Cf:=⟨[4],[(5,14)],[],[],[],[]⟩
theorem c380 (N aC aD r)(h:BE N aC aD=some r):B6 prog 380 [(G6 aC),(G6 aD)] ((G6 r)):=by
 unfold BE at h
 refine J2 cf380 func380 call380 ntmps380 ?_;intro E H0 K hE hK hO;cbv;refine C9 hE hO fun b1 H hO=>?_;cbv;refine A5 hE h (fun _ h=>?_) fun _ h=>?_
 ·cbv;refine B0 hE hO 0 rfl rfl fun H hO=>?_;cbv;refine B1 hE hO 0 rfl ?_;cbv;cases h;exact hK hO (.refl _)
 cbv;refine A5 hE h (fun _ h=>?_) fun _ h=>?_
 ·cbv;refine B0 hE hO 0 rfl rfl fun H hO=>?_;cbv;refine B1 hE hO 0 rfl ?_;cbv;cases h;exact hK hO (.refl _)
 cbv;refine C7 hE (g:=fun r2=>(D7 r2)) h (c391 N aC.Kind aC.Value aD.Value) (.refl _) fun r2 h=>?_;cbv;refine B0 hE hO 0 rfl rfl fun H hO=>?_;cbv;refine B1 hE hO 0 rfl ?_;cbv;cases h;exact hK hO (.refl _)
def cf381 :Cf:=⟨[4],[],[],[],[],[]⟩
theorem c381 (N aM aJ r)(h:Z8 N aM aJ=some r):B6 prog 381 [vi aM,(D7 aJ)] ((D7 r)):=by
 unfold Z8 at h
 refine J2 cf381 func381 call381 ntmps381 ?_;intro E H0 K hE hK hO;cbv;refine C9 hE hO fun b1 H hO=>?_;cbv;refine A5 hE h (fun _ h=>?_) fun _ h=>?_
 ·cbv;refine B0 hE hO 0 rfl rfl fun H hO=>?_;cbv;refine B1 hE hO 0 rfl ?_;cbv;cases h;exact hK hO (.refl _)
 cbv;refine B0 hE hO 0 rfl rfl fun H hO=>?_;cbv;refine B1 hE hO 0 rfl ?_;cbv;cases h;exact hK hO (.refl _)
def cf379 :Cf:=⟨[5],[(1,6)],[],[],[],[]⟩
theorem c379 (N aC aJ bC r)(h:N8 N aC aJ bC=some r):B6 prog 379 [(G6 aC),(D7 aJ),.eref [vi bC] 0] ((G6 r)):=by
 unfold N8 at h
 refine J2 cf379 func379 call379 ntmps379 ?_;intro E H0 K hE hK hO;cbv;refine C9 hE hO fun b1 H hO=>?_;cbv;refine C7 hE (g:=fun r2=>(D7 r2)) h (c381 N bC aJ) (.refl _) fun r2 h=>?_;cbv;refine A4 hE h (c380 N aC (⟨bC,1,r2⟩:C2)) (.refl _) fun r3 h=>?_;cbv;refine B0 hE hO 0 rfl rfl fun H hO=>?_;cbv;refine B1 hE hO 0 rfl ?_;cbv;cases h;exact hK hO (.refl _)
theorem c392 (N aC r) (h:AD N aC=some r):B6 prog 392 [(G6 aC)] (vi r):=by
 unfold AD at h
 refine J2 cf0 func392 call392 ntmps392 ?_;intro E H0 K hE hK hO;cbv;refine A4 hE h (c376 N aC.Kind) (.refl _) fun r1 h=>?_;cbv;refine A5 hE h (fun _ h=>?_) fun _ h=>?_
 ·cbv;cases h;exact hK hO (.refl _)
 cbv;refine A5 hE h (fun _ h=>?_) fun _ h=>?_
 ·cbv;cases h;exact hK hO (.refl _)
 cbv;refine A5 hE h (fun _ h=>?_) fun _ h=>?_
 ·cbv;refine A5 hE h (fun _ h=>?_) fun _ h=>?_
  ·cbv;cases h;exact hK hO (.refl _)
  cbv;cases h;exact hK hO (.refl _)
 cbv;refine A5 hE h (fun _ h=>?_) fun _ h=>?_
 ·cbv;refine A5 hE h (fun _ h=>?_) fun _ h=>?_
  ·cbv;cases h;exact hK hO (.refl _)
  cbv;cases h;exact hK hO (.refl _)
 cbv;refine A4 hE h (c336 N aC.Value) (.refl _) fun r2 h=>?_;cbv;refine A5 hE h (fun _ h=>?_) fun _ h=>?_
 ·cbv;refine A4 hE h (c390 N aC.Kind aC.Value) (.refl _) fun r3 h=>?_;cbv;refine A5 hE h (fun _ h=>?_) fun _ h=>?_
  ·cbv;cases h;exact hK hO (.refl _)
  cbv;cases h;exact hK hO (.refl _)
 cbv;cases h;exact hK hO (.refl _)
def cf382 :Cf:=⟨[4],[],[],[],[],[]⟩
theorem c382 (N aC aX r)(h:BF N aC aX=some r):B6 prog 382 [(G6 aC),(D7 aX)] (.tup [(D7 r.1),vi r.2]):=by
 unfold BF at h
 refine J2 cf382 func382 call382 ntmps382 ?_;intro E H0 K hE hK hO;cbv;refine C9 hE hO fun b1 H hO=>?_;cbv;refine A4 hE h (c392 N aC) (.refl _) fun r2 h=>?_;cbv;refine A5 hE h (fun _ h=>?_) fun _ h=>?_
 ·cbv;refine B0 hE hO 0 rfl rfl fun H hO=>?_;cbv;refine B1 hE hO 0 rfl ?_;cbv;cases h;exact hK hO (.refl _)
 cbv;refine A4 hE h (c377 N aC.Kind aX) (.refl _) fun r3 h=>?_;cbv;refine A5 hE h (fun _ h=>?_) fun _ h=>?_
 ·cbv;refine B0 hE hO 0 rfl rfl fun H hO=>?_;cbv;refine B1 hE hO 0 rfl ?_;cbv;cases h;exact hK hO (.refl _)
 cbv;refine A5 hE h (fun _ h=>?_) fun _ h=>?_
 ·cbv;refine B0 hE hO 0 rfl rfl fun H hO=>?_;cbv;refine B1 hE hO 0 rfl ?_;cbv;cases h;exact hK hO (.refl _)
 cbv;refine A5 hE h (fun _ h=>?_) fun _ h=>?_
 ·cbv;refine B0 hE hO 0 rfl rfl fun H hO=>?_;cbv;refine B1 hE hO 0 rfl ?_;cbv;cases h;exact hK hO (.refl _)
 cbv;refine B0 hE hO 0 rfl rfl fun H hO=>?_;cbv;refine B1 hE hO 0 rfl ?_;cbv;cases h;exact hK hO (.refl _)
def cf357 :Cf:=⟨[6],[],[],[],[],[]⟩
theorem c357 (N aM aI aX r) (h:CQ N aM aI aX=some r):B6 prog 357 [vi aM,sr eAv4 aI,(D7 aX)] (.tup [(D7 r.1),vi r.2]):=by
 unfold CQ at h
 refine J2 cf357 func357 call357 ntmps357 ?_;intro E H0 K hE hK hO;cbv;refine C9 hE hO fun b1 H hO=>?_;cbv;refine A4 hE h (c376 N aM) (.refl _) fun r2 h=>?_;cbv;refine A5 hE h (fun _ h=>?_) fun _ h=>?_
 ·cbv;refine B0 hE hO 0 rfl rfl fun H hO=>?_;cbv;refine B1 hE hO 0 rfl ?_;cbv;cases h;exact hK hO (.refl _)
 cbv;refine E0 hE ?_;cbv;refine A5 hE h (fun _ h=>?_) fun _ h=>?_
 ·cbv;refine B0 hE hO 0 rfl rfl fun H hO=>?_;cbv;refine B1 hE hO 0 rfl ?_;cbv;cases h;exact hK hO (.refl _)
 cbv;refine E0 hE ?_;cbv;obtain⟨s4,hx,h⟩:=bind_some h;refine E6 cf357 hE L4 (fun s3=>[(1,.v (sr eAv4 aI)),(3,.v (.eref [vi aM] 0)),(5,.v (.eref (O6 aX) 0)),(6,.v (.ref b1 0)),(22,.v (sr eAv4 aI)),fi 23 (Ar.len aI),fi 24 s3]) (fun s3 H1=>C3 Eq H0 [cb b1 [vi 0,vi 0,.str (⟨#[]⟩)]] H1) (fun x e l H1=>match(generalizing:=false) x with| .inl y=>e= .exit 1∧l=[(1,.v (sr eAv4 aI)),(3,.v (.eref [vi aM] 0)),(5,.v (.eref (O6 aX) 0)),(6,.v (.ref b1 0))]∧C3 Eq H0 [cb b1 [vi 0,vi 0,.str (⟨#[]⟩)]] H1| .inr y=>e= .ret∧l=[(6,.v (.ref b1 0)),fi 7 y]∧C3 Eq H0 [cb b1 [vi 0,vi 0,.str (⟨#[]⟩)]] H1) (by kernel_rfl) ?_ hx ?_ hO ?_
 ·intro s3 H o hO h;clear hx;cbv;refine A5 hE h (fun _ h=>?_) fun _ h=>?_
  ·cbv;refine C1 hE eAu9 h fun x5 h=>?_;cbv;refine A4 hE h (c377 N aM x5) (.refl _) fun r6 h=>?_;cbv;refine A5 hE h (fun _ h=>?_) fun _ h=>?_
   ·cbv;refine B0 hE hO 0 rfl rfl fun H hO=>?_;cbv;cases h;exact⟨_,_,rfl,⟨rfl,rfl,hO⟩,.e2 .z,rfl⟩
   cbv;cases h;exact⟨_,rfl,.e rfl (.e2 (.e4 .z)),rfl,hO⟩
  cbv;cases h;exact⟨_,_,rfl,⟨rfl,rfl,hO⟩,.e4 .z,rfl⟩
 ·exact .e rfl (.e2 (.e4 .z))
 clear hx
 rcases s4 with y7|y10
 ·rintro e l H ⟨rfl,rfl,hO⟩;cbv;refine A4 hE (g:=fun r8=>(G6 r8)) h (fun r8 hx=>c378 N (⟨aM,0,(⟨0,0,⟨#[]⟩⟩:A6)⟩:C2) aI (.func (.func 379) [] [.eref [vi aM] 0]) (fun y1 y2=>N8 N y1 y2 aM) (fun y1 y2 r hx=>B6.value (F:=[]) (C:=[.eref [vi aM] 0]) (c379 N y1 y2 aM r hx)) r8 hx) (.refl _) fun r8 h=>?_;cbv;refine A4 hE h (c382 N r8 aX) (.refl _) fun r9 h=>?_;cbv;refine B0 hE hO 0 rfl rfl fun H hO=>?_;cbv;refine B1 hE hO 0 rfl ?_;cbv;cases h;exact hK hO (.refl _)
 rintro e l H ⟨rfl,rfl,hO⟩;cbv;refine B1 hE hO 0 rfl ?_;cbv;cases h;exact hK hO (.refl _)
def cf334 :Cf:=⟨[4],[],[],[],[],[]⟩
theorem c334 (N aG aB r) (h:S7 N aG aB=some r):B6 prog 334 [(Bt aG),(S2 aB)] (.tup [(D7 r.1),vi r.2]):=by
 unfold S7 at h
 refine J2 cf334 func334 call334 ntmps334 ?_;intro E H0 K hE hK hO;cbv;refine C9 hE hO fun b1 H hO=>?_;cbv;refine A4 hE h (c333 N aG aB.Var) (.refl _) fun r2 h=>?_;cbv;refine E0 hE ?_;cbv;replace hO:=hO.tl0 (t:=.nil) rfl;obtain⟨s5,hx,h⟩:=bind_some h;refine P5 cf334 hE L4 (γ:=E4) (fun s3 g=>[(3,.v (.eref (Ay aB) 0)),(4,.v (.ref b1 0)),(6,.v (.sl (lst eAv4 s3.1) g)),(14,.v (sr eAu4 r2)),fi 15 (Ar.len r2),fi 16 s3.2]) (fun s3 g H1=>T8 g∧C3 Eq H0 [.tl g,cb b1 [vi 0,vi 0,.str (⟨#[]⟩)]] H1) (fun x e l H1=>match(generalizing:=false) x with| .inl y=>∃u1:E4,T8 u1∧e= .exit 0∧l=[(3,.v (.eref (Ay aB) 0)),(4,.v (.ref b1 0)),(6,.v (.sl (lst eAv4 y) u1))]∧C3 Eq H0 [.tl u1,cb b1 [vi 0,vi 0,.str (⟨#[]⟩)]] H1| .inr y=>∃u1:E4,T8 u1∧e= .ret∧l=[(4,.v (.ref b1 0)),fi 5 y]∧C3 Eq H0 [.tl u1,cb b1 [vi 0,vi 0,.str (⟨#[]⟩)]] H1) (by kernel_rfl) ?_ .nil hx ?_ ?_ ?_
 ·rintro s3 t4 H o ⟨ht4,hO⟩ h;clear hx;cbv;refine A5 hE h (fun _ h=>?_) fun _ h=>?_
  ·cbv;refine C1 hE eAv0 h fun x6 h=>?_;cbv;refine A4 hE h (c335 N x6 aB.Field) (.refl _) fun r7 h=>?_;cbv;refine A5 hE h (fun _ h=>?_) fun _ h=>?_
   ·cbv;refine B0 hE hO 1 rfl rfl fun H hO=>?_;cbv;cases h;exact⟨_,_,rfl,⟨t4,ht4,rfl,rfl,hO⟩,.e2 .z,rfl⟩
   cbv;refine Y5 (f:=eAv4) hE Ir (by decide) hO 0 rfl ht4 (l:=s3.1) (m:=[r7.1]) (.refl _) (.lstc (.eq (eAu9 r7.1) (.refl _)) (.lst0)) h fun l9 t8 H hO ht8 h=>?_;cbv;cases h;exact⟨_,t8,rfl,.e2 (.e4 .z),rfl,ht8,hO⟩
  cbv;cases h;exact⟨_,_,rfl,⟨t4,ht4,rfl,rfl,hO⟩,.e rfl (.e2 .z),rfl⟩
 ·exact .e2 (.v (.slt _ (.lst0)) (.e rfl (.e rfl (.e rfl (.z)))))
 ·exact⟨trivial,hO⟩
 clear hx
 rcases s5 with y10|y13
 ·rintro e l H ⟨t11,ht11,rfl,rfl,hO⟩;cbv;refine A4 hE h (c357 N aB.Kind y10 aB.Value) (.cons (.refl _) (.cons (.ro _ _) (.refl _))) fun r12 h=>?_;cbv;refine B0 hE hO 1 rfl rfl fun H hO=>?_;cbv;refine B1 hE hO 1 rfl ?_;cbv;cases h;exact hK hO (.refl _)
 rintro e l H ⟨t14,ht14,rfl,rfl,hO⟩;cbv;refine B1 hE hO 1 rfl ?_;cbv;cases h;exact hK hO (.refl _)
def cf308 :Cf:=⟨[4,7],[],[(38,12),(63,19)],[],[],[]⟩
theorem c308 (N aG aB r) (h:U2 N aG aB=some r):B6 prog 308 [(Bt aG),(S2 aB)] (.tup [(D7 r.1),vi r.2]):=by
 unfold U2 at h
 refine J2 cf308 func308 call308 ntmps308 ?_;intro E H0 K hE hK hO;cbv;refine C9 hE hO fun b1 H hO=>?_;cbv;refine A4 hE h (c333 N aG aB.Var) (.refl _) fun r2 h=>?_;cbv;refine A5 hE h (fun _ h=>?_) fun _ h=>?_
 ·cbv;refine B0 hE hO 0 rfl rfl fun H hO=>?_;cbv;refine B1 hE hO 0 rfl ?_;cbv;cases h;exact hK hO (.refl _)
 cbv;refine A5 hE h (fun _ h=>?_) fun _ h=>?_
 ·cbv;refine E0 hE ?_;cbv;refine B0 hE hO 0 rfl rfl fun H hO=>?_;cbv;refine B1 hE hO 0 rfl ?_;cbv;cases h;exact hK hO (.refl _)
 cbv;refine A5 hE h (fun _ h=>?_) fun _ h=>?_
 ·cbv;refine A4 hE h (c334 N aG aB) (.refl _) fun r3 h=>?_;cbv;refine B0 hE hO 0 rfl rfl fun H hO=>?_;cbv;refine B1 hE hO 0 rfl ?_;cbv;cases h;exact hK hO (.refl _)
 cbv;refine C9 hE hO fun b4 H hO=>?_;cbv;refine B0 hE hO 0 rfl rfl fun H hO=>?_;cbv;obtain⟨s5,hx,h⟩:=bind_some h;refine J4 cf308 hE L4 (fun e l H1=>match(generalizing:=false) s5 with| .inl y=>e= .normal∧l=[(3,.v (.eref (Ay aB) 0)),(4,.v (.ref b1 0)),(7,.v (.ref b4 0))]∧C3 Eq H0 [cb b4 (KO y),cb b1 [vi 0,vi 0,.str (⟨#[]⟩)]] H1| .inr y=>e= .ret∧l=[(4,.v (.ref b1 0)),fi 5 10]∧C3 Eq H0 [cb b4 (KO aG.event),cb b1 [vi 0,vi 0,.str (⟨#[]⟩)]] H1) (by kernel_rfl) ?_ ?_
 ·clear h;have h:=hx;clear hx;cbv;refine A5 hE h (fun _ h=>?_) fun _ h=>?_
  ·cbv;refine E0 hE ?_;cbv;refine A5 hE h (fun _ h=>?_) fun _ h=>?_
   ·cbv;refine B0 hE hO 1 rfl rfl fun H hO=>?_;cbv;cases h;exact⟨_,⟨rfl,rfl,hO⟩,.e2 .z,rfl⟩
   cbv;refine E0 hE ?_;cbv;refine C1 hE eAv0 h fun x6 h=>?_;cbv;refine B0 hE hO 0 rfl rfl fun H hO=>?_;cbv;cases h;exact⟨_,⟨rfl,rfl,hO⟩,.e rfl (.e2 .z),rfl⟩
  cbv;cases h;exact⟨_,⟨rfl,rfl,hO⟩,.e rfl (.e2 .z),rfl⟩
 clear hx
 rcases s5 with y7|y11
 ·rintro e l H ⟨rfl,rfl,hO⟩;cbv;refine A5 hE h (fun _ h=>?_) fun _ h=>?_
  ·cbv;refine B1 hE hO 0 rfl ?_;cbv;refine B0 hE hO 1 rfl rfl fun H hO=>?_;cbv;refine B1 hE hO 1 rfl ?_;cbv;cases h;exact hK hO (.refl _)
  cbv;refine B1 hE hO 0 rfl ?_;cbv;refine A4 hE h (c335 N y7 aB.Field) (.refl _) fun r8 h=>?_;cbv;obtain⟨s9,hx,h⟩:=bind_some h;refine J4 cf308 hE L4 (fun e l H1=>e= .normal∧l=[(4,.v (.ref b1 0)),(8,.v (.eref (O6 r8.1) 0)),fi 9 s9]∧C3 Eq H0 [cb b4 (KO y7),cb b1 [vi 0,vi 0,.str (⟨#[]⟩)]] H1) (by kernel_rfl) ?_ ?_
  ·clear h;have h:=hx;clear hx;cbv;refine A5 hE h (fun _ h=>?_) fun _ h=>?_
   ·cbv;refine A4 hE h (c336 N r8.1) (.refl _) fun r10 h=>?_;cbv;cases h;exact⟨_,⟨rfl,rfl,hO⟩,.e rfl (.e2 .z),rfl⟩
   cbv;cases h;exact⟨_,⟨rfl,rfl,hO⟩,.e rfl (.e2 .z),rfl⟩
  clear hx;rintro e l H ⟨rfl,rfl,hO⟩;cbv;refine A5 hE h (fun _ h=>?_) fun _ h=>?_
  ·cbv;refine B0 hE hO 1 rfl rfl fun H hO=>?_;cbv;refine B1 hE hO 1 rfl ?_;cbv;cases h;exact hK hO (.refl _)
  cbv;refine B0 hE hO 1 rfl rfl fun H hO=>?_;cbv;refine B1 hE hO 1 rfl ?_;cbv;cases h;exact hK hO (.refl _)
 rintro e l H ⟨rfl,rfl,hO⟩;cbv;refine B1 hE hO 1 rfl ?_;cbv;cases h;exact hK hO (.refl _)
def cf309 :Cf:=⟨[],[],[(15,8),(22,13)],[],[],[]⟩
theorem c309 (N aL aZ r) (h:BY N aL aZ=some r):B6 prog 309 [vi aL,sr (V.int .i64) aZ] (vi r):=by
 unfold BY at h
 refine J2 cf309 func309 call309 ntmps309 ?_;intro E H0 K hE hK hO;cbv;refine E0 hE ?_;cbv;obtain⟨s2,hx,h⟩:=bind_some h;refine E6 cf309 hE L4 (fun s1=>[fi 0 aL,(1,.v (sr (V.int .i64) aZ)),(8,.v (sr (V.int .i64) aZ)),fi 9 (Ar.len aZ),fi 10 s1]) (fun s1 H1=>C3 Eq H0 [] H1) (fun x e l H1=>match(generalizing:=false) x with| .inl y=>e= .exit 0∧l=[]∧C3 Eq H0 [] H1| .inr y=>e= .ret∧l=[fi 4 9]∧C3 Eq H0 [] H1) (by kernel_rfl) ?_ hx ?_ hO ?_
 ·intro s1 H o hO h;clear hx;cbv;refine A5 hE h (fun _ h=>?_) fun _ h=>?_
  ·cbv;refine C1 hE (fun _=>rfl) h fun x3 h=>?_;cbv;obtain⟨s4,hx,h⟩:=bind_some h;refine J4 cf309 hE L4 (fun e l H1=>e= .normal∧l=[fi 0 aL,(1,.v (sr (V.int .i64) aZ)),fi 6 x3,(7,.b true),(8,.v (sr (V.int .i64) aZ)),fi 9 (Ar.len aZ),fi 10 s1,fi 14 aL,(15,.v (.bool s4))]∧C3 Eq H0 [] H1) (by kernel_rfl) ?_ ?_
   ·clear h;have h:=hx;clear hx;cbv;refine A5 hE h (fun _ h=>?_) fun _ h=>?_
    ·cbv;cases h;exact⟨_,⟨rfl,rfl,hO⟩,.e rfl (.e2 (.b rfl (.e rfl (.e rfl (.e rfl (.e rfl (.e rfl (.z)))))))),rfl⟩
    cbv;refine A5 hE h (fun _ h=>?_) fun _ h=>?_
    ·cbv;cases h;exact⟨_,⟨rfl,rfl,hO⟩,.e rfl (.e2 (.b rfl (.e rfl (.e rfl (.e rfl (.e rfl (.e rfl (.z)))))))),rfl⟩
    cbv;refine A5 hE h (fun _ h=>?_) fun _ h=>?_
    ·cbv;cases h;exact⟨_,⟨rfl,rfl,hO⟩,.e rfl (.e2 (.b rfl (.e rfl (.e rfl (.e rfl (.e rfl (.e rfl (.z)))))))),rfl⟩
    cbv;cases h;exact⟨_,⟨rfl,rfl,hO⟩,.e rfl (.e2 (.b rfl (.e rfl (.e rfl (.e rfl (.e rfl (.e rfl (.z)))))))),rfl⟩
   clear hx;rintro e l H ⟨rfl,rfl,hO⟩;cbv;refine A5 hE h (fun _ h=>?_) fun _ h=>?_
   ·cbv;refine A5 hE h (fun _ h=>?_) fun _ h=>?_
    ·cbv;cases h;exact⟨_,_,rfl,⟨rfl,rfl,hO⟩,.e rfl .z,rfl⟩
    cbv;cases h;exact⟨_,rfl,.e rfl (.e4 .z),rfl,hO⟩
   cbv;obtain⟨s5,hx,h⟩:=bind_some h;refine J4 cf309 hE L4 (fun e l H1=>e= .normal∧l=[fi 0 aL,(1,.v (sr (V.int .i64) aZ)),fi 6 x3,(7,.b true),(8,.v (sr (V.int .i64) aZ)),fi 9 (Ar.len aZ),fi 10 s1,fi 14 aL,(22,.v (.bool s5))]∧C3 Eq H0 [] H1) (by kernel_rfl) ?_ ?_
   ·clear h;have h:=hx;clear hx;cbv;refine A5 hE h (fun _ h=>?_) fun _ h=>?_
    ·cbv;cases h;exact⟨_,⟨rfl,rfl,hO⟩,.e rfl (.e2 (.b rfl (.e rfl (.e rfl (.e rfl (.e rfl (.e rfl (.z)))))))),rfl⟩
    cbv;refine A5 hE h (fun _ h=>?_) fun _ h=>?_
    ·cbv;cases h;exact⟨_,⟨rfl,rfl,hO⟩,.e rfl (.e2 (.b rfl (.e rfl (.e rfl (.e rfl (.e rfl (.e rfl (.z)))))))),rfl⟩
    cbv;cases h;exact⟨_,⟨rfl,rfl,hO⟩,.e rfl (.e2 (.b rfl (.e rfl (.e rfl (.e rfl (.e rfl (.e rfl (.z)))))))),rfl⟩
   clear hx;rintro e l H ⟨rfl,rfl,hO⟩;cbv;refine A5 hE h (fun _ h=>?_) fun _ h=>?_
   ·cbv;refine A5 hE h (fun _ h=>?_) fun _ h=>?_
    ·cbv;cases h;exact⟨_,_,rfl,⟨rfl,rfl,hO⟩,.e rfl .z,rfl⟩
    cbv;cases h;exact⟨_,rfl,.e rfl (.e4 .z),rfl,hO⟩
   cbv;refine A5 hE h (fun _ h=>?_) fun _ h=>?_
   ·cbv;refine C1 hE (fun _=>rfl) h fun x6 h=>?_;cbv;refine A5 hE h (fun _ h=>?_) fun _ h=>?_
    ·cbv;cases h;exact⟨_,_,rfl,⟨rfl,rfl,hO⟩,.e rfl .z,rfl⟩
    cbv;cases h;exact⟨_,rfl,.e rfl (.e4 .z),rfl,hO⟩
   cbv;cases h;exact⟨_,rfl,.e rfl (.e4 .z),rfl,hO⟩
  cbv;cases h;exact⟨_,_,rfl,⟨rfl,rfl,hO⟩,.z,rfl⟩
 ·exact .e rfl (.e4 .z)
 clear hx
 rcases s2 with y7|y8
 ·rintro e l H ⟨rfl,rfl,hO⟩;cbv;cases h;exact hK hO (.refl _)
 rintro e l H ⟨rfl,rfl,hO⟩;cbv;cases h;exact hK hO (.refl _)
def cf268 :Cf:=⟨[4,3000042,8000042,9000042],[(11,8),(17,6),(18,16)],[],[],[],[]⟩
theorem c268 (N:Nat):∀n aG aB r,K0 N n aG aB=some r→B6 prog 268 [(Bt aG),(S2 aB)] (.tup [(D7 r.1),vi r.2]):=by
 intro n
 induction n with
 |zero=>intro aG aB r h;cases h
 |succ n ih=>
 intro aG aB r h
 unfold K0 at h
 refine J2 cf268 func268 call268 ntmps268 ?_;intro E H0 K hE hK hO;cbv;refine C9 hE hO fun b1 H hO=>?_;cbv;refine E0 hE ?_;cbv;refine A5 hE h (fun _ h=>?_) fun _ h=>?_
 ·cbv;refine A4 hE h (c308 N aG aB) (.refl _) fun r2 h=>?_;cbv;refine B0 hE hO 0 rfl rfl fun H hO=>?_;cbv;refine B1 hE hO 0 rfl ?_;cbv;cases h;exact hK hO (.refl _)
 cbv;refine E0 hE ?_;cbv;replace hO:=hO.tl0 (t:=.nil) rfl;replace hO:=hO.tl0 (t:=.nil) rfl;obtain⟨s6,hx,h⟩:=bind_some h;refine P5 cf268 hE L4 (γ:=E4×E4) (fun s3 g=>[(2,.v (.eref (Dm aG) 0)),(3,.v (.eref (Ay aB) 0)),(4,.v (.ref b1 0)),(6,.v (.sl (lst eAv4 s3.1) g.2)),(7,.v (.sl (lst (V.int .i64) s3.2.1) g.1)),(23,.v (sr eAw0 aB.cK)),fi 24 (Ar.len aB.cK),fi 25 s3.2.2]) (fun s3 g H1=>T8 g.1∧T8 g.2∧C3 Eq H0 [.tl g.1,.tl g.2,cb b1 [vi 0,vi 0,.str (⟨#[]⟩)]] H1) (fun x e l H1=>match(generalizing:=false) x with| .inl y=>∃u1:E4,T8 u1∧∃u2:E4,T8 u2∧e= .exit 0∧l=[(2,.v (.eref (Dm aG) 0)),(3,.v (.eref (Ay aB) 0)),(4,.v (.ref b1 0)),(6,.v (.sl (lst eAv4 y.1) u2)),(7,.v (.sl (lst (V.int .i64) y.2) u1))]∧C3 Eq H0 [.tl u1,.tl u2,cb b1 [vi 0,vi 0,.str (⟨#[]⟩)]] H1| .inr y=>∃u1:E4,T8 u1∧∃u2:E4,T8 u2∧e= .ret∧l=[(4,.v (.ref b1 0)),fi 5 y]∧C3 Eq H0 [.tl u1,.tl u2,cb b1 [vi 0,vi 0,.str (⟨#[]⟩)]] H1) (by kernel_rfl) ?_ (⟨.nil,.nil⟩) hx ?_ ?_ ?_
 ·rintro s3 ⟨t4,t5⟩ H o ⟨ht4,ht5,hO⟩ h;clear hx;cbv;refine A5 hE h (fun _ h=>?_) fun _ h=>?_
  ·cbv;refine C1 hE eAv9 h fun x7 h=>?_;cbv;refine A4 hE h (ih aG x7) (.refl _) fun r8 h=>?_;cbv;refine A5 hE h (fun _ h=>?_) fun _ h=>?_
   ·cbv;refine B0 hE hO 2 rfl rfl fun H hO=>?_;cbv;cases h;exact⟨_,_,rfl,⟨t4,ht4,t5,ht5,rfl,rfl,hO⟩,.e2 .z,rfl⟩
   cbv;refine Mw hE hO 1 rfl ht5 fun H hO=>?_;cbv;refine JI hE trivial ?_;cbv;refine Ns (f:=eAv4) hE Ir (by decide) (l:=s3.1) (m:=[r8.1]) (.refl _) (.lstc (.eq (eAu9 r8.1) (.refl _)) (.lst0)) h fun l9 h=>?_;cbv;refine My hE hO 1 rfl fun t10 H hO ht10=>?_;cbv;refine Y5 (f:=(V.int .i64)) hE (fun _=>rfl) (by decide) hO 0 rfl ht4 (l:=s3.2.1) (m:=[r8.1.Kind]) (.refl _) (.lstc (.refl _) (.lst0)) h fun l12 t11 H hO ht11 h=>?_;cbv;cases h;exact⟨_,⟨t11,t10⟩,rfl,.e4 (.e4 .z),rfl,ht11,ht10,hO⟩
  cbv;cases h;exact⟨_,_,rfl,⟨t4,ht4,t5,ht5,rfl,rfl,hO⟩,.e rfl (.e4 .z),rfl⟩
 ·exact .e rfl (.e2 (.v (.slt _ (.lst0)) (.v (.slt _ (.lst0)) (.e rfl (.e rfl (.e rfl (.z)))))))
 ·exact⟨trivial,trivial,hO⟩
 clear hx
 rcases s6 with y13|y43
 ·rintro e l H ⟨t14,ht14,t15,ht15,rfl,rfl,hO⟩;cbv;refine A4 hE h (c309 N aB.Op y13.2) (.cons (.refl _) (.cons (.ro _ _) (.refl _))) fun r16 h=>?_;cbv;refine A5 hE h (fun _ h=>?_) fun _ h=>?_
  ·cbv;refine B0 hE hO 2 rfl rfl fun H hO=>?_;cbv;refine B1 hE hO 2 rfl ?_;cbv;cases h;exact hK hO (.refl _)
  cbv;refine A5 hE h (fun _ h=>?_) fun _ h=>?_
  ·cbv;refine C1 hE eAu9 h fun x17 h=>?_;cbv;refine C1 hE eAu9 h fun x18 h=>?_;cbv;refine A4 hE h (c229 N (an (Ar.cmp .eql x17.Kind x18.Kind) (an (Ar.cmp .eql x17.Num x18.Num) (an (Ar.scmp .eql x17.Text x18.Text) true)))) (.refl _) fun r19 h=>?_;cbv;refine B0 hE hO 2 rfl rfl fun H hO=>?_;cbv;refine B1 hE hO 2 rfl ?_;cbv;cases h;exact hK hO (.refl _)
  cbv;refine An4 hE (kt:=3) (et:=338) (z:=.nilf) (by kernel_rfl) (by kernel_rfl) (by kernel_rfl) rfl ?_;cbv;refine A5 hE h (fun _ h=>?_) fun _ h=>?_
  ·cbv;refine C1 hE eAu9 h fun x20 h=>?_;cbv;refine E0 hE ?_;cbv;refine C1 hE eAu9 h fun x21 h=>?_;cbv;refine Aq hE (g:=fun r22=>(D7 r22)) h (fun r22 hx=>B6.value (F:=[]) (C:=[.eref [.func (.func 300) [] []] 0]) (c301 N x20.Num x21.Num (.func (.func 300) [] []) (fun y1=>P7 N y1) (fun y1 r hx=>B6.value (F:=[]) (C:=[]) (c300 N y1 r hx)) r22 hx)) (.refl _) fun r22 h=>?_;cbv;refine B0 hE hO 2 rfl rfl fun H hO=>?_;cbv;refine B1 hE hO 2 rfl ?_;cbv;cases h;exact hK hO (.refl _)
  cbv;refine A5 hE h (fun _ h=>?_) fun _ h=>?_
  ·cbv;refine C1 hE eAu9 h fun x23 h=>?_;cbv;refine E0 hE ?_;cbv;refine C1 hE eAu9 h fun x24 h=>?_;cbv;refine Aq hE (g:=fun r25=>(D7 r25)) h (fun r25 hx=>B6.value (F:=[]) (C:=[.eref [.func (.func 300) [] []] 0]) (c302 N x23.Num x24.Num (.func (.func 300) [] []) (fun y1=>P7 N y1) (fun y1 r hx=>B6.value (F:=[]) (C:=[]) (c300 N y1 r hx)) r25 hx)) (.refl _) fun r25 h=>?_;cbv;refine B0 hE hO 2 rfl rfl fun H hO=>?_;cbv;refine B1 hE hO 2 rfl ?_;cbv;cases h;exact hK hO (.refl _)
  cbv;refine A5 hE h (fun _ h=>?_) fun _ h=>?_
  ·cbv;refine C1 hE eAu9 h fun x26 h=>?_;cbv;refine E0 hE ?_;cbv;refine C1 hE eAu9 h fun x27 h=>?_;cbv;refine A4 hE h (c303 N x26.Num x27.Num) (.refl _) fun r28 h=>?_;cbv;refine B0 hE hO 2 rfl rfl fun H hO=>?_;cbv;refine B1 hE hO 2 rfl ?_;cbv;cases h;exact hK hO (.refl _)
  cbv;refine A5 hE h (fun _ h=>?_) fun _ h=>?_
  ·cbv;refine C1 hE eAu9 h fun x29 h=>?_;cbv;refine E0 hE ?_;cbv;refine C1 hE eAu9 h fun x30 h=>?_;cbv;refine A4 hE h (c304 N x29.Num x30.Num) (.refl _) fun r31 h=>?_;cbv;refine B0 hE hO 2 rfl rfl fun H hO=>?_;cbv;refine B1 hE hO 2 rfl ?_;cbv;cases h;exact hK hO (.refl _)
  cbv;refine A5 hE h (fun _ h=>?_) fun _ h=>?_
  ·cbv;refine C1 hE eAu9 h fun x32 h=>?_;cbv;refine E0 hE ?_;cbv;refine C1 hE eAu9 h fun x33 h=>?_;cbv;refine A4 hE h (c305 N x32.Num x33.Num) (.refl _) fun r34 h=>?_;cbv;refine B0 hE hO 2 rfl rfl fun H hO=>?_;cbv;refine B1 hE hO 2 rfl ?_;cbv;cases h;exact hK hO (.refl _)
  cbv;refine A5 hE h (fun _ h=>?_) fun _ h=>?_
  ·cbv;refine C1 hE eAu9 h fun x35 h=>?_;cbv;refine E0 hE ?_;cbv;refine C1 hE eAu9 h fun x36 h=>?_;cbv;refine A4 hE h (c306 N x35.Num x36.Num) (.refl _) fun r37 h=>?_;cbv;refine B0 hE hO 2 rfl rfl fun H hO=>?_;cbv;refine B1 hE hO 2 rfl ?_;cbv;cases h;exact hK hO (.refl _)
  cbv;refine A5 hE h (fun _ h=>?_) fun _ h=>?_
  ·cbv;refine C1 hE eAu9 h fun x38 h=>?_;cbv;refine E0 hE ?_;cbv;refine C1 hE eAu9 h fun x39 h=>?_;cbv;refine A4 hE h (c307 N x38.Num x39.Num) (.refl _) fun r40 h=>?_;cbv;refine B0 hE hO 2 rfl rfl fun H hO=>?_;cbv;refine B1 hE hO 2 rfl ?_;cbv;cases h;exact hK hO (.refl _)
  cbv;refine C1 hE eAu9 h fun x41 h=>?_;cbv;refine E0 hE ?_;cbv;refine C1 hE eAu9 h fun x42 h=>?_;cbv;cases h
 rintro e l H ⟨t44,ht44,t45,ht45,rfl,rfl,hO⟩;cbv;refine B1 hE hO 2 rfl ?_;cbv;cases h;exact hK hO (.refl _)
def cf228 :Cf:=⟨[8],[(3000004,0),(3000004,1),(3000004,2),(3000004,4),(3000004,5),(3000004,7),(3000004,8),(3000004,10)],[],[2000004],[],[]⟩
theorem c228 (N aB aN aT aU r)(h:Gn N aB aN aT aU=some r):B6 prog 228 [(S2 aB),(Ew aN),vi aT,(Q4 aU)] (.tup [(D7 r.1),vi r.2]):=by
 unfold Gn at h
 refine J2 cf228 func228 call228 ntmps228 ?_;intro E H0 K hE hK hO;cbv;refine C9 hE hO fun b1 H hO=>?_;cbv;refine A4 hE h (c260 N aB) (.refl _) fun r2 h=>?_;cbv;refine A5 hE h (fun _ h=>?_) fun _ h=>?_
 ·cbv;refine B0 hE hO 0 rfl rfl fun H hO=>?_;cbv;refine B1 hE hO 0 rfl ?_;cbv;cases h;exact hK hO (.refl _)
 cbv;obtain⟨s3,hx,h⟩:=bind_some h;refine J4 cf228 hE L4 (fun e l H1=>e= .normal∧l=[(8,.v (.ref b1 0)),fi 9 s3.1]∧C3 Eq H0 [cb b1 (O6 s3.2)] H1) (by kernel_rfl) ?_ ?_
 ·clear h;have h:=hx;clear hx;cbv;obtain⟨r244,er244,h⟩:=bind_some h;refine YY hE (c267 N () rfl) (.refl _) hO fun m125 H hO=>?_;cbv;refine Af0 hE (g:=fun r244=>.tup [(D7 r244.1),vi r244.2]) (K7 er244) (c268 N N (⟨aN,aT,aU,()⟩:M2) aB) (fun _=>.tup2 (.agg rfl) (.int _ _)) (.agg (.le (.refl _) (.le (.refl _) (.le (.refl _) (.le (.refl _) (.le (.refl _) (.le (.refl _) (.le (.refl _) (.fm (hO.get 0 rfl) (.nil))))))))) (.le (.refl _) (.nil))) fun r244 hh=>?_;obtain rfl:=D3 hh;cbv;refine B0 hE hO 1 rfl rfl fun H hO=>?_;cbv;cases h;exact⟨_,⟨rfl,rfl,hO.tail⟩,.e2 .z,rfl⟩
 clear hx;rintro e l H ⟨rfl,rfl,hO⟩;cbv;refine B1 hE hO 0 rfl ?_;cbv;cases h;exact hK hO (.refl _)
def cf177 :Cf:=⟨[],[(2,5)],[],[],[],[]⟩
theorem c177 (N aB aN aT aU r)(h:De N aB aN aT aU=some r):B6 prog 177 [(S2 aB),(Ew aN),vi aT,(Q4 aU)] (.bool r):=by
 unfold De at h
 refine J2 cf177 func177 call177 ntmps177 ?_;intro E H0 K hE hK hO;cbv;refine A4 hE h (c228 N aB aN aT aU) (.refl _) fun r1 h=>?_;cbv;refine A5 hE h (fun _ h=>?_) fun _ h=>?_
 ·cbv;refine C7 hE (g:=fun r2=>(D7 r2)) h (c229 N true) (.refl _) fun r2 h=>?_;cbv;cases h;exact hK hO (.refl _)
 cbv;cases h;exact hK hO (.refl _)
def cf178 :Cf:=⟨[6,7,3000041,8000041,9000041],[(6,20)],[],[],[(44,1000007)],[]⟩
theorem c178 (N aG aI bZ r) (h:N1 N aG aI bZ=some r):B6 prog 178 [.eref (D1 aG) 0,sr eAu3 aI,vi bZ] ((Ew r)):=by
 unfold N1 at h
 refine J2 cf178 func178 call178 ntmps178 ?_;intro E H0 K hE hK hO;cbv;refine C9 hE hO fun b1 H hO=>?_;cbv;refine Ak8 hE (f:=eAu4) (by decide) hO 1 h fun l3 w2 H hw2 h hO=>?_;have hO:C3 Eq H0 (.blk w2.q.id (.arr 1 (w2.q.pre++lst (AC eAu4) w2.row++w2.q.rest))::cb b1 [.sl [] .nil]::(FU w2++[])) H:=hO;cbv;refine C9 hE hO fun b4 H hO=>?_;cbv;refine B0 hE hO 0 rfl rfl fun H hO=>?_;cbv;refine E0 hE ?_;cbv;obtain⟨s7,hx,h⟩:=bind_some h;refine P5 cf178 hE L4 (γ:=Rw A9) (fun s5 g=>[(0,.v (.eref (D1 aG) 0)),fi 2 bZ,(6,.v (.ref b1 0)),(7,.v (.ref b4 0)),(12,.v (sr eAu3 aI)),fi 13 (Ar.len aI),fi 14 s5.1]) (fun s5 g H1=>BP g s5.2∧C3 Eq H0 (cb b4 [.own g.q.id g.q.lo g.q.n]:: .blk g.q.id (.arr 1 (g.q.pre++lst (AC eAu4) g.row++g.q.rest))::cb b1 [.sl [] .nil]::(FU g++[])) H1) (fun x e l H1=>∃u1:Rw A9,BP u1 x∧e= .exit 0∧l=[(6,.v (.ref b1 0)),(7,.v (.ref b4 0))]∧C3 Eq H0 (cb b4 [.own u1.q.id u1.q.lo u1.q.n]:: .blk u1.q.id (.arr 1 (u1.q.pre++lst (AC eAu4) u1.row++u1.q.rest))::cb b1 [.sl [] .nil]::(FU u1++[])) H1) (by kernel_rfl) ?_ w2 hx ?_ ?_ ?_
 ·rintro s5 w6 H o ⟨hw6,hO⟩ h;clear hx;cbv;refine A5 hE h (fun _ h=>?_) fun _ h=>?_
  ·cbv;refine C1 hE eAv6 h fun x8 h=>?_;cbv;refine A5 hE h (fun _ h=>?_) fun _ h=>?_
   ·cbv;obtain⟨x9,hxx9,h⟩:=bind_some h
    obtain⟨hjx9,t10,hrx9,hax9⟩:=hw6.at hxx9
    obtain⟨Rx9,hO,hbx9⟩:=hO.rtake (w:=w6) (T1:=[]) (T2:=[]) 3 rfl hrx9;refine Mw hE hO 0 rfl hax9 fun H hO=>?_;cbv;refine B1 hE hO 1 rfl ?_;cbv;refine B1 hE hO 1 rfl ?_;cbv;refine QJ hE (f:=AC eAu4) hO hw6.ok 2 rfl hjx9 ?_;cbv;refine Wd hE (f:=AC eAu4) (fun _=>rfl) hO hw6.ok 2 rfl hjx9.1 hrx9 ?_;cbv;refine C1 hE eAv0 h fun x14 h=>?_;cbv;refine JI hE trivial ?_;cbv;refine Ns (f:=eAu4) hE Le (by decide) (l:=x9) (m:=[x14]) (.refl _) (.lstc (.eq (eAv0 x14) (.refl _)) (.lst0)) h fun l15 h=>?_;cbv;refine My hE hO 0 rfl fun t11 H hO htt11=>?_;cbv;refine QJ hE (f:=AC eAu4) hO hw6.ok 2 rfl hjx9 ?_;cbv;refine SX hE (f:=AC eAu4) (tz:=1) (x':=(l15,t11)) (fun _=>⟨.sl (lst eAu4 l15) t11,.refl _,rfl,rfl,rfl⟩) (by decide) hO hw6.ok 2 rfl hjx9 fun H hO=>?_;cbv;obtain⟨l13,hu,h⟩:=bind_some h;obtain⟨w12,hqw12,hw12,hO⟩:∃w0:Rw A9,w0.q=w6.q∧BP w0 l13∧C3 Eq H0 (cb b4 [.own w0.q.id w0.q.lo w0.q.n]:: .blk w0.q.id (.arr 1 (w0.q.pre++lst (AC eAu4) w0.row++w0.q.rest))::cb b1 [.sl [] .nil]::(FU w0++[])) H:=⟨(⟨w6.q,w6.row.set (x8.v).toNat (l15,t11)⟩:Rw A9),rfl,by rw[Rr hu];exact hw6.put _ htt11,(by have e:=hbx9 (l15,t11) H [cb b4 [.own w6.q.id w6.q.lo w6.q.n],.blk w6.q.id (.arr 1 (w6.q.pre++lst (AC eAu4) (w6.row.set (x8.v).toNat (l15,t11))++w6.q.rest)),cb b1 [.sl [] .nil]] hO;simp only[List.cons_append,List.nil_append,append_nil]at e ⊢;exact e)⟩
    try rw[←hqw12]
    cases h;exact⟨_,w12,rfl,.e rfl (.e2 (.e4 .z)),rfl,hw12,hO⟩
   cbv;cases h;exact⟨_,w6,rfl,.e rfl (.e2 (.e4 .z)),rfl,hw6,hO⟩
  cbv;cases h;exact⟨_,_,rfl,⟨w6,hw6,rfl,rfl,hO⟩,.e2 .z,rfl⟩
 ·exact .e rfl (.e2 (.e4 .z))
 ·exact⟨hw2,hO⟩
 clear hx;rintro e l H ⟨w16,hw16,rfl,rfl,hO⟩;cbv;refine Sx hE (e:=eAw2) eAw9 hO hw16 0 1 rfl rfl rfl (by decide) fun H hO=>?_;have hO:C3 Eq H0 [cb b4 [sr eAw2 s7],cb b1 [.sl [] .nil]] H:=hO.rdrop (w:=w16) (T1:=[]) (T2:=[]) 2 rfl;cbv;refine B1 hE hO 0 rfl ?_;cbv;refine B0 hE hO 1 rfl rfl fun H hO=>?_;cbv;refine B1 hE hO 1 rfl ?_;cbv;cases h;exact hK hO (.refl _)
def cf139 :Cf:=⟨[],[(2,15)],[],[],[],[]⟩
theorem c139 (N aG aA aK bA r)(h:I7 N aG aA aK bA=some r):B6 prog 139 [.eref (D1 aG) 0,(C0 aA),sr eAu3 aK,vi bA] (.bool r):=by
 unfold I7 at h
 refine J2 cf139 func139 call139 ntmps139 ?_;intro E H0 K hE hK hO;cbv;refine C1 hE eAv0 h fun x1 h=>?_;cbv;refine A5 hE h (fun _ h=>?_) fun _ h=>?_
 ·cbv;refine C7 hE (g:=fun r2=>(Ew r2)) h (c178 N aG aK bA) (.refl _) fun r2 h=>?_;cbv;refine A4 hE h (c177 N aA.cL r2 aA.Var x1) (.refl _) fun r3 h=>?_;cbv;cases h;exact hK hO (.refl _)
 cbv;cases h;exact hK hO (.refl _)
def cf230 :Cf:=⟨[22],[],[],[],[],[]⟩
theorem c230 (N aF aQ r) (h:P1 N aF aQ=some r):PJ prog 230 [.sl [] .nil,vi aQ] 2 (lst eAu3 r):=by
 unfold P1 at h
 obtain⟨h1,h2,hr⟩:=Zc (f:=eAu3) h;rw[hr];clear hr h;intro H0
 have hneg:∀b,Ar.cmp .lss aQ 0=b→b=false:=fun b h=>by rw[Ar.cmp_eq]at h;subst h;simp[JZ];omega
 have hsub:ar .sub .i64 aQ (ar .sub .i64 0 0)=aQ:=by rw[Ar.ar_eq,Ar.ar_eq];simp only[arI];rw[show(0:Int) - 0=0 from rfl,wrap_small 0 (by omega) (by omega),Int.sub_zero];exact wrap_small _ (by omega) (by omega)
 have hgt:∀b,Ar.cmp .gtr (ar .sub .i64 aQ (ar .sub .i64 0 0)) 0=b→(b=false→aQ=0):=fun b h=>by rw[hsub,Ar.cmp_eq]at h;subst h;simp[JZ];omega
 have hbn:aQ.toNat*16≤140737488355328:=by have:=Af3 (a:=aQ.toNat) (b:=0) (by_:=16) (by omega) (by decide);simpa using this
 have hl0:(0:Int)=(([]:List V).length:Nat):=rfl;refine IL (T:=TT) cf230 L4 func230 (by rfl) (by kernel_rfl) call230 ntmps230 (by rfl) (by rfl) ?_;intro E K hE hK hN;cbv;refine r_br hE (fun hc=>absurd (hneg _ hc) (by decide)) (fun hc=>?_);cbv;refine r_ln hE hl0 ?_;cbv;refine r_br hE (fun hc2=>?_) (fun hc2=>?_)
 ·cbv;refine Ac8 hE ?_;cbv;refine YC hE aQ hsub (.inl rfl) h1 hbn fun t m row j ht hm hrow=>?_;obtain⟨RL,hRL,hR0⟩:∃RL:Int,RL=(row.length:Nat)∧0≤RL:=⟨_,rfl,by omega⟩;cbv;refine r_ln hE hl0 ?_;cbv;refine YB hE (B7 _ _ _) hRL 0 0 rfl rfl (Int.le_refl _) (Int.le_refl _) hR0 fun l' n' q1 q2=>?_;cbv
  have e1:0=l':=by omega
  have e2:0=n':=by omega
  subst e1 e2;exact hK ⟨t,0,0,[],row⟩ [] _ ⟨rfl,rfl⟩ ((C3.start H5 rfl).push ht rfl)
 cbv;exact hN rfl [] H0 (.start H5 rfl)
theorem c180 {cmp:A3→A3→Option Int}{g:Nat}{C:List V}(eg:∀vals w,(callFunc g vals).run prog w= .ok (.enter g vals) w)(hc:∀y1 y2 r,cmp y1 y2=some r→B6 prog g ([(L5 y1),(L5 y2)]++C) (vi r)){l r:List A3}(h:IY cmp l=some r):
 QZ prog 180 (.func (.func g) [] C) 2 (lst eAu3 l) (lst eAu3 r):=LZ Go.Proofs.Tryz.sorts180 call180 (va:=fun x=>(X7 x)) eAv6 (fun _=>rfl) eg hc h
theorem c181 (N aC aD r)(h:Aw N aC aD=some r):B6 prog 181 [(L5 aC),(L5 aD)] (vi r):=by
 unfold Aw at h
 refine J2 cf0 func181 call181 ntmps181 ?_;intro E H0 K hE hK hO;cbv;cases h;exact hK hO (.refl _)
def cfo179 :Cf:=⟨[6000002],[],[],[],[],[]⟩
theorem o179 (N bM r) (h:N4 N bM=some r):PJ prog 179 [sr eAw5 bM] 2 (lst eAu3 r):=by
 unfold N4 at h
 intro H0;refine IL (T:=TT) (F:=H0) cfo179 L4 func179 (by rfl) (by kernel_rfl) call179 ntmps179 (by rfl) (by rfl) ?_;intro E K hE hK hN;have hO:C3 Eq H0 [] H0:=.start H5 rfl;cbv;refine Uz hE (f:=eAu3) hO fun q1 H hq1 hO=>?_;cbv;refine E0 hE ?_;cbv;obtain⟨s3,hx,h⟩:=bind_some h;refine E6 cfo179 hE L4 (fun s2=>[(0,.v (sr eAw5 bM)),fi 3 s2.1,(9,.v (sr eAw5 bM)),fi 10 (Ar.len bM),fi 11 s2.2]) (fun s2 H1=>C3 Eq H0 [ob q1 2 eAu3 ([]:List A3)] H1) (fun x e l H1=>e= .exit 0∧l=[(0,.v (sr eAw5 bM)),fi 3 x]∧C3 Eq H0 [ob q1 2 eAu3 ([]:List A3)] H1) (by kernel_rfl) ?_ hx ?_ hO ?_
 ·intro s2 H o hO h;clear hx;cbv;refine A5 hE h (fun _ h=>?_) fun _ h=>?_
  ·cbv;refine C1 hE eAx0 h fun x4 h=>?_;cbv;refine E0 hE ?_;cbv;refine A5 hE h (fun _ h=>?_) fun _ h=>?_
   ·cbv;cases h
   cbv;cases h;exact⟨_,rfl,.e rfl (.e4 .z),rfl,hO⟩
  cbv;cases h;exact⟨_,_,rfl,⟨rfl,rfl,hO⟩,.e2 .z,rfl⟩
 ·exact .e rfl (.e4 .z)
 clear hx;rintro e l H ⟨rfl,rfl,hO⟩;cbv;refine Mz hE (f:=eAu3) h (c230 N [] s3) (.cons (.refl _) (.cons (.refl _) .nil)) hO fun l5 q6 H hq6 hO h=>?_;cbv;refine E0 hE ?_;cbv;obtain⟨s9,hx,h⟩:=bind_some h;refine P5 cfo179 hE L4 (γ:=OG) (fun s7 g=>[(6,.v (.own g.id g.lo g.n)),(25,.v (sr eAw5 bM)),fi 26 (Ar.len bM),fi 27 s7.1]) (fun s7 g H1=>Aa g (Ar.len s7.2)∧C3 Eq H0 [ob g 2 eAu3 s7.2,ob q1 2 eAu3 ([]:List A3)] H1) (fun x e l H1=>∃u1:OG,Aa u1 (Ar.len x)∧e= .exit 2∧l=[(6,.v (.own u1.id u1.lo u1.n))]∧C3 Eq H0 [ob u1 2 eAu3 x,ob q1 2 eAu3 ([]:List A3)] H1) (by kernel_rfl) ?_ q6 hx ?_ ?_ ?_
 ·rintro s7 q8 H o ⟨hq8,hO⟩ h;clear hx;cbv;refine A5 hE h (fun _ h=>?_) fun _ h=>?_
  ·cbv;refine C1 hE eAx0 h fun x10 h=>?_;cbv;refine Qq (f:=eAu3) hE Q1 (by decide) hO hq8 0 rfl (m:=x10) (Lg (f:=eAu3) hE Q1 (.refl _)) h fun l12 q11 H hq11 hO h=>?_;cbv;cases h;exact⟨_,q11,rfl,.e4 .z,rfl,hq11,hO⟩
  cbv;cases h;exact⟨_,_,rfl,⟨q8,hq8,rfl,rfl,hO⟩,.e rfl .z,rfl⟩
 ·exact .e4 .z
 ·exact⟨hq6,hO⟩
 clear hx;rintro e l H ⟨q13,hq13,rfl,rfl,hO⟩;cbv;cases h;exact hK q13 _ _ (Dw hE hq13) (hO)
theorem c140 (N aC aD r)(h:E8 N aC aD=some r):B6 prog 140 [sr eAu3 aC,sr eAu3 aD] (sr eAu3 r):=by
 unfold E8 at h
 refine CN (T:=TT) cf0 L4 func140 (by rfl) (by kernel_rfl) call140 ntmps140 (by rfl) (by rfl) ?_;intro E H0 K hE hK hF;have hO:C3 Eq H0 [] H0:=.start H5 rfl;cbv;refine Mz hE (f:=eAu3) h (o179 N ([aC,aD])) (.cons (.lit _ (E5 ((eAx0 aC).symm) (E5 ((eAx0 aD).symm) (D5)))) (.refl _)) hO fun l1 q2 H hq2 hO h=>?_;cbv;refine SA hE hO hq2 0 rfl h (fun l3 hx=>c180 (g:=181) (C:=[]) call181 (fun y1 y2 r hx=>c181 N y1 y2 r hx) hx) fun l3 H hq2 hO h=>?_;cbv;cases h;exact hF q2 _ _ 0 _ _ hO rfl (Dw hE hq2) (.refl _)
theorem c232 (N:Nat) (aF:List A3) (bL:V) (bH:A3→Option Bool) (bT:∀y1 q,bH y1=some q→W3 prog bL [(L5 y1)] (.bool q)) (r:Int) (h:O5 N aF bH=some r):B6 prog 232 [sr eAu3 aF,bL] (vi r):=by
 unfold O5 at h
 refine J2 cf0 func232 call232 ntmps232 ?_;intro E H0 K hE hK hO;cbv;refine E0 hE ?_;cbv;obtain⟨s2,hx,h⟩:=bind_some h;refine E6 cf0 hE L4 (fun s1=>[(0,.v (sr eAu3 aF)),(1,.v (bL)),fi 7 (Ar.len aF),fi 8 s1]) (fun s1 H1=>C3 Eq H0 [] H1) (fun x e l H1=>match(generalizing:=false) x with| .inl y=>e= .exit 0∧l=[]∧C3 Eq H0 [] H1| .inr y=>e= .ret∧l=[fi 4 y]∧C3 Eq H0 [] H1) (by kernel_rfl) ?_ hx ?_ hO ?_
 ·intro s1 H o hO h;clear hx;cbv;refine A5 hE h (fun _ h=>?_) fun _ h=>?_
  ·cbv;refine C1 hE eAv6 h fun x3 h=>?_;cbv;refine Aq hE (g:=fun r4=>.bool r4) h (fun r4 hx=>bT x3 r4 hx) (.refl _) fun r4 h=>?_;cbv;refine A5 hE h (fun _ h=>?_) fun _ h=>?_
   ·cbv;cases h;exact⟨_,_,rfl,⟨rfl,rfl,hO⟩,.e rfl .z,rfl⟩
   cbv;cases h;exact⟨_,rfl,.e4 .z,rfl,hO⟩
  cbv;cases h;exact⟨_,_,rfl,⟨rfl,rfl,hO⟩,.z,rfl⟩
 ·exact .e4 .z
 clear hx
 rcases s2 with y5|y6
 ·rintro e l H ⟨rfl,rfl,hO⟩;cbv;cases h;exact hK hO (.refl _)
 rintro e l H ⟨rfl,rfl,hO⟩;cbv;cases h;exact hK hO (.refl _)
end Go.Ab
namespace Go.Ab
open Go.RowKit Go.Proofs Go.Proofs.Tryz I8
variable [Ar][I8]
set_option maxRecDepth 100000
theorem c182 (N:Nat)(aF:List A3)(bL:V)(bH:A3→Option Bool)(bT:∀y1 q,bH y1=some q→W3 prog bL [(L5 y1)] (.bool q))(r:Bool)(h:F2 N aF bH=some r):B6 prog 182 [sr eAu3 aF,bL] (.bool r):=by
 unfold F2 at h
 refine J2 cf0 func182 call182 ntmps182 ?_;intro E H0 K hE hK hO;cbv;refine A4 hE h (c232 N aF bL bH bT) (.refl _) fun r1 h=>?_;cbv;cases h;exact hK hO (.refl _)
theorem c185 (N aS aP r)(h:K3 N aS aP=some r):B6 prog 185 [(L5 aS),.eref [vi aP] 0] (.bool r):=by
 unfold K3 at h
 refine J2 cf0 func185 call185 ntmps185 ?_;intro E H0 K hE hK hO;cbv;cases h;exact hK hO (.refl _)
def cf143 :Cf:=⟨[12],[(1,12),(5,19),(7,11)],[],[],[(73,12)],[]⟩
theorem c143 (N aG aA aK aF r) (h:N7 N aG aA aK aF=some r):B6 prog 143 [.eref (D1 aG) 0,(C0 aA),sr eAu3 aK,sr eAu3 aF] (.bool r):=by
 unfold N7 at h
 refine J2 cf143 func143 call143 ntmps143 ?_;intro E H0 K hE hK hO;cbv;refine C1 hE eAv6 h fun x1 h=>?_;cbv;refine E0 hE ?_;cbv;refine C1 hE eAv6 h fun x2 h=>?_;cbv;refine A4 hE h (c140 N aK aF) (.refl _) fun r3 h=>?_;cbv;refine A5 hE h (fun _ h=>?_) fun _ h=>?_
 ·cbv;refine C1 hE eAv0 h fun x4 h=>?_;cbv;refine C1 hE eAv0 h fun x5 h=>?_;cbv;cases h;exact hK hO (.refl _)
 cbv;refine A5 hE h (fun _ h=>?_) fun _ h=>?_
 ·cbv;refine E0 hE ?_;cbv;refine C7 hE (g:=fun r6=>(Ew r6)) h (c178 N aG r3 (Ar.len aG.cP)) (.refl _) fun r6 h=>?_;cbv;refine A4 hE h (c177 N aA.cL r6 (-1) (⟨0,0,0,0,[]⟩:A9)) (.cons (.refl _) (.cons (.refl _) (.cons (.refl _) (.cons (.agg (.cons (.refl _) (.cons (.refl _) (.cons (.refl _) (.cons (.refl _) (.cons (.lit _ (D5)) (.refl _))))))) (.refl _))))) fun r7 h=>?_;cbv;cases h;exact hK hO (.refl _)
 cbv;refine C9 hE hO fun b8 H hO=>?_;cbv;refine B0 hE hO 0 rfl rfl fun H hO=>?_;cbv;obtain⟨s11,hx,h⟩:=bind_some h;refine P5 cf143 hE L4 (γ:=Nat) (fun s9 g=>[(0,.v (.eref (D1 aG) 0)),(3,.v (sr eAu3 aF)),(5,.v (.eref (D6 aA) 0)),fi 10 x2.at_,(11,.v (sr eAu3 r3)),(12,.v (.ref g 0))]) (fun s9 g H1=>True∧C3 Eq H0 [cb g [vi s9]] H1) (fun x e l H1=>match(generalizing:=false) x with| .inl y=>e= .exit 1∧l=[]∧C3 Eq H0 [] H1| .inr y=>e= .ret∧l=[(8,.b false)]∧C3 Eq H0 [] H1) (by kernel_rfl) ?_ b8 hx ?_ ?_ ?_
 ·rintro s9 b10 H o ⟨hb10,hO⟩ h;clear hx;cbv;refine B1 hE hO 0 rfl ?_;cbv;refine A5 hE h (fun _ h=>?_) fun _ h=>?_
  ·cbv;refine As2 hE hO 0 rfl fun H hO=>?_;cbv;refine A4 hE (g:=fun r12=>.bool r12) h (fun r12 hx=>c182 N aF (.func (.func 185) [] [.eref [vi s9] 0]) (fun y1=>K3 N y1 s9) (fun y1 r hx=>B6.value (F:=[]) (C:=[.eref [vi s9] 0]) (c185 N y1 s9 r hx)) r12 hx) (.refl _) fun r12 h=>?_;cbv;refine A5 hE h (fun _ h=>?_) fun _ h=>?_
   ·cbv;refine A4 hE h (c139 N aG aA r3 s9) (.refl _) fun r13 h=>?_;cbv;refine A5 hE h (fun _ h=>?_) fun _ h=>?_
    ·cbv;cases h;exact⟨_,_,rfl,⟨rfl,rfl,hO⟩,.b rfl (.z),rfl⟩
    cbv;refine C9 hE hO fun b14 H hO=>?_;cbv;refine B0 hE hO 0 rfl rfl fun H hO=>?_;cbv;refine B1 hE hO 0 rfl ?_;cbv;refine B0 hE hO 0 rfl rfl fun H hO=>?_;cbv;cases h;exact⟨_,b14,rfl,.e2 (.e4 .z),rfl,trivial,hO⟩
   cbv;refine C9 hE hO fun b15 H hO=>?_;cbv;refine B0 hE hO 0 rfl rfl fun H hO=>?_;cbv;refine B1 hE hO 0 rfl ?_;cbv;refine B0 hE hO 0 rfl rfl fun H hO=>?_;cbv;cases h;exact⟨_,b15,rfl,.e2 (.e4 .z),rfl,trivial,hO⟩
  cbv;cases h;exact⟨_,_,rfl,⟨rfl,rfl,hO.tail⟩,.z,rfl⟩
 ·exact .e2 (.e4 .z)
 ·exact⟨trivial,hO⟩
 clear hx
 rcases s11 with y16|y17
 ·rintro e l H ⟨rfl,rfl,hO⟩;cbv;cases h;exact hK hO (.refl _)
 rintro e l H ⟨rfl,rfl,hO⟩;cbv;cases h;exact hK hO (.refl _)
theorem c184 (N bN aP r)(h:O4 N bN aP=some r):B6 prog 184 [(L5 bN),.eref (X7 aP) 0] (.bool r):=by
 unfold O4 at h
 refine J2 cf0 func184 call184 ntmps184 ?_;intro E H0 K hE hK hO;cbv;cases h;exact hK hO (.refl _)
theorem c183 (N aS aP r)(h:Q8 N aS aP=some r):B6 prog 183 [(L5 aS),.eref [sr eAu3 aP] 0] (.bool r):=by
 unfold Q8 at h
 refine J2 cf0 func183 call183 ntmps183 ?_;intro E H0 K hE hK hO;cbv;refine A4 hE (g:=fun r1=>.bool r1) h (fun r1 hx=>c182 N aP (.func (.func 184) [] [.eref (X7 aS) 0]) (fun y1=>O4 N y1 aS) (fun y1 r hx=>B6.value (F:=[]) (C:=[.eref (X7 aS) 0]) (c184 N y1 aS r hx)) r1 hx) (.refl _) fun r1 h=>?_;cbv;cases h;exact hK hO (.refl _)
theorem c141 (N aC aD r)(h:Q2 N aC aD=some r):B6 prog 141 [sr eAu3 aC,sr eAu3 aD] (.bool r):=by
 unfold Q2 at h
 refine J2 cf0 func141 call141 ntmps141 ?_;intro E H0 K hE hK hO;cbv;refine A4 hE (g:=fun r1=>.bool r1) h (fun r1 hx=>c182 N aC (.func (.func 183) [] [.eref [sr eAu3 aD] 0]) (fun y1=>Q8 N y1 aD) (fun y1 r hx=>B6.value (F:=[]) (C:=[.eref [sr eAu3 aD] 0]) (c183 N y1 aD r hx)) r1 hx) (.refl _) fun r1 h=>?_;cbv;cases h;exact hK hO (.refl _)
theorem c142 (N aF r)(h:M9 N aF=some r):B6 prog 142 [sr eAu3 aF] (vi r):=by
 unfold M9 at h
 refine J2 cf0 func142 call142 ntmps142 ?_;intro E H0 K hE hK hO;cbv;refine E0 hE ?_;cbv;refine C1 hE eAv6 h fun x1 h=>?_;cbv;cases h;exact hK hO (.refl _)
def cf218 :Cf:=⟨[7],[],[],[],[],[]⟩
theorem c218 (N aF r)(h:N5 N aF=some r):PJ prog 218 [sr eAu5 aF] 5 (lst eAu5 r):=by
 unfold N5 at h
 intro H0;refine IL (T:=TT) cf218 L4 func218 (by rfl) (by kernel_rfl) call218 ntmps218 (by rfl) (by rfl) ?_;intro E K hE hK hN;have hO:C3 Eq H0 [] H0:=.start H5 rfl;cbv;refine An3 hE rfl (fun hx=>?_) ?_
 ·cbv;exact hN (ZS hx h) [] H0 hO
 cbv;refine Ae7 (f:=eAu5) hE N2 (by decide) hO (.inr rfl) (m:=aF) (Lg (f:=eAu5) hE N2 (.refl _)) h fun l q H hq hO h=>?_;cbv;cases h;exact hK q _ _ (Dw hE hq) hO
def K57 (N n:Nat):Prop:=∀(aG:D4) (aA:A0) (aK:List A3) (aV:Int) (r:(List B3)),M4 N n aG aA aK aV=some r→Ij prog 57 [.eref (D1 aG) 0,(C0 aA),sr eAu3 aK,vi aV] (fun v=>Ok prog v (r.map fun(x:B3)=>[(D0 x)]))
def cf123 :Cf:=⟨[],[],[(9,4)],[],[],[]⟩
def cf121 :Cf:=⟨[6,1000005],[],[],[],[],[]⟩
def Aq3 (N n:Nat):Prop:=∀(aP:D4) (bC:A0) (bV:List A3) (bW:Int) (r:(List B3)),R9 N n aP bC bV bW=some r→KX prog 121 (fun yv=>[yv,.eref [.eref (D1 aP) 0] 0,.eref (D6 bC) 0,.eref [sr eAu3 bV] 0,.eref [vi bW] 0]) (List.map (fun(x:B3)=>[(D0 x)]) r) rbN
def cf122 :Cf:=⟨[10,12,13,1000009],[(6,22),(23,7)],[(88,21)],[],[],[]⟩
def Aq2 (N n:Nat):Prop:=∀(aG:D4) (aA:A0) (aK:List A3) (aV:Int) (r:(List B3)),W7 N n aG aA aK aV=some r→KX prog 122 (fun yv=>[.eref (D1 aG) 0,(C0 aA),sr eAu3 aK,vi aV,yv]) (List.map (fun(x:B3)=>[(D0 x)]) r) rbB
def cf158 :Cf:=⟨[14,1000013],[(3,6),(10,12),(16,17)],[(39,4),(54,10),(75,15)],[],[],[]⟩
def Ai9 (N n:Nat):Prop:=∀(aG:D4) (aA:A0) (aK:List A3) (aV:Int) (bG:List A1) (aF:List A3) (r:(List B3)),Q0 N n aG aA aK aV bG aF=some r→KX prog 158 (fun yv=>[.eref (D1 aG) 0,(C0 aA),sr eAu3 aK,vi aV,sr eAu5 bG,sr eAu3 aF,yv]) (List.map (fun(x:B3)=>[(D0 x)]) r) rbB
theorem k57 (N n:Nat)(ih121:Aq3 N n):K57 N (n+1):=by
 intro aG aA aK aV r h
 unfold M4 at h
 refine Ji cf0 L4 func57 (by rfl) (by kernel_rfl) call57 ntmps57 (by rfl) (by rfl) ?_;intro E H0 K hE hK;have hO:C3 Eq H0 [] H0:=.start H5 rfl;cbv;exact hK _ _ _ hO (Jc call121 (ih121 aG aA aK aV r h))
theorem k121 (N n:Nat) (ih122:Aq2 N n):Aq3 N (n+1):=by
 intro aP bC bV bW r h
 unfold R9 at h
 obtain⟨⟨w0,u0⟩,h1,hr⟩:=bind_some h;clear h;have hr:=D3 hr;subst hr;have h:=h1;clear h1;refine BZ cf121 L4 func121 (by rfl) (by kernel_rfl) call121 ntmps121 (by rfl) (fun _=>rfl) ?_;intro yv I D hI hD hy tl F E H K hE hO hK hKD
 have hO:C3 (I (List.map (fun(x:B3)=>[(D0 x)]) (w0++[])++tl)) F [] H:=by rw[append_nil];exact hO
 cbv;refine JI hE hy.1 ?_;cbv;refine C9 hE hO fun b1 H hO=>?_;cbv;refine B0 hE hO 0 rfl rfl fun H hO=>?_;cbv;obtain⟨l2,hl,h⟩:=bind_some h;obtain⟨w3,w4,o9,hx,h1,he⟩:=Y0 h;clear h;have h:=h1;clear h1
 rw[he,append_assoc]at hO
 clear he
 rcases o9 with s10|u
 ·refine Ae8 (Ls:=fun s7=>[cb b1 [vi s7]]) (w':=w4++[]) (cv:=.func (.func 123) [] [.ref b1 0,.eref [.eref (D1 aP) 0] 0,.eref [yv] 0]) hE hI hD ⟨rfl,rfl⟩ (ih122 aP bC bV bW l2 hl) hx hO (.refl _) ?_ ?_ ?_
  ·rintro s7 y8 w5 w6 F H o h hO;clear hx hl;refine I0.value (F:=[]) (C:=[.ref b1 0,.eref [.eref (D1 aP) 0] 0,.eref [yv] 0]) (Te cf123 L4 func123 (by rfl) (by kernel_rfl) call123 ntmps123 (by rfl) (by rfl) ?_);intro E K hE hK hKD;cbv;refine B1 hE hO 0 rfl ?_;cbv;refine B0 hE hO 0 rfl rfl fun H hO=>?_;cbv;refine B1 hE hO 0 rfl ?_;cbv;obtain⟨w12,w13,s11,hx,h1,he⟩:=Y0 h;clear h;have h:=h1;clear h1
   rw[he,append_assoc]at hO
   clear he;refine J4 cf123 hE L4 (fun e l H1=>(e= .normal∧l=[(2,.v (.eref [.eref (D1 aP) 0] 0)),(3,.v (.eref [yv] 0)),(4,.v (.eref (W1 y8) 0))]∧C3 (I (List.map (fun(x:B3)=>[(D0 x)]) (w13++w6)++tl)) F [cb b1 [vi (ar .add .i64 s7 1)]] H1)∨(False)) (by kernel_rfl) ?_ ?_
   ·clear h;have h:=hx;clear hx;cbv;refine A5 hE h (fun _ h=>?_) fun _ h=>?_
    ·cbv;refine B1 hE hO 0 rfl ?_;cbv;cases h
    cbv;obtain⟨hw,rfl⟩:=I5 h
    rw[←hw]at hO
    exact⟨_,.inl ⟨rfl,rfl,hO⟩,.e rfl (.e2 .z),rfl⟩
   clear hx;rintro e l H hX
   rcases hX with hX|hX
   ·obtain⟨rfl,rfl,hO⟩:=hX;cbv;refine A5 hE h (fun _ h=>?_) fun _ h=>?_
    ·cbv;obtain⟨w14,h1,he⟩:=Cm h;clear h;have h:=h1;clear h1
     rw[he,append_assoc]at hO
     clear he;have hO:C3 (I ([(D0 y8)]::(List.map (fun(x:B3)=>[(D0 x)]) (w14++w6)++tl))) F [cb b1 [vi (ar .add .i64 s7 1)]] _:=hO;refine Mv hE hI hD hy hO (.refl _) (fun H hO=>?_) (fun H hO=>?_)
     ·cbv;obtain⟨hw,rfl⟩:=I5 h
      rw[←hw]at hO
      exact hK _ _ ⟨_,rfl,hO⟩ rfl
     clear h;cbv;exact hKD _ _ _ hO rfl
    cbv;cases h
   exact hX.elim
  ·rintro v H hb hO;cases hb;clear hl hx;cbv;obtain⟨hw,_⟩:=I5 h
   rw[←hw]at hO
   exact hK _ _ _ hO trivial
  rintro v L H hb hO;cases hb;clear h hl hx;cbv;exact hKD _ _ _ hO trivial
 cases h
theorem k122 (N n:Nat) (ih57:K57 N n) (ih158:Ai9 N n):Aq2 N (n+1):=by
 intro aG aA aK aV r h
 unfold W7 at h
 obtain⟨⟨w0,u0⟩,h1,hr⟩:=bind_some h;clear h;have hr:=D3 hr;subst hr;have h:=h1;clear h1;refine BZ cf122 L4 func122 (by rfl) (by kernel_rfl) call122 ntmps122 (by rfl) (fun _=>rfl) ?_;intro yv I D hI hD hy tl F E H K hE hO hK hKD
 have hO:C3 (I (List.map (fun(x:B3)=>[(D0 x)]) (w0++[])++tl)) F [] H:=by rw[append_nil];exact hO
 cbv;refine JI hE hy.1 ?_;cbv;refine C9 hE hO fun b1 H hO=>?_;cbv;refine A5 hE h (fun _ h=>?_) fun _ h=>?_
 ·cbv;obtain⟨w3,w4,s7,hx,h1,he⟩:=Y0 h;clear h;have h:=h1;clear h1
  rw[he,append_assoc]at hO
  clear he;refine VK cf122 hE L4 (γ:=Unit) (fun s2 g=>[(5,.v (.eref [.eref (D1 aG) 0] 0)),(6,.v (.eref (D6 aA) 0)),(7,.v (.eref [sr eAu3 aK] 0)),(9,.v (.eref [yv] 0)),(10,.v (.ref b1 0)),fi 11 s2]) (fun s2 g w H1=>C3 (I (List.map (fun(x:B3)=>[(D0 x)]) w++tl)) F [cb b1 [.bool false]] H1) (fun x e l w H1=>e= .exit 1∧l=[(10,.v (.ref b1 0))]∧C3 (I (List.map (fun(x:B3)=>[(D0 x)]) w++tl)) F [cb b1 [.bool false]] H1) (fun e l H1=>(e= .ret∧l=[(10,.v (.ref b1 0))]∧C3 D F [cb b1 [.bool false]] H1)) (by kernel_rfl) ?_ (w':=w4++[]) () hx ?_ ?_ ?_ ?_
  ·rintro s2 _ w5 w6 H o hO h;clear hx
   skip
   cbv;refine E0 hE ?_;cbv;refine A5 hE h (fun _ h=>?_) fun _ h=>?_
   ·cbv;refine C7 hE (g:=fun r8=>.bool r8) h (c139 N aG aA aK s2) (.refl _) fun r8 h=>?_;cbv;refine A5 hE h (fun _ h=>?_) fun _ h=>?_
    ·cbv;refine C1 hE eAv0 h fun x9 h=>?_;cbv;refine C7 hE (g:=fun r10=>(Bb r10)) h (c116 N x9) (.refl _) fun r10 h=>?_;cbv;obtain⟨w11,h1,he⟩:=Cm h;clear h;have h:=h1;clear h1
     rw[he,append_assoc]at hO
     clear he;have hO:C3 (I ([.agg [vi r10.Time,vi r10.Source,vi r10.Seq,vi 0,sr eAu5 ([]),sr eAu3 ([(⟨aA.Var,s2⟩:A3)])]]::(List.map (fun(x:B3)=>[(D0 x)]) (w11++w6)++tl))) F [cb b1 [.bool false]] _:=hO;refine Mv hE hI hD hy hO (.cons (.agg (.cons (.refl _) (.cons (.refl _) (.cons (.refl _) (.cons (.refl _) (.cons (.lit _ (D5)) (.cons (.lit _ (E5 ((eAv6 (⟨aA.Var,s2⟩:A3)).symm) (D5))) (.refl _)))))))) (.refl _)) (fun H hO=>?_) (fun H hO=>?_)
     ·cbv;refine SC hE (nt_eq _) ?_;cbv;obtain⟨hw,rfl⟩:=I5 h
      rw[←hw]at hO
      exact⟨_,(),rfl,.e2 (.e4 .z),rfl,hO⟩
     clear h;cbv;refine SB hE (nt_eq _) ?_;cbv;refine B0 hE hO 0 rfl rfl fun H hO=>?_;cbv;exact .inr ⟨_,⟨rfl,rfl,hO⟩,.e rfl .z,rfl⟩
    cbv;obtain⟨hw,rfl⟩:=I5 h
    rw[←hw]at hO
    exact⟨_,(),rfl,.e2 (.e4 .z),rfl,hO⟩
   cbv;obtain⟨hw,rfl⟩:=I5 h
   rw[←hw]at hO
   exact .inl ⟨_,_,rfl,⟨rfl,rfl,hO⟩,.e rfl .z,rfl⟩
  ·exact .e2 (.e4 .z)
  ·exact hO
  ·rintro e l H ⟨rfl,rfl,hO⟩;clear hx;cbv;refine B0 hE hO 0 rfl rfl fun H hO=>?_;cbv;refine B1 hE hO 0 rfl ?_;cbv;obtain⟨hw,_⟩:=I5 h
   rw[←hw]at hO
   exact hK _ _ _ hO rfl
  rintro e l H hX;obtain⟨rfl,rfl,hO⟩:=hX;clear h;cbv;refine B1 hE hO 0 rfl ?_;cbv;exact hKD _ _ _ hO rfl
 cbv;refine A5 hE h (fun _ h=>?_) fun _ h=>?_
 ·cbv;cases h
 cbv;obtain⟨w13,w14,s12,hx,h1,he⟩:=Y0 h;clear h;have h:=h1;clear h1
 rw[he,append_assoc]at hO
 clear he;refine J4 cf122 hE L4 (fun e l H1=>(e= .normal∧l=[fi 3 aV,(5,.v (.eref [.eref (D1 aG) 0] 0)),(6,.v (.eref (D6 aA) 0)),(7,.v (.eref [sr eAu3 aK] 0)),(9,.v (.eref [yv] 0)),(10,.v (.ref b1 0)),(88,.v (.bool s12))]∧C3 (I (List.map (fun(x:B3)=>[(D0 x)]) (w14++[])++tl)) F [cb b1 [.bool false]] H1)∨(False)) (by kernel_rfl) ?_ ?_
 ·clear h;have h:=hx;clear hx;cbv;refine A5 hE h (fun _ h=>?_) fun _ h=>?_
  ·cbv;obtain⟨hw,rfl⟩:=I5 h
   rw[←hw]at hO
   exact⟨_,.inl ⟨rfl,rfl,hO⟩,.e rfl (.e2 (.e4 .z)),rfl⟩
  cbv;refine A5 hE h (fun _ h=>?_) fun _ h=>?_
  ·cbv;obtain⟨hw,rfl⟩:=I5 h
   rw[←hw]at hO
   exact⟨_,.inl ⟨rfl,rfl,hO⟩,.e rfl (.e2 (.e4 .z)),rfl⟩
  cbv;obtain⟨hw,rfl⟩:=I5 h
  rw[←hw]at hO
  exact⟨_,.inl ⟨rfl,rfl,hO⟩,.e rfl (.e2 (.e4 .z)),rfl⟩
 clear hx;rintro e l H hX
 rcases hX with hX|hX
 ·obtain⟨rfl,rfl,hO⟩:=hX;cbv;refine A5 hE h (fun _ h=>?_) fun _ h=>?_
  ·cbv;obtain⟨l15,hl,h⟩:=bind_some h;obtain⟨w16,h1,he⟩:=Cm h;clear h;have h:=h1;clear h1
   rw[he,append_assoc]at hO
   clear he
   rw[List.map_append,append_assoc]at hO
   refine Qs hE hI hD hy (ih158 aG aA aK aV ([]) ([]) l15 hl) hO (.cons (.refl _) (.cons (.refl _) (.cons (.refl _) (.cons (.refl _) (.cons (.lit _ (D5)) (.cons (.lit _ (D5)) (.refl _))))))) (fun v H hb hO=>?_) (fun v H hb hO=>?_)
   ·cases hb;clear hl;cbv;refine B0 hE hO 0 rfl rfl fun H hO=>?_;cbv;refine B1 hE hO 0 rfl ?_;cbv;obtain⟨hw,_⟩:=I5 h
    rw[←hw]at hO
    exact hK _ _ _ hO rfl
   cases hb;clear h hl;cbv;refine B0 hE hO 0 rfl rfl fun H hO=>?_;cbv;refine B1 hE hO 0 rfl ?_;cbv;exact hKD _ _ _ hO rfl
  cbv;cases h
 exact hX.elim
theorem k158 (N n:Nat) (ih57:K57 N n) (ih158:Ai9 N n):Ai9 N (n+1):=by
 intro aG aA aK aV bG aF r h
 unfold Q0 at h
 obtain⟨⟨w0,u0⟩,h1,hr⟩:=bind_some h;clear h;have hr:=D3 hr;subst hr;have h:=h1;clear h1;refine BZ cf158 L4 func158 (by rfl) (by kernel_rfl) call158 ntmps158 (by rfl) (fun _=>rfl) ?_;intro yv I D hI hD hy tl F E H K hE hO hK hKD
 have hO:C3 (I (List.map (fun(x:B3)=>[(D0 x)]) (w0++[])++tl)) F [] H:=by rw[append_nil];exact hO
 cbv;refine JI hE hy.1 ?_;cbv;refine C9 hE hO fun b1 H hO=>?_;cbv;refine E0 hE ?_;cbv;refine E0 hE ?_;cbv;obtain⟨w3,w4,s2,hx,h1,he⟩:=Y0 h;clear h;have h:=h1;clear h1
 rw[he,append_assoc]at hO
 clear he;refine J4 cf158 hE L4 (fun e l H1=>(match(generalizing:=false) s2 with| .inl y=>e= .normal∧l=[(7,.v (.eref [.eref (D1 aG) 0] 0)),(8,.v (.eref (D6 aA) 0)),(9,.v (.eref [sr eAu3 aK] 0)),(10,.v (.eref [vi aV] 0)),(11,.v (.eref [sr eAu5 bG] 0)),(12,.v (.eref [sr eAu3 aF] 0)),(13,.v (.eref [yv] 0)),(14,.v (.ref b1 0)),(15,.v (.eref [vi (Ar.len bG)] 0))]∧C3 (I (List.map (fun(x:B3)=>[(D0 x)]) (w4++[])++tl)) F [cb b1 [.bool false]] H1| .inr y=>e= .ret∧l=[(14,.v (.ref b1 0))]∧C3 (I (List.map (fun(x:B3)=>[(D0 x)]) (w4++[])++tl)) F [cb b1 [.bool y]] H1)∨((e= .ret∧l=[(14,.v (.ref b1 0))]∧C3 D F [cb b1 [.bool false]] H1))) (by kernel_rfl) ?_ ?_
 ·clear h;have h:=hx;clear hx;cbv;refine A5 hE h (fun hc h=>?_) (fun hc h=>?_)
  ·cbv;refine C7 hE (g:=fun r5=>sr eAu5 r5) h (fun r5 hx=>Oa (c218 N bG r5 hx)) (.refl _) fun r5 h=>?_;cbv;obtain⟨w6,h1,he⟩:=Cm h;clear h;have h:=h1;clear h1
   rw[he,append_assoc]at hO
   clear he;have hO:C3 (I ([.agg [vi 0,vi 0,vi 0,vi 0,sr eAu5 r5,sr eAu3 aF]]::(List.map (fun(x:B3)=>[(D0 x)]) (w6++(w4++[]))++tl))) F [cb b1 [.bool false]] _:=hO;refine Mv hE hI hD hy hO (.refl _) (fun H hO=>?_) (fun H hO=>?_)
   ·cbv;refine SC hE (nt_eq _) ?_;cbv;refine A5 hE h (fun hc h=>?_) (fun hc h=>?_)
    ·cbv;refine B0 hE hO 0 rfl rfl fun H hO=>?_;cbv;obtain⟨hw,rfl⟩:=I5 h
     rw[←hw]at hO
     exact⟨_,.inl ⟨rfl,rfl,hO⟩,.e rfl .z,rfl⟩
    cbv;obtain⟨hw,rfl⟩:=I5 h
    rw[←hw]at hO
    exact⟨_,.inl ⟨rfl,rfl,hO⟩,.e rfl (.e4 (.e4 .z)),rfl⟩
   clear h;cbv;refine SB hE (nt_eq _) ?_;cbv;refine B0 hE hO 0 rfl rfl fun H hO=>?_;cbv;exact⟨_,.inr (⟨rfl,rfl,hO⟩),.e rfl .z,rfl⟩
  cbv;obtain⟨hw,rfl⟩:=I5 h
  rw[←hw]at hO
  exact⟨_,.inl ⟨rfl,rfl,hO⟩,.e rfl (.e4 (.e4 .z)),rfl⟩
 clear hx;rintro e l H hX
 rcases hX with hX|hX
 ·rcases s2 with y7|y34
  ·obtain⟨rfl,rfl,hO⟩:=hX;cbv;obtain⟨w9,w10,s8,hx,h1,he⟩:=Y0 h;clear h;have h:=h1;clear h1
   rw[he,append_assoc]at hO
   clear he;refine J4 cf158 hE L4 (fun e l H1=>(e= .normal∧l=[(7,.v (.eref [.eref (D1 aG) 0] 0)),(8,.v (.eref (D6 aA) 0)),(9,.v (.eref [sr eAu3 aK] 0)),(10,.v (.eref [vi aV] 0)),(11,.v (.eref [sr eAu5 bG] 0)),(12,.v (.eref [sr eAu3 aF] 0)),(13,.v (.eref [yv] 0)),(14,.v (.ref b1 0)),(15,.v (.eref [vi (Ar.len bG)] 0)),(16,.v (sr eAu3 s8))]∧C3 (I (List.map (fun(x:B3)=>[(D0 x)]) (w10++[])++tl)) F [cb b1 [.bool false]] H1)∨(False)) (by kernel_rfl) ?_ ?_
   ·clear h;have h:=hx;clear hx;cbv;refine A5 hE h (fun hc h=>?_) (fun hc h=>?_)
    ·cbv;refine A4 hE h (c140 N aK aF) (.refl _) fun r11 h=>?_;cbv;obtain⟨hw,rfl⟩:=I5 h
     rw[←hw]at hO
     exact⟨_,.inl ⟨rfl,rfl,hO⟩,.e2 (.e4 (.e4 .z)),rfl⟩
    cbv;obtain⟨hw,rfl⟩:=I5 h
    rw[←hw]at hO
    exact⟨_,.inl ⟨rfl,rfl,hO⟩,.e2 (.e4 (.e4 .z)),rfl⟩
   clear hx;rintro e l H hX
   rcases hX with hX|hX
   ·obtain⟨rfl,rfl,hO⟩:=hX;cbv;refine E0 hE ?_;cbv;refine Mx hE h fun h=>?_;cbv;refine C1 hE eAv2 h fun x12 h=>?_;cbv;refine IC hE h (ih57 aG x12 s8 aV) (.refl _) fun r13 v14 hv14 h=>?_;cbv;obtain⟨w18,w19,o22,hx,h1,he⟩:=Y0 h;clear h;have h:=h1;clear h1
    rw[he,append_assoc]at hO
    clear he;refine YQ cf158 hE L4 (ι:=Unit) (σ:=Unit) (R:=Unit) (enc:=fun(x:B3)=>[(D0 x)]) (fun _ w F1 H=>C3 (I (List.map (fun(x:B3)=>[(D0 x)]) w++tl)) F1 [cb b1 [.bool false]] H) (fun _ e w F1 H=>False) (fun e F1 H=>e= .ret∧C3 D F1 [cb b1 [.bool false]] H) (fun i _ y15=>[(7,.v (.eref [.eref (D1 aG) 0] 0)),(8,.v (.eref (D6 aA) 0)),(9,.v (.eref [sr eAu3 aK] 0)),(10,.v (.eref [vi aV] 0)),(11,.v (.eref [sr eAu5 bG] 0)),(12,.v (.eref [sr eAu3 aF] 0)),(13,.v (.eref [yv] 0)),(14,.v (.ref b1 0)),(15,.v (.eref [vi (Ar.len bG)] 0)),(17,.v (.eref (W1 y15) 0))]) (fun i _ y15 w F1 H=>C3 (I (List.map (fun(x:B3)=>[(D0 x)]) w++tl)) F1 [cb b1 [.bool false]] H) (fun _ _=>C3.stable (hI _) _) (fun _ _ _=>⟨fun h=>h.elim,fun _ _ h=>h.elim⟩) (fun _=>E3.con (C3.stable hD _)) (fun _ _ _ _=>C3.stable (hI _) _) hv14 hx (w':=w19++[]) hO (by decide) (fun _=>rfl) (by kernel_rfl) (by kernel_rfl) ?_ ?_ ?_ ?_ ?_
    ·rintro E i17 y15 _ w F16 H hE hO;clear hx h;cbv;exact⟨(),hO,.e2 (.e4 (.e4 .z)),rfl⟩
    ·rintro E i17 _ y15 _ w20 w21 F16 H o hE hF h hO;clear hx;cbv;obtain⟨w24,w25,s23,hx,h1,he⟩:=Y0 h;clear h;have h:=h1;clear h1
     rw[he,append_assoc]at hO
     clear he;refine J4 cf158 hE L4 (fun e l H1=>(e= .normal∧l=[(7,.v (.eref [.eref (D1 aG) 0] 0)),(8,.v (.eref (D6 aA) 0)),(9,.v (.eref [sr eAu3 aK] 0)),(11,.v (.eref [sr eAu5 bG] 0)),(12,.v (.eref [sr eAu3 aF] 0)),(13,.v (.eref [yv] 0)),(14,.v (.ref b1 0)),(15,.v (.eref [vi (Ar.len bG)] 0)),(17,.v (.eref (W1 y15) 0)),fi 18 s23]∧C3 (I (List.map (fun(x:B3)=>[(D0 x)]) (w25++w21)++tl)) F16 [cb b1 [.bool false]] H1)∨(False)) (by kernel_rfl) ?_ ?_
     ·clear h;have h:=hx;clear hx;cbv;refine A5 hE h (fun hc h=>?_) (fun hc h=>?_)
      ·cbv;refine A4 hE h (c142 N y15.s) (.refl _) fun r26 h=>?_;cbv;obtain⟨hw,rfl⟩:=I5 h
       rw[←hw]at hO
       exact⟨_,.inl ⟨rfl,rfl,hO⟩,.e2 (.e4 (.e4 .z)),rfl⟩
      cbv;obtain⟨hw,rfl⟩:=I5 h
      rw[←hw]at hO
      exact⟨_,.inl ⟨rfl,rfl,hO⟩,.e2 (.e4 (.e4 .z)),rfl⟩
     clear hx;rintro e l H hX
     rcases hX with hX|hX
     ·obtain⟨rfl,rfl,hO⟩:=hX;cbv;refine A4 hE h (c141 N aF y15.s) (.refl _) fun r27 h=>?_;cbv;refine A5 hE h (fun hc h=>?_) (fun hc h=>?_)
      ·cbv;obtain⟨hw,rfl⟩:=I5 h
       rw[←hw]at hO
       exact⟨_,rfl,hO⟩
      cbv;refine YP hE (f:=eAu5) N2 h fun l28 h=>?_;cbv;refine Ns (f:=eAu5) hE N2 (by decide) (l:=l28) (m:=[y15.d]) (.refl _) (.lstc (.eq (eAu7 y15.d) (.refl _)) (.lst0)) h fun l29 h=>?_;cbv;refine C7 hE (g:=fun r30=>sr eAu3 r30) h (c140 N aF y15.s) (.refl _) fun r30 h=>?_;cbv;obtain⟨l31,hl,h⟩:=bind_some h;obtain⟨w32,h1,he⟩:=Cm h;clear h;have h:=h1;clear h1
      rw[he,append_assoc]at hO
      clear he
      rw[List.map_append,append_assoc]at hO
      refine Qs hE hI hD hy (ih158 aG aA aK s23 l29 r30 l31 hl) hO (.refl _) (fun v H hb hO=>?_) (fun v H hb hO=>?_)
      ·cases hb;clear hl;cbv;refine SC hE (nt_eq _) ?_;cbv;obtain⟨hw,rfl⟩:=I5 h
       rw[←hw]at hO
       exact⟨_,rfl,hO⟩
      cases hb;clear h hl;cbv;refine SB hE (nt_eq _) ?_;cbv;refine B0 hE hO 0 rfl rfl fun H hO=>?_;cbv
      first|exact .inr ⟨rfl,rfl,hO⟩|exact .inr (hO)
     exact hX.elim
    ·rintro d33 _ H rfl hd hO;have hO:C3 (I (List.map (fun(x:B3)=>[(D0 x)]) (w19++[])++tl)) F [cb b1 [.bool false],.blk d33 DB] H:=C3.dblk hd hO;clear hd hx;cbv;refine B0 hE hO 0 rfl rfl fun H hO=>?_;cbv;refine Kv hE hO 1 rfl fun H hO=>?_;cbv;refine B1 hE hO 0 rfl ?_;cbv;obtain⟨hc,h⟩:=NE h;obtain⟨hw,_⟩:=I5 h
     rw[←hw]at hO
     exact hK _ _ _ hO (congrArg V.bool hc)
    ·rintro _ _ _ _ _ _ h;exact h.elim
    rintro d33 e H hd ⟨rfl,hO⟩;have hO:C3 D F [cb b1 [.bool false],.blk d33 DB] H:=C3.dblk hd hO;clear hd hx h;cbv;refine Kv hE hO 1 rfl fun H hO=>?_;cbv;refine B1 hE hO 0 rfl ?_;cbv;exact hKD _ _ _ hO rfl
   exact hX.elim
  obtain⟨rfl,rfl,hO⟩:=hX;cbv;refine B1 hE hO 0 rfl ?_;cbv;obtain⟨hc,h⟩:=NE h;obtain⟨hw,_⟩:=I5 h
  rw[←hw]at hO
  exact hK _ _ _ hO (congrArg V.bool hc)
 obtain⟨rfl,rfl,hO⟩:=hX;clear h;cbv;refine B1 hE hO 0 rfl ?_;cbv;exact hKD _ _ _ hO rfl
theorem Mh (N:Nat):∀n,K57 N n∧Aq3 N n∧Aq2 N n∧Ai9 N n:=by
 intro n
 induction n with
 |zero=>exact⟨(by intro aG aA aK aV r h;unfold M4 at h;cases h),(by intro aP bC bV bW r h;unfold R9 at h;cases h),(by intro aG aA aK aV r h;unfold W7 at h;cases h),(by intro aG aA aK aV bG aF r h;unfold Q0 at h;cases h)⟩
 |succ n ih=>
  obtain⟨ih57,ih121,ih122,ih158⟩:=ih;exact⟨k57 N n ih121,k121 N n ih122,k122 N n ih57 ih158,k158 N n ih57 ih158⟩
theorem c57 (N n aG aA aK aV r)(h:M4 N n aG aA aK aV=some r):Ij prog 57 [.eref (D1 aG) 0,(C0 aA),sr eAu3 aK,vi aV] (fun v=>Ok prog v (r.map fun(x:B3)=>[(D0 x)])):=(Mh N n).1 aG aA aK aV r h
theorem c58 {cmp:A1→A1→Option Int}{g:Nat}{C:List V}(eg:∀vals w,(callFunc g vals).run prog w= .ok (.enter g vals) w)(hc:∀y1 y2 r,cmp y1 y2=some r→B6 prog g ([(C8 y1),(C8 y2)]++C) (vi r)){l r:List A1}(h:IY cmp l=some r):
 QZ prog 58 (.func (.func g) [] C) 5 (lst eAu5 l) (lst eAu5 r):=LZ Go.Proofs.Tryz.sorts58 call58 (va:=fun x=>(J1 x)) eAu7 (fun _=>rfl) eg hc h
def cf15 :Cf:=⟨[9,5000009],[(3000011,0),(3000011,1),(3000011,2),(3000011,3)],[],[2000011],[],[]⟩
set_option maxHeartbeats 2000000 in
theorem c15 (N aA aF r) (h:EV N aA aF=some r):B6 prog 15 [(C0 aA),sr eAu4 aF] (.tup [sr eAu5 r.1,vi r.2]):=by
 unfold EV at h
 refine NZ (T:=TT) cf15 L4 func15 (by rfl) (by kernel_rfl) call15 ntmps15 (by rfl) (by rfl) ?_;intro E H0 K hE hK hF;have hO:C3 Eq H0 [] H0:=.start H5 rfl;cbv;refine A4 hE h (c55 N aA) (.refl _) fun r1 h=>?_;cbv;refine A5 hE h (fun _ h=>?_) fun _ h=>?_
 ·cbv;cases h
 cbv;refine A4 hE h (c56 N aF) (.refl _) fun r2 h=>?_;cbv;refine A5 hE h (fun _ h=>?_) fun _ h=>?_
 ·cbv;cases h
 cbv;refine Sz hE (f0:=eAu5) hO fun q4 b3 H hq4 hO=>?_;cbv;refine IC hE h (c57 N N (⟨aF,0⟩:D4) aA ([]) 0) (.cons (.refl _) (.cons (.refl _) (.cons (.lit _ (D5)) (.refl _)))) fun r5 v6 hv6 h=>?_;cbv;obtain⟨o12,hx,h⟩:=bind_some h;refine Ku cf15 hE L4 (ι:=Unit) (enc:=fun(x:B3)=>[(D0 x)]) (fun(s8:(List A1)) F H=>∃g:OG,(Aa g (Ar.len s8))∧C3 Eq F [cb b3 [.own g.id g.lo g.n],ob g 5 eAu5 s8] H) (fun(r:Unit) e F H=>False) (fun i s8 y7=>[(9,.v (.ref b3 0)),(10,.v (.eref (W1 y7) 0))]) (fun i s8 y7 F H=>∃g:OG,(Aa g (Ar.len s8))∧C3 Eq F [cb b3 [.own g.id g.lo g.n],ob g 5 eAu5 s8] H) (fun _=>E3.ex fun _=>C3.stable H5 _) (fun _ _=>⟨fun h=>h.elim,fun _ _ h=>h.elim⟩) (fun _ _ _=>E3.ex fun _=>C3.stable H5 _) hv6 hx (⟨q4,hq4,hO⟩) (by decide) (fun _=>rfl) (by kernel_rfl) (by kernel_rfl) ?_ ?_ ?_ ?_
 ·rintro E i10 y7 s8 F9 H hE ⟨q11,hq11,hO⟩;clear hx h;cbv;exact⟨(),⟨q11,hq11,hO⟩,.e2 .z,rfl⟩
 ·rintro E i10 _ y7 s8 F9 H o hE hF h ⟨q11,hq11,hO⟩;clear hx;cbv;obtain⟨s13,hx,h⟩:=bind_some h;refine J4 cf15 hE L4 (fun e l H1=>∃u1:OG,Aa u1 (Ar.len s13)∧e= .normal∧l=[]∧C3 Eq F9 [cb b3 [.own u1.id u1.lo u1.n],ob u1 5 eAu5 s13] H1) (by kernel_rfl) ?_ ?_
  ·clear h;have h:=hx;clear hx;cbv;obtain⟨l215,el215,h⟩:=bind_some h;obtain⟨u253_0,eu253_0,h⟩:=bind_some h;obtain⟨l295,el295,h⟩:=bind_some h
   repeat' first|refine And.intro ?_ ?_|(refine B1 hE hO 0 rfl ?_;cbv)|(refine Nr hE hq11 ?_;cbv)|(refine Qq (f:=eAu5) hE N2 (by decide) hO hq11 1 rfl (m:=[(⟨(⟨0,0,0⟩:O7),0,[]⟩:A1)]) (Lg (f:=eAu5) hE N2 (.lstc (.eq (eAu7 (⟨(⟨0,0,0⟩:O7),0,[]⟩:A1)) (.agg (.cons (.refl _) (.cons (.refl _) (.cons (.refl _) (.cons (.refl _) (.cons (.lit _ (D5)) (.refl _)))))))) (.lst0))) (K7 el215) fun l215 q214 H hq214 hO hh=>?_;obtain rfl:=D3 hh;cbv)|(refine Ap hE hO hq214 1 rfl (K7 eu253_0) fun hh=>?_;clear hh;cbv)|(refine EH hE (f:=eAu5) (esz:=5) (tz:=5) (off:=0) (u:=(fun x294:A1=>y7.d)) (fun _=>⟨_,.eq (eAu7 _) (.refl _),(by rw[eAu7];rfl),N2 _,rfl⟩) (by decide) hO hq214 1 rfl (K7 el295) fun l295 H hq214 hh hO=>?_;obtain rfl:=D3 hh;cbv)|(refine B0 hE hO 0 rfl rfl fun H hO=>?_;cbv)|(have h:=D3 h;subst h;exact⟨_,⟨q214,hq214,rfl,rfl,hO⟩,.z,rfl⟩)
  clear hx;rintro e l H ⟨q414,hq414,rfl,rfl,hO⟩;cbv;cases h;exact⟨_,rfl,⟨q414,hq414,hO⟩⟩
 ·rintro d415 s418 H rfl hd ⟨q419,hq419,hO⟩;have hO:C3 Eq H0 [cb b3 [.own q419.id q419.lo q419.n],ob q419 5 eAu5 s418,.blk d415 DB] H:=C3.dblk hd hO;clear hd;clear hx;cbv;refine A5 hE h (fun _ h=>?_) fun _ h=>?_
  ·cbv;cases h
  cbv;refine B1 hE hO 0 rfl ?_;cbv;refine Nr hE hq419 ?_;cbv;obtain⟨s421,hx,h⟩:=bind_some h;refine E6 cf15 hE L4 (fun s420=>[(9,.v (.ref b3 0)),(42,.v (.own q419.id q419.lo q419.n)),fi 43 (Ar.len s418),fi 44 s420]) (fun s420 H1=>C3 Eq H0 [cb b3 [.own q419.id q419.lo q419.n],ob q419 5 eAu5 s418,.blk d415 DB] H1) (fun x e l H1=>e= .exit 2∧l=[(9,.v (.ref b3 0))]∧C3 Eq H0 [cb b3 [.own q419.id q419.lo q419.n],ob q419 5 eAu5 s418,.blk d415 DB] H1) (by kernel_rfl) ?_ hx ?_ hO ?_
  ·intro s420 H o hO h;clear hx;cbv;refine A5 hE h (fun _ h=>?_) fun _ h=>?_
   ·cbv;refine Ap hE hO hq419 1 rfl h fun h=>?_;cbv;refine Bx hE eAu7 hO hq419 1 rfl h fun x422 h=>?_;cbv;refine A4 hE h (c29 N N x422) (.refl _) fun r423 h=>?_;cbv;refine A5 hE h (fun _ h=>?_) fun _ h=>?_
    ·cbv;cases h
    cbv;cases h;exact⟨_,rfl,.e4 .z,rfl,hO⟩
   cbv;cases h;exact⟨_,_,rfl,⟨rfl,rfl,hO⟩,.e rfl .z,rfl⟩
  ·exact .e4 .z
  clear hx;rintro e l H ⟨rfl,rfl,hO⟩;cbv;refine B1 hE hO 0 rfl ?_;cbv;refine SA hE hO hq419 1 rfl h (fun l424 hx=>c58 (g:=21) (C:=[]) call21 (fun y1 y2 r hx=>c21 N N y1 y2 r hx) hx) fun l424 H hq419 hO h=>?_;cbv;refine B1 hE hO 0 rfl ?_;cbv;refine Kv hE hO 2 rfl fun H hO=>?_;cbv;cases h;exact hF _ (CS.tup [.bad,vi 0] 0 (by simp)) q419 _ _ 1 _ _ hO rfl (Dw hE hq419) (.tup (.refl _))
 rintro d r e H rfl hd hO;exact hO.elim
def cf69 :Cf:=⟨[],[(1,14)],[],[],[],[]⟩
theorem c69 (N aC aD r)(h:JK N aC aD=some r):B6 prog 69 [(Bb aC),(Bb aD)] (vi r):=by
 unfold JK at h
 refine J2 cf69 func69 call69 ntmps69 ?_;intro E H0 K hE hK hO;cbv;refine C7 hE (g:=fun r1=>vi r1) h (c70 N aC.Time aD.Time) (.refl _) fun r1 h=>?_;cbv;refine C7 hE (g:=fun r2=>vi r2) h (c70 N aC.Source aD.Source) (.refl _) fun r2 h=>?_;cbv;refine A4 hE h (c70 N aC.Seq aD.Seq) (.refl _) fun r3 h=>?_;cbv;refine A4 hE h (c68 N ([r1,r2,r3])) (.cons (.lit _ (E5 (rfl) (E5 (rfl) (E5 (rfl) (D5))))) (.refl _)) fun r4 h=>?_;cbv;cases h;exact hK hO (.refl _)
theorem c146 (N aI r) (h:FZ N aI=some r):B6 prog 146 [sr eAv4 aI] (.bool r):=by
 unfold FZ at h
 refine J2 cf0 func146 call146 ntmps146 ?_;intro E H0 K hE hK hO;cbv;obtain⟨s2,hx,h⟩:=bind_some h;refine E6 cf0 hE L4 (fun s1=>[(0,.v (sr eAv4 aI)),fi 3 s1]) (fun s1 H1=>C3 Eq H0 [] H1) (fun x e l H1=>match(generalizing:=false) x with| .inl y=>e= .exit 0∧l=[(0,.v (sr eAv4 aI))]∧C3 Eq H0 [] H1| .inr y=>e= .ret∧l=[(2,.b false)]∧C3 Eq H0 [] H1) (by kernel_rfl) ?_ hx ?_ hO ?_
 ·intro s1 H o hO h;clear hx;cbv;refine E0 hE ?_;cbv;refine A5 hE h (fun _ h=>?_) fun _ h=>?_
  ·cbv;refine C1 hE eAu9 h fun x3 h=>?_;cbv;refine A5 hE h (fun _ h=>?_) fun _ h=>?_
   ·cbv;cases h;exact⟨_,_,rfl,⟨rfl,rfl,hO⟩,.b rfl (.z),rfl⟩
   cbv;cases h;exact⟨_,rfl,.e2 .z,rfl,hO⟩
  cbv;cases h;exact⟨_,_,rfl,⟨rfl,rfl,hO⟩,.e rfl .z,rfl⟩
 ·exact .e2 .z
 clear hx
 rcases s2 with y4|y5
 ·rintro e l H ⟨rfl,rfl,hO⟩;cbv;refine E0 hE ?_;cbv;cases h;exact hK hO (.refl _)
 rintro e l H ⟨rfl,rfl,hO⟩;cbv;cases h;exact hK hO (.refl _)
theorem c94 (N aB r)(h:Iw N aB=some r):B6 prog 94 [(Q4 aB)] (.bool r):=by
 unfold Iw at h
 refine J2 cf0 func94 call94 ntmps94 ?_;intro E H0 K hE hK hO;cbv;refine A4 hE h (c146 N aB.Values) (.refl _) fun r1 h=>?_;cbv;cases h;exact hK hO (.refl _)
theorem c36 (N aI r) (h:CF N aI=some r):B6 prog 36 [sr eAu4 aI] (.bool r):=by
 unfold CF at h
 refine J2 cf0 func36 call36 ntmps36 ?_;intro E H0 K hE hK hO;cbv;obtain⟨s2,hx,h⟩:=bind_some h;refine E6 cf0 hE L4 (fun s1=>[(0,.v (sr eAu4 aI)),fi 3 s1]) (fun s1 H1=>C3 Eq H0 [] H1) (fun x e l H1=>match(generalizing:=false) x with| .inl y=>e= .exit 0∧l=[(0,.v (sr eAu4 aI))]∧C3 Eq H0 [] H1| .inr y=>e= .ret∧l=[(2,.b false)]∧C3 Eq H0 [] H1) (by kernel_rfl) ?_ hx ?_ hO ?_
 ·intro s1 H o hO h;clear hx;cbv;refine E0 hE ?_;cbv;refine A5 hE h (fun _ h=>?_) fun _ h=>?_
  ·cbv;refine C1 hE eAv0 h fun x3 h=>?_;cbv;refine A4 hE h (c94 N x3) (.refl _) fun r4 h=>?_;cbv;refine A5 hE h (fun _ h=>?_) fun _ h=>?_
   ·cbv;cases h;exact⟨_,_,rfl,⟨rfl,rfl,hO⟩,.b rfl (.z),rfl⟩
   cbv;cases h;exact⟨_,rfl,.e2 .z,rfl,hO⟩
  cbv;cases h;exact⟨_,_,rfl,⟨rfl,rfl,hO⟩,.e rfl .z,rfl⟩
 ·exact .e2 .z
 clear hx
 rcases s2 with y5|y6
 ·rintro e l H ⟨rfl,rfl,hO⟩;cbv;refine E0 hE ?_;cbv;cases h;exact hK hO (.refl _)
 rintro e l H ⟨rfl,rfl,hO⟩;cbv;cases h;exact hK hO (.refl _)
theorem c100 (N:Nat):∀n aA r,S4 N n aA=some r→B6 prog 100 [(C0 aA)] (sr eAv1 r):=by
 intro n
 induction n with
 |zero=>intro aA r h;cases h
 |succ n ih=>
 intro aA r h
 unfold S4 at h
 refine J2 cf0 func100 call100 ntmps100 ?_;intro E H0 K hE hK hO;cbv;replace hO:=hO.tl0 (t:=.full) rfl;obtain⟨s3,hx,h⟩:=bind_some h;refine P5 cf0 hE L4 (γ:=E4) (fun s1 g=>[(1,.v (.eref (D6 aA) 0)),(3,.v (.sl (lst eAv1 s1.1) g)),fi 4 s1.2]) (fun s1 g H1=>T8 g∧C3 Eq H0 [.tl g] H1) (fun x e l H1=>∃u1:E4,T8 u1∧e= .exit 0∧l=[(3,.v (.sl (lst eAv1 x) u1))]∧C3 Eq H0 [.tl u1] H1) (by kernel_rfl) ?_ .full hx ?_ ?_ ?_
 ·rintro s1 t2 H o ⟨ht2,hO⟩ h;clear hx;cbv;refine E0 hE ?_;cbv;refine A5 hE h (fun _ h=>?_) fun _ h=>?_
  ·cbv;refine C1 hE eAv2 h fun x4 h=>?_;cbv;refine A4 hE h (ih x4) (.refl _) fun r5 h=>?_;cbv;refine Y5 (f:=eAv1) hE Ho (by decide) hO 0 rfl ht2 (l:=s1.1) (m:=r5) (.refl _) (.refl _) h fun l7 t6 H hO ht6 h=>?_;cbv;cases h;exact⟨_,t6,rfl,.e rfl (.e2 .z),rfl,ht6,hO⟩
  cbv;cases h;exact⟨_,_,rfl,⟨t2,ht2,rfl,rfl,hO⟩,.e rfl .z,rfl⟩
 ·exact .e rfl (.v (.slt _ (.lstc (.eq (eAv2 aA) (.refl _)) (.lst0))) (.e rfl (.z)))
 ·exact⟨trivial,hO⟩
 clear hx;rintro e l H ⟨t8,ht8,rfl,rfl,hO⟩;cbv;cases h;exact hK hO (.ro _ _)
theorem c132 (N:Nat):∀n aA bI r,U7 N n aA bI=some r→B6 prog 132 [(C0 aA),vi bI] (vi r):=by
 intro n
 induction n with
 |zero=>intro aA bI r h;cases h
 |succ n ih=>
 intro aA bI r h
 unfold U7 at h
 refine J2 cf0 func132 call132 ntmps132 ?_;intro E H0 K hE hK hO;cbv;obtain⟨s2,hx,h⟩:=bind_some h;refine E6 cf0 hE L4 (fun s1=>[fi 1 bI,(2,.v (.eref (D6 aA) 0)),fi 5 s1.1,fi 6 s1.2]) (fun s1 H1=>C3 Eq H0 [] H1) (fun x e l H1=>e= .exit 0∧l=[fi 5 x]∧C3 Eq H0 [] H1) (by kernel_rfl) ?_ hx ?_ hO ?_
 ·intro s1 H o hO h;clear hx;cbv;refine E0 hE ?_;cbv;refine A5 hE h (fun _ h=>?_) fun _ h=>?_
  ·cbv;refine C1 hE eAv2 h fun x3 h=>?_;cbv;refine A4 hE h (ih x3 bI) (.refl _) fun r4 h=>?_;cbv;cases h;exact⟨_,rfl,.e4 .z,rfl,hO⟩
  cbv;cases h;exact⟨_,_,rfl,⟨rfl,rfl,hO⟩,.e rfl .z,rfl⟩
 ·exact .e4 .z
 clear hx;rintro e l H ⟨rfl,rfl,hO⟩;cbv;cases h;exact hK hO (.refl _)
theorem c133 (N:Nat):∀n aA r,U9 N n aA=some r→B6 prog 133 [(C0 aA)] (vi r):=by
 intro n
 induction n with
 |zero=>intro aA r h;cases h
 |succ n ih=>
 intro aA r h
 unfold U9 at h
 refine J2 cf0 func133 call133 ntmps133 ?_;intro E H0 K hE hK hO;cbv;obtain⟨s2,hx,h⟩:=bind_some h;refine E6 cf0 hE L4 (fun s1=>[(1,.v (.eref (D6 aA) 0)),fi 3 s1.1,fi 4 s1.2]) (fun s1 H1=>C3 Eq H0 [] H1) (fun x e l H1=>e= .exit 0∧l=[fi 3 x]∧C3 Eq H0 [] H1) (by kernel_rfl) ?_ hx ?_ hO ?_
 ·intro s1 H o hO h;clear hx;cbv;refine E0 hE ?_;cbv;refine A5 hE h (fun _ h=>?_) fun _ h=>?_
  ·cbv;refine C1 hE eAv2 h fun x3 h=>?_;cbv;refine A4 hE h (ih x3) (.refl _) fun r4 h=>?_;cbv;cases h;exact⟨_,rfl,.e rfl (.e2 .z),rfl,hO⟩
  cbv;cases h;exact⟨_,_,rfl,⟨rfl,rfl,hO⟩,.e rfl .z,rfl⟩
 ·exact .e rfl (.e2 .z)
 clear hx;rintro e l H ⟨rfl,rfl,hO⟩;cbv;cases h;exact hK hO (.refl _)
theorem c174 (N:Nat):∀n aB bI r,V1 N n aB bI=some r→B6 prog 174 [(S2 aB),vi bI] (vi r):=by
 intro n
 induction n with
 |zero=>intro aB bI r h;cases h
 |succ n ih=>
 intro aB bI r h
 unfold V1 at h
 refine J2 cf0 func174 call174 ntmps174 ?_;intro E H0 K hE hK hO;cbv;obtain⟨s2,hx,h⟩:=bind_some h;refine E6 cf0 hE L4 (fun s1=>[fi 1 bI,(2,.v (.eref (Ay aB) 0)),fi 5 s1.1,fi 6 s1.2]) (fun s1 H1=>C3 Eq H0 [] H1) (fun x e l H1=>e= .exit 0∧l=[fi 5 x]∧C3 Eq H0 [] H1) (by kernel_rfl) ?_ hx ?_ hO ?_
 ·intro s1 H o hO h;clear hx;cbv;refine E0 hE ?_;cbv;refine A5 hE h (fun _ h=>?_) fun _ h=>?_
  ·cbv;refine C1 hE eAv9 h fun x3 h=>?_;cbv;refine A4 hE h (ih x3 bI) (.refl _) fun r4 h=>?_;cbv;cases h;exact⟨_,rfl,.e4 .z,rfl,hO⟩
  cbv;cases h;exact⟨_,_,rfl,⟨rfl,rfl,hO⟩,.e rfl .z,rfl⟩
 ·exact .e4 .z
 clear hx;rintro e l H ⟨rfl,rfl,hO⟩;cbv;cases h;exact hK hO (.refl _)
theorem c175 (N:Nat):∀n aB r,V0 N n aB=some r→B6 prog 175 [(S2 aB)] (vi r):=by
 intro n
 induction n with
 |zero=>intro aB r h;cases h
 |succ n ih=>
 intro aB r h
 unfold V0 at h
 refine J2 cf0 func175 call175 ntmps175 ?_;intro E H0 K hE hK hO;cbv;obtain⟨s2,hx,h⟩:=bind_some h;refine E6 cf0 hE L4 (fun s1=>[(1,.v (.eref (Ay aB) 0)),fi 3 s1.1,fi 4 s1.2]) (fun s1 H1=>C3 Eq H0 [] H1) (fun x e l H1=>e= .exit 0∧l=[fi 3 x]∧C3 Eq H0 [] H1) (by kernel_rfl) ?_ hx ?_ hO ?_
 ·intro s1 H o hO h;clear hx;cbv;refine E0 hE ?_;cbv;refine A5 hE h (fun _ h=>?_) fun _ h=>?_
  ·cbv;refine C1 hE eAv9 h fun x3 h=>?_;cbv;refine A4 hE h (ih x3) (.refl _) fun r4 h=>?_;cbv;cases h;exact⟨_,rfl,.e rfl (.e2 .z),rfl,hO⟩
  cbv;cases h;exact⟨_,_,rfl,⟨rfl,rfl,hO⟩,.e rfl .z,rfl⟩
 ·exact .e rfl (.e2 .z)
 clear hx;rintro e l H ⟨rfl,rfl,hO⟩;cbv;cases h;exact hK hO (.refl _)
theorem c134 (N aB r)(h:Cs N aB=some r):B6 prog 134 [(S2 aB)] (.bool r):=by
 unfold Cs at h
 refine J2 cf0 func134 call134 ntmps134 ?_;intro E H0 K hE hK hO;cbv;refine A4 hE h (c174 N N aB 200) (.refl _) fun r1 h=>?_;cbv;refine A5 hE h (fun _ h=>?_) fun _ h=>?_
 ·cbv;refine A4 hE h (c175 N N aB) (.refl _) fun r2 h=>?_;cbv;cases h;exact hK hO (.refl _)
 cbv;cases h;exact hK hO (.refl _)
theorem c75 (N aA r) (h:FW N aA=some r):B6 prog 75 [(C0 aA)] (.bool r):=by
 unfold FW at h
 refine J2 cf0 func75 call75 ntmps75 ?_;intro E H0 K hE hK hO;cbv;refine A4 hE h (c132 N N aA 150) (.refl _) fun r1 h=>?_;cbv;refine A5 hE h (fun _ h=>?_) fun _ h=>?_
 ·cbv;cases h;exact hK hO (.refl _)
 cbv;refine A4 hE h (c133 N N aA) (.refl _) fun r2 h=>?_;cbv;refine A5 hE h (fun _ h=>?_) fun _ h=>?_
 ·cbv;cases h;exact hK hO (.refl _)
 cbv;refine A4 hE h (c100 N N aA) (.refl _) fun r3 h=>?_;cbv;obtain⟨s5,hx,h⟩:=bind_some h;refine E6 cf0 hE L4 (fun s4=>[(3,.v (sr eAv1 r3)),fi 4 s4]) (fun s4 H1=>C3 Eq H0 [] H1) (fun x e l H1=>match(generalizing:=false) x with| .inl y=>e= .exit 0∧l=[]∧C3 Eq H0 [] H1| .inr y=>e= .ret∧l=[(2,.b false)]∧C3 Eq H0 [] H1) (by kernel_rfl) ?_ hx ?_ hO ?_
 ·intro s4 H o hO h;clear hx;cbv;refine E0 hE ?_;cbv;refine A5 hE h (fun _ h=>?_) fun _ h=>?_
  ·cbv;refine C1 hE eAv2 h fun x6 h=>?_;cbv;refine A4 hE h (c134 N x6.cL) (.refl _) fun r7 h=>?_;cbv;refine A5 hE h (fun _ h=>?_) fun _ h=>?_
   ·cbv;cases h;exact⟨_,_,rfl,⟨rfl,rfl,hO⟩,.b rfl (.z),rfl⟩
   cbv;cases h;exact⟨_,rfl,.e2 .z,rfl,hO⟩
  cbv;cases h;exact⟨_,_,rfl,⟨rfl,rfl,hO⟩,.z,rfl⟩
 ·exact .e2 .z
 clear hx
 rcases s5 with y8|y9
 ·rintro e l H ⟨rfl,rfl,hO⟩;cbv;cases h;exact hK hO (.refl _)
 rintro e l H ⟨rfl,rfl,hO⟩;cbv;cases h;exact hK hO (.refl _)
theorem c103 (N aA r)(h:Y2 N aA=some r):B6 prog 103 [(C0 aA)] (.bool r):=by
 unfold Y2 at h
 refine J2 cf0 func103 call103 ntmps103 ?_;intro E H0 K hE hK hO;cbv;cases h;exact hK hO (.refl _)
theorem c102 (N aA r)(h:V9 N aA=some r):B6 prog 102 [(C0 aA)] (.bool r):=by
 unfold V9 at h
 refine J2 cf0 func102 call102 ntmps102 ?_;intro E H0 K hE hK hO;cbv;refine A5 hE h (fun _ h=>?_) fun _ h=>?_
 ·cbv;cases h;exact hK hO (.refl _)
 cbv;refine A4 hE h (c103 N aA) (.refl _) fun r1 h=>?_;cbv;cases h;exact hK hO (.refl _)
theorem c104 (N aA r)(h:U8 N aA=some r):B6 prog 104 [(C0 aA)] (.bool r):=by
 unfold U8 at h
 refine J2 cf0 func104 call104 ntmps104 ?_;intro E H0 K hE hK hO;cbv;cases h;exact hK hO (.refl _)
def cf194 :Cf:=⟨[],[],[(11,6)],[],[],[]⟩
theorem c194 (N aA r) (h:DE N aA=some r):B6 prog 194 [(C0 aA)] (.bool r):=by
 unfold DE at h
 refine J2 cf194 func194 call194 ntmps194 ?_;intro E H0 K hE hK hO;cbv;refine A5 hE h (fun _ h=>?_) fun _ h=>?_
 ·cbv;refine E0 hE ?_;cbv;cases h;exact hK hO (.refl _)
 cbv;obtain⟨s1,hx,h⟩:=bind_some h;refine J4 cf194 hE L4 (fun e l H1=>e= .normal∧l=[(1,.v (.eref (D6 aA) 0)),fi 4 aA.Op,(11,.v (.bool s1))]∧C3 Eq H0 [] H1) (by kernel_rfl) ?_ ?_
 ·clear h;have h:=hx;clear hx;cbv;refine A5 hE h (fun _ h=>?_) fun _ h=>?_
  ·cbv;cases h;exact⟨_,⟨rfl,rfl,hO⟩,.e rfl (.e2 .z),rfl⟩
  cbv;refine A5 hE h (fun _ h=>?_) fun _ h=>?_
  ·cbv;cases h;exact⟨_,⟨rfl,rfl,hO⟩,.e rfl (.e2 .z),rfl⟩
  cbv;cases h;exact⟨_,⟨rfl,rfl,hO⟩,.e rfl (.e2 .z),rfl⟩
 clear hx;rintro e l H ⟨rfl,rfl,hO⟩;cbv;refine A5 hE h (fun _ h=>?_) fun _ h=>?_
 ·cbv;refine E0 hE ?_;cbv;cases h;exact hK hO (.refl _)
 cbv;refine A5 hE h (fun _ h=>?_) fun _ h=>?_
 ·cbv;refine E0 hE ?_;cbv;cases h;exact hK hO (.refl _)
 cbv;refine E0 hE ?_;cbv;cases h;exact hK hO (.refl _)
theorem c195 (N aA r)(h:Az N aA=some r):B6 prog 195 [(C0 aA)] (.bool r):=by
 unfold Az at h
 refine J2 cf0 func195 call195 ntmps195 ?_;intro E H0 K hE hK hO;cbv;refine A4 hE h (c102 N aA) (.refl _) fun r1 h=>?_;cbv;cases h;exact hK hO (.refl _)
theorem c196 (N bJ aQ bK r)(h:Z3 N bJ aQ bK=some r):B6 prog 196 [.bool bJ,vi aQ,vi bK] (.bool r):=by
 unfold Z3 at h
 refine J2 cf0 func196 call196 ntmps196 ?_;intro E H0 K hE hK hO;cbv;cases h;exact hK hO (.refl _)
def cf316 :Cf:=⟨[],[],[(4,4)],[],[],[]⟩
theorem c316 (N aL r) (h:DG N aL=some r):B6 prog 316 [vi aL] (vi r):=by
 unfold DG at h
 refine J2 cf316 func316 call316 ntmps316 ?_;intro E H0 K hE hK hO;cbv;obtain⟨s1,hx,h⟩:=bind_some h;refine J4 cf316 hE L4 (fun e l H1=>e= .normal∧l=[fi 3 aL,(4,.v (.bool s1))]∧C3 Eq H0 [] H1) (by kernel_rfl) ?_ ?_
 ·clear h;have h:=hx;clear hx;cbv;refine A5 hE h (fun _ h=>?_) fun _ h=>?_
  ·cbv;cases h;exact⟨_,⟨rfl,rfl,hO⟩,.e2 .z,rfl⟩
  cbv;refine A5 hE h (fun _ h=>?_) fun _ h=>?_
  ·cbv;cases h;exact⟨_,⟨rfl,rfl,hO⟩,.e2 .z,rfl⟩
  cbv;refine A5 hE h (fun _ h=>?_) fun _ h=>?_
  ·cbv;cases h;exact⟨_,⟨rfl,rfl,hO⟩,.e2 .z,rfl⟩
  cbv;refine A5 hE h (fun _ h=>?_) fun _ h=>?_
  ·cbv;cases h;exact⟨_,⟨rfl,rfl,hO⟩,.e2 .z,rfl⟩
  cbv;cases h;exact⟨_,⟨rfl,rfl,hO⟩,.e2 .z,rfl⟩
 clear hx;rintro e l H ⟨rfl,rfl,hO⟩;cbv;refine A5 hE h (fun _ h=>?_) fun _ h=>?_
 ·cbv;cases h;exact hK hO (.refl _)
 cbv;refine A5 hE h (fun _ h=>?_) fun _ h=>?_
 ·cbv;cases h;exact hK hO (.refl _)
 cbv;refine A5 hE h (fun _ h=>?_) fun _ h=>?_
 ·cbv;cases h;exact hK hO (.refl _)
 cbv;refine A5 hE h (fun _ h=>?_) fun _ h=>?_
 ·cbv;cases h;exact hK hO (.refl _)
 cbv;refine A5 hE h (fun _ h=>?_) fun _ h=>?_
 ·cbv;cases h;exact hK hO (.refl _)
 cbv;refine A5 hE h (fun _ h=>?_) fun _ h=>?_
 ·cbv;cases h;exact hK hO (.refl _)
 cbv;refine A5 hE h (fun _ h=>?_) fun _ h=>?_
 ·cbv;cases h;exact hK hO (.refl _)
 cbv;refine A5 hE h (fun _ h=>?_) fun _ h=>?_
 ·cbv;cases h;exact hK hO (.refl _)
 cbv;refine A5 hE h (fun _ h=>?_) fun _ h=>?_
 ·cbv;cases h;exact hK hO (.refl _)
 cbv;cases h;exact hK hO (.refl _)
theorem c317 (N aL r)(h:EA N aL=some r):B6 prog 317 [vi aL] (.tup [.bool r.1,.bool r.2]):=by
 unfold EA at h
 refine J2 cf0 func317 call317 ntmps317 ?_;intro E H0 K hE hK hO;cbv;cases h;exact hK hO (.refl _)
theorem c318 (N aJ r) (h:X3 N aJ=some r):B6 prog 318 [(D7 aJ)] (vi r):=by
 unfold X3 at h
 refine J2 cf0 func318 call318 ntmps318 ?_;intro E H0 K hE hK hO;cbv;refine A5 hE h (fun _ h=>?_) fun _ h=>?_
 ·cbv;cases h;exact hK hO (.refl _)
 cbv;refine A5 hE h (fun _ h=>?_) fun _ h=>?_
 ·cbv;refine A5 hE h (fun _ h=>?_) fun _ h=>?_
  ·cbv;cases h;exact hK hO (.refl _)
  cbv;refine A5 hE h (fun _ h=>?_) fun _ h=>?_
  ·cbv;cases h;exact hK hO (.refl _)
  cbv;cases h;exact hK hO (.refl _)
 cbv;refine A5 hE h (fun _ h=>?_) fun _ h=>?_
 ·cbv;cases h;exact hK hO (.refl _)
 cbv;refine A5 hE h (fun _ h=>?_) fun _ h=>?_
 ·cbv;cases h;exact hK hO (.refl _)
 cbv;cases h;exact hK hO (.refl _)
end Go.Ab
