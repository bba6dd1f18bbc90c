/- GVCo2 GVCo3 -/
import Derived.Test.YtjhobbohibnioaaGreatDoorC13
set_option linter.all false
open List (append_assoc append_nil)
open Go.Ab.Ar (an ar lst nt_eq)
namespace Go.Ab
open Go.RowKit Go.Proofs Go.Proofs.Tryz I6
variable [Ar][I6]
set_option maxRecDepth 100000
def cf335 :Cf:=⟨[4],[],[],[],[],[]⟩
theorem c335 (N aF bN r)(h:Ey N aF bN=some r):B8 prog 335 [(BJ aF),vi bN] (.tup [(D9 r.1),vi r.2]):=by
 unfold Ey at h
 refine N3 cf335 func335 call335 ntmps335 ?_;intro E H0 K hE hK hO;cbv;refine C6 hE hO fun b1 H hO=>?_;cbv;refine F3 hE ?_;cbv;refine B0 hE h (fun _ h=>?_) fun _ h=>?_
 ·cbv;refine A9 hE hO 0 rfl rfl fun H hO=>?_;cbv;refine A7 hE hO 0 rfl ?_;cbv;cases h;exact hK hO (.refl _)
 cbv;refine D1 hE eZo h fun x2 h=>?_;cbv;refine A9 hE hO 0 rfl rfl fun H hO=>?_;cbv;refine A7 hE hO 0 rfl ?_;cbv;cases h;exact hK hO (.refl _)
theorem c376 (N aK r)(h:Am N aK=some r):B8 prog 376 [vi aK] (.bool r):=by
 unfold Am at h
 refine N3 cf0 func376 call376 ntmps376 ?_;intro E H0 K hE hK hO;cbv;cases h;exact hK hO (.refl _)
theorem c390 (N aK aJ r)(h:Al N aK aJ=some r):B8 prog 390 [vi aK,(D9 aJ)] (.bool r):=by
 unfold Al at h
 refine N3 cf0 func390 call390 ntmps390 ?_;intro E H0 K hE hK hO;cbv;cases h;exact hK hO (.refl _)
theorem c377 (N aK aJ r)(h:Ak N aK aJ=some r):B8 prog 377 [vi aK,(D9 aJ)] (vi r):=by
 unfold Ak at h
 refine N3 cf0 func377 call377 ntmps377 ?_;intro E H0 K hE hK hO;cbv;refine A8 hE h (c336 N aJ) (.refl _) fun r1 h=>?_;cbv;refine B0 hE h (fun _ h=>?_) fun _ h=>?_
 ·cbv;cases h;exact hK hO (.refl _)
 cbv;refine A8 hE h (c390 N aK aJ) (.refl _) fun r2 h=>?_;cbv;refine B0 hE h (fun _ h=>?_) fun _ h=>?_
 ·cbv;cases h;exact hK hO (.refl _)
 cbv;cases h;exact hK hO (.refl _)
def cf378 :Cf:=⟨[3,6],[],[],[],[],[]⟩
theorem c378 (N:Nat) (cA:D3) (aN:List B4) (cF:V) (cB:D3→B4→Option D3) (cI:∀y1 y2 q,cB y1 y2=some q→Q6 prog cF [(I1 y1),(D9 y2)] ((I1 q))) (r:D3) (h:L1 N cA aN cB=some r):B8 prog 378 [(I1 cA),sr eZt aN,cF] ((I1 r)):=by
 unfold L1 at h
 refine N3 cf378 func378 call378 ntmps378 ?_;intro E H0 K hE hK hO;cbv;refine C6 hE hO fun b1 H hO=>?_;cbv;refine C6 hE hO fun b2 H hO=>?_;cbv;refine F3 hE ?_;cbv;obtain⟨s4,hx,h⟩:=bind_some h;refine K1 cf378 hE N4 (fun s3=>[(2,.v (cF)),(3,.v (.ref b1 0)),(6,.v (.ref b2 0)),(9,.v (sr eZt aN)),fi 10 (Ar.len aN),fi 11 s3.1]) (fun(s3:Int×D3) H1=>B7 Eq H0 [cb b2 [vi 0,vi 0,vi 0,vi 0,.str (⟨#[]⟩)],cb b1 (DG s3.2)] H1) (fun x e l H1=>e= .exit 0∧l=[(3,.v (.ref b1 0)),(6,.v (.ref b2 0))]∧B7 Eq H0 [cb b2 [vi 0,vi 0,vi 0,vi 0,.str (⟨#[]⟩)],cb b1 (DG x)] H1) (by kernel_rfl) ?_ hx ?_ hO ?_
 ·intro s3 H o hO h;clear hx;cbv;refine B0 hE h (fun _ h=>?_) fun _ h=>?_
  ·cbv;refine D1 hE eZo h fun x5 h=>?_;cbv;refine A7 hE hO 1 rfl ?_;cbv;refine V0 hE (g:=fun r6=>(I1 r6)) h (fun r6 hx=>cI s3.2 x5 r6 hx) (.refl _) fun r6 h=>?_;cbv;refine A9 hE hO 1 rfl rfl fun H hO=>?_;cbv;cases h;exact⟨_,rfl,.e2 (.e4 .z),rfl,hO⟩
  cbv;cases h;exact⟨_,_,rfl,⟨rfl,rfl,hO⟩,.e2 .z,rfl⟩
 ·exact .e2 (.e4 .z)
 clear hx;rintro e l H ⟨rfl,rfl,hO⟩;cbv;refine A7 hE hO 1 rfl ?_;cbv;refine A9 hE hO 0 rfl rfl fun H hO=>?_;cbv;refine A7 hE hO 0 rfl ?_;cbv;cases h;exact hK hO (.refl _)
def cf397 :Cf:=⟨[0],[],[],[],[],[]⟩
theorem c397 (N r)(h:Ae N=some r):B8 prog 397 [] ((D9 r)):=by
 unfold Ae at h
 refine N3 cf397 func397 call397 ntmps397 ?_;intro E H0 K hE hK hO;cbv;refine C6 hE hO fun b1 H hO=>?_;cbv;refine A9 hE hO 0 rfl rfl fun H hO=>?_;cbv;refine A7 hE hO 0 rfl ?_;cbv;cases h;exact hK hO (.refl _)
def cf398 :Cf:=⟨[2],[],[],[],[],[]⟩
theorem c398 (N aW aQ r)(h:Ad N aW aQ=some r):B8 prog 398 [.eref (N2 aW) 0,.eref (N2 aQ) 0] ((D9 r)):=by
 unfold Ad at h
 refine N3 cf398 func398 call398 ntmps398 ?_;intro E H0 K hE hK hO;cbv;refine C6 hE hO fun b1 H hO=>?_;cbv;refine A9 hE hO 0 rfl rfl fun H hO=>?_;cbv;refine A7 hE hO 0 rfl ?_;cbv;cases h;exact hK hO (.refl _)
def cf399 :Cf:=⟨[2],[],[],[],[],[]⟩
theorem c399 (N aW aQ r)(h:Ac N aW aQ=some r):B8 prog 399 [.eref (N2 aW) 0,.eref (N2 aQ) 0] ((D9 r)):=by
 unfold Ac at h
 refine N3 cf399 func399 call399 ntmps399 ?_;intro E H0 K hE hK hO;cbv;refine C6 hE hO fun b1 H hO=>?_;cbv;refine A9 hE hO 0 rfl rfl fun H hO=>?_;cbv;refine A7 hE hO 0 rfl ?_;cbv;cases h;exact hK hO (.refl _)
def cf400 :Cf:=⟨[2],[],[],[],[],[]⟩
theorem c400 (N aW aQ r)(h:Aa N aW aQ=some r):B8 prog 400 [.eref (N2 aW) 0,.eref (N2 aQ) 0] ((D9 r)):=by
 unfold Aa at h
 refine N3 cf400 func400 call400 ntmps400 ?_;intro E H0 K hE hK hO;cbv;refine C6 hE hO fun b1 H hO=>?_;cbv;refine A9 hE hO 0 rfl rfl fun H hO=>?_;cbv;refine A7 hE hO 0 rfl ?_;cbv;cases h;exact hK hO (.refl _)
def cf401 :Cf:=⟨[1],[],[],[],[],[]⟩
theorem c401 (N aW r)(h:Z9 N aW=some r):B8 prog 401 [.eref (N2 aW) 0] ((D9 r)):=by
 unfold Z9 at h
 refine N3 cf401 func401 call401 ntmps401 ?_;intro E H0 K hE hK hO;cbv;refine C6 hE hO fun b1 H hO=>?_;cbv;refine A9 hE hO 0 rfl rfl fun H hO=>?_;cbv;refine A7 hE hO 0 rfl ?_;cbv;cases h;exact hK hO (.refl _)
def cf402 :Cf:=⟨[1],[],[],[],[],[]⟩
theorem c402 (N aW r)(h:Z8 N aW=some r):B8 prog 402 [.eref (N2 aW) 0] ((D9 r)):=by
 unfold Z8 at h
 refine N3 cf402 func402 call402 ntmps402 ?_;intro E H0 K hE hK hO;cbv;refine C6 hE hO fun b1 H hO=>?_;cbv;refine A9 hE hO 0 rfl rfl fun H hO=>?_;cbv;refine A7 hE hO 0 rfl ?_;cbv;cases h;exact hK hO (.refl _)
def cf391 :Cf:=⟨[6],[],[],[],[],[]⟩
theorem c391 (N aK aB aD r)(h:Bh N aK aB aD=some r):B8 prog 391 [vi aK,(D9 aB),(D9 aD)] ((D9 r)):=by
 unfold Bh at h
 refine N3 cf391 func391 call391 ntmps391 ?_;intro E H0 K hE hK hO;cbv;refine C6 hE hO fun b1 H hO=>?_;cbv;refine Wa hE [0,1,2,3,4,5] (by rfl) ?_;cbv;refine B0 hE h (fun _ h=>?_) fun _ h=>?_
 ·cbv;refine A8 hE h (c397 N) (.refl _) fun r2 h=>?_;cbv;refine A9 hE hO 0 rfl rfl fun H hO=>?_;cbv;refine A7 hE hO 0 rfl ?_;cbv;cases h;exact hK hO (.refl _)
 cbv;refine B0 hE h (fun _ h=>?_) fun _ h=>?_
 ·cbv;refine V0 hE (g:=fun r3=>(D9 r3)) h (fun r3 hx=>B8.value (F:=[]) (C:=[.eref (N2 aB) 0,.eref (N2 aD) 0]) (c398 N aB aD r3 hx)) (.refl _) fun r3 h=>?_;cbv;refine A9 hE hO 0 rfl rfl fun H hO=>?_;cbv;refine A7 hE hO 0 rfl ?_;cbv;cases h;exact hK hO (.refl _)
 cbv;refine B0 hE h (fun _ h=>?_) fun _ h=>?_
 ·cbv;refine V0 hE (g:=fun r4=>(D9 r4)) h (fun r4 hx=>B8.value (F:=[]) (C:=[.eref (N2 aB) 0,.eref (N2 aD) 0]) (c399 N aB aD r4 hx)) (.refl _) fun r4 h=>?_;cbv;refine A9 hE hO 0 rfl rfl fun H hO=>?_;cbv;refine A7 hE hO 0 rfl ?_;cbv;cases h;exact hK hO (.refl _)
 cbv;refine B0 hE h (fun _ h=>?_) fun _ h=>?_
 ·cbv;refine V0 hE (g:=fun r5=>(D9 r5)) h (fun r5 hx=>B8.value (F:=[]) (C:=[.eref (N2 aB) 0,.eref (N2 aD) 0]) (c400 N aB aD r5 hx)) (.refl _) fun r5 h=>?_;cbv;refine A9 hE hO 0 rfl rfl fun H hO=>?_;cbv;refine A7 hE hO 0 rfl ?_;cbv;cases h;exact hK hO (.refl _)
 cbv;refine B0 hE h (fun _ h=>?_) fun _ h=>?_
 ·cbv;refine V0 hE (g:=fun r6=>(D9 r6)) h (fun r6 hx=>B8.value (F:=[]) (C:=[.eref (N2 aB) 0]) (c401 N aB r6 hx)) (.refl _) fun r6 h=>?_;cbv;refine A9 hE hO 0 rfl rfl fun H hO=>?_;cbv;refine A7 hE hO 0 rfl ?_;cbv;cases h;exact hK hO (.refl _)
 cbv;refine B0 hE h (fun _ h=>?_) fun _ h=>?_
 ·cbv;refine V0 hE (g:=fun r7=>(D9 r7)) h (fun r7 hx=>B8.value (F:=[]) (C:=[.eref (N2 aD) 0]) (c402 N aD r7 hx)) (.refl _) fun r7 h=>?_;cbv;refine A9 hE hO 0 rfl rfl fun H hO=>?_;cbv;refine A7 hE hO 0 rfl ?_;cbv;cases h;exact hK hO (.refl _)
 cbv;cases h
def cf380 :Cf:=⟨[4],[(5,14)],[],[],[],[]⟩
theorem c380 (N aB aD r)(h:BE N aB aD=some r):B8 prog 380 [(I1 aB),(I1 aD)] ((I1 r)):=by
 unfold BE at h
 refine N3 cf380 func380 call380 ntmps380 ?_;intro E H0 K hE hK hO;cbv;refine C6 hE hO fun b1 H hO=>?_;cbv;refine B0 hE h (fun _ h=>?_) fun _ h=>?_
 ·cbv;refine A9 hE hO 0 rfl rfl fun H hO=>?_;cbv;refine A7 hE hO 0 rfl ?_;cbv;cases h;exact hK hO (.refl _)
 cbv;refine B0 hE h (fun _ h=>?_) fun _ h=>?_
 ·cbv;refine A9 hE hO 0 rfl rfl fun H hO=>?_;cbv;refine A7 hE hO 0 rfl ?_;cbv;cases h;exact hK hO (.refl _)
 cbv;refine C9 hE (g:=fun r2=>(D9 r2)) h (c391 N aB.Kind aB.Value aD.Value) (.refl _) fun r2 h=>?_;cbv;refine A9 hE hO 0 rfl rfl fun H hO=>?_;cbv;refine A7 hE hO 0 rfl ?_;cbv;cases h;exact hK hO (.refl _)
def cf381 :Cf:=⟨[4],[],[],[],[],[]⟩
theorem c381 (N aK aJ r)(h:BD N aK aJ=some r):B8 prog 381 [vi aK,(D9 aJ)] ((D9 r)):=by
 unfold BD at h
 refine N3 cf381 func381 call381 ntmps381 ?_;intro E H0 K hE hK hO;cbv;refine C6 hE hO fun b1 H hO=>?_;cbv;refine B0 hE h (fun _ h=>?_) fun _ h=>?_
 ·cbv;refine A9 hE hO 0 rfl rfl fun H hO=>?_;cbv;refine A7 hE hO 0 rfl ?_;cbv;cases h;exact hK hO (.refl _)
 cbv;refine A9 hE hO 0 rfl rfl fun H hO=>?_;cbv;refine A7 hE hO 0 rfl ?_;cbv;cases h;exact hK hO (.refl _)
def cf379 :Cf:=⟨[5],[(1,6)],[],[],[],[]⟩
theorem c379 (N aB aJ aV r)(h:Bi N aB aJ aV=some r):B8 prog 379 [(I1 aB),(D9 aJ),.eref [vi aV] 0] ((I1 r)):=by
 unfold Bi at h
 refine N3 cf379 func379 call379 ntmps379 ?_;intro E H0 K hE hK hO;cbv;refine C6 hE hO fun b1 H hO=>?_;cbv;refine C9 hE (g:=fun r2=>(D9 r2)) h (c381 N aV aJ) (.refl _) fun r2 h=>?_;cbv;refine A8 hE h (c380 N aB (⟨aV,1,r2⟩:D3)) (.refl _) fun r3 h=>?_;cbv;refine A9 hE hO 0 rfl rfl fun H hO=>?_;cbv;refine A7 hE hO 0 rfl ?_;cbv;cases h;exact hK hO (.refl _)
theorem c392 (N aB r) (h:Cg N aB=some r):B8 prog 392 [(I1 aB)] (vi r):=by
 unfold Cg at h
 refine N3 cf0 func392 call392 ntmps392 ?_;intro E H0 K hE hK hO;cbv;refine A8 hE h (c376 N aB.Kind) (.refl _) fun r1 h=>?_;cbv;refine B0 hE h (fun _ h=>?_) fun _ h=>?_
 ·cbv;cases h;exact hK hO (.refl _)
 cbv;refine B0 hE h (fun _ h=>?_) fun _ h=>?_
 ·cbv;cases h;exact hK hO (.refl _)
 cbv;refine B0 hE h (fun _ h=>?_) fun _ h=>?_
 ·cbv;refine B0 hE h (fun _ h=>?_) fun _ h=>?_
  ·cbv;cases h;exact hK hO (.refl _)
  cbv;cases h;exact hK hO (.refl _)
 cbv;refine B0 hE h (fun _ h=>?_) fun _ h=>?_
 ·cbv;refine B0 hE h (fun _ h=>?_) fun _ h=>?_
  ·cbv;cases h;exact hK hO (.refl _)
  cbv;cases h;exact hK hO (.refl _)
 cbv;refine A8 hE h (c336 N aB.Value) (.refl _) fun r2 h=>?_;cbv;refine B0 hE h (fun _ h=>?_) fun _ h=>?_
 ·cbv;refine A8 hE h (c390 N aB.Kind aB.Value) (.refl _) fun r3 h=>?_;cbv;refine B0 hE h (fun _ h=>?_) fun _ h=>?_
  ·cbv;cases h;exact hK hO (.refl _)
  cbv;cases h;exact hK hO (.refl _)
 cbv;cases h;exact hK hO (.refl _)
def cf382 :Cf:=⟨[4],[],[],[],[],[]⟩
theorem c382 (N aB bD r)(h:BF N aB bD=some r):B8 prog 382 [(I1 aB),(D9 bD)] (.tup [(D9 r.1),vi r.2]):=by
 unfold BF at h
 refine N3 cf382 func382 call382 ntmps382 ?_;intro E H0 K hE hK hO;cbv;refine C6 hE hO fun b1 H hO=>?_;cbv;refine A8 hE h (c392 N aB) (.refl _) fun r2 h=>?_;cbv;refine B0 hE h (fun _ h=>?_) fun _ h=>?_
 ·cbv;refine A9 hE hO 0 rfl rfl fun H hO=>?_;cbv;refine A7 hE hO 0 rfl ?_;cbv;cases h;exact hK hO (.refl _)
 cbv;refine A8 hE h (c377 N aB.Kind bD) (.refl _) fun r3 h=>?_;cbv;refine B0 hE h (fun _ h=>?_) fun _ h=>?_
 ·cbv;refine A9 hE hO 0 rfl rfl fun H hO=>?_;cbv;refine A7 hE hO 0 rfl ?_;cbv;cases h;exact hK hO (.refl _)
 cbv;refine B0 hE h (fun _ h=>?_) fun _ h=>?_
 ·cbv;refine A9 hE hO 0 rfl rfl fun H hO=>?_;cbv;refine A7 hE hO 0 rfl ?_;cbv;cases h;exact hK hO (.refl _)
 cbv;refine B0 hE h (fun _ h=>?_) fun _ h=>?_
 ·cbv;refine A9 hE hO 0 rfl rfl fun H hO=>?_;cbv;refine A7 hE hO 0 rfl ?_;cbv;cases h;exact hK hO (.refl _)
 cbv;refine A9 hE hO 0 rfl rfl fun H hO=>?_;cbv;refine A7 hE hO 0 rfl ?_;cbv;cases h;exact hK hO (.refl _)
def cf357 :Cf:=⟨[6],[],[],[],[],[]⟩
theorem c357 (N aK aN bD r) (h:EH N aK aN bD=some r):B8 prog 357 [vi aK,sr eZt aN,(D9 bD)] (.tup [(D9 r.1),vi r.2]):=by
 unfold EH at h
 refine N3 cf357 func357 call357 ntmps357 ?_;intro E H0 K hE hK hO;cbv;refine C6 hE hO fun b1 H hO=>?_;cbv;refine A8 hE h (c376 N aK) (.refl _) fun r2 h=>?_;cbv;refine B0 hE h (fun _ h=>?_) fun _ h=>?_
 ·cbv;refine A9 hE hO 0 rfl rfl fun H hO=>?_;cbv;refine A7 hE hO 0 rfl ?_;cbv;cases h;exact hK hO (.refl _)
 cbv;refine F3 hE ?_;cbv;refine B0 hE h (fun _ h=>?_) fun _ h=>?_
 ·cbv;refine A9 hE hO 0 rfl rfl fun H hO=>?_;cbv;refine A7 hE hO 0 rfl ?_;cbv;cases h;exact hK hO (.refl _)
 cbv;refine F3 hE ?_;cbv;obtain⟨s4,hx,h⟩:=bind_some h;refine K1 cf357 hE N4 (fun s3=>[(1,.v (sr eZt aN)),(3,.v (.eref [vi aK] 0)),(5,.v (.eref (N2 bD) 0)),(6,.v (.ref b1 0)),(22,.v (sr eZt aN)),fi 23 (Ar.len aN),fi 24 s3]) (fun s3 H1=>B7 Eq H0 [cb b1 [vi 0,vi 0,.str (⟨#[]⟩)]] H1) (fun x e l H1=>match(generalizing:=false) x with| .inl y=>e= .exit 1∧l=[(1,.v (sr eZt aN)),(3,.v (.eref [vi aK] 0)),(5,.v (.eref (N2 bD) 0)),(6,.v (.ref b1 0))]∧B7 Eq H0 [cb b1 [vi 0,vi 0,.str (⟨#[]⟩)]] H1| .inr y=>e= .ret∧l=[(6,.v (.ref b1 0)),fi 7 y]∧B7 Eq H0 [cb b1 [vi 0,vi 0,.str (⟨#[]⟩)]] H1) (by kernel_rfl) ?_ hx ?_ hO ?_
 ·intro s3 H o hO h;clear hx;cbv;refine B0 hE h (fun _ h=>?_) fun _ h=>?_
  ·cbv;refine D1 hE eZo h fun x5 h=>?_;cbv;refine A8 hE h (c377 N aK x5) (.refl _) fun r6 h=>?_;cbv;refine B0 hE h (fun _ h=>?_) fun _ h=>?_
   ·cbv;refine A9 hE hO 0 rfl rfl fun H hO=>?_;cbv;cases h;exact⟨_,_,rfl,⟨rfl,rfl,hO⟩,.e2 .z,rfl⟩
   cbv;cases h;exact⟨_,rfl,.e rfl (.e2 (.e4 .z)),rfl,hO⟩
  cbv;cases h;exact⟨_,_,rfl,⟨rfl,rfl,hO⟩,.e4 .z,rfl⟩
 ·exact .e rfl (.e2 (.e4 .z))
 clear hx
 rcases s4 with y7|y10
 ·rintro e l H ⟨rfl,rfl,hO⟩;cbv;refine A8 hE (g:=fun r8=>(I1 r8)) h (fun r8 hx=>c378 N (⟨aK,0,(⟨0,0,⟨#[]⟩⟩:B4)⟩:D3) aN (.func (.func 379) [] [.eref [vi aK] 0]) (fun y1 y2=>Bi N y1 y2 aK) (fun y1 y2 r hx=>B8.value (F:=[]) (C:=[.eref [vi aK] 0]) (c379 N y1 y2 aK r hx)) r8 hx) (.refl _) fun r8 h=>?_;cbv;refine A8 hE h (c382 N r8 bD) (.refl _) fun r9 h=>?_;cbv;refine A9 hE hO 0 rfl rfl fun H hO=>?_;cbv;refine A7 hE hO 0 rfl ?_;cbv;cases h;exact hK hO (.refl _)
 rintro e l H ⟨rfl,rfl,hO⟩;cbv;refine A7 hE hO 0 rfl ?_;cbv;cases h;exact hK hO (.refl _)
def cf334 :Cf:=⟨[4],[],[],[],[],[]⟩
theorem c334 (N aC aF r) (h:X5 N aC aF=some r):B8 prog 334 [(Y0 aC),(AF aF)] (.tup [(D9 r.1),vi r.2]):=by
 unfold X5 at h
 refine N3 cf334 func334 call334 ntmps334 ?_;intro E H0 K hE hK hO;cbv;refine C6 hE hO fun b1 H hO=>?_;cbv;refine A8 hE h (c333 N aC aF.Var) (.refl _) fun r2 h=>?_;cbv;refine F3 hE ?_;cbv;replace hO:=hO.tl0 (t:=.nil) rfl;obtain⟨s5,hx,h⟩:=bind_some h;refine Q7 cf334 hE N4 (γ:=E5) (fun s3 g=>[(3,.v (.eref (EF aF) 0)),(4,.v (.ref b1 0)),(6,.v (.sl (lst eZt s3.1) g)),(14,.v (sr eZj r2)),fi 15 (Ar.len r2),fi 16 s3.2]) (fun s3 g H1=>Bl g∧B7 Eq H0 [.tl g,cb b1 [vi 0,vi 0,.str (⟨#[]⟩)]] H1) (fun x e l H1=>match(generalizing:=false) x with| .inl y=>∃u1:E5,Bl u1∧e= .exit 0∧l=[(3,.v (.eref (EF aF) 0)),(4,.v (.ref b1 0)),(6,.v (.sl (lst eZt y) u1))]∧B7 Eq H0 [.tl u1,cb b1 [vi 0,vi 0,.str (⟨#[]⟩)]] H1| .inr y=>∃u1:E5,Bl u1∧e= .ret∧l=[(4,.v (.ref b1 0)),fi 5 y]∧B7 Eq H0 [.tl u1,cb b1 [vi 0,vi 0,.str (⟨#[]⟩)]] H1) (by kernel_rfl) ?_ .nil hx ?_ ?_ ?_
 ·rintro s3 t4 H o ⟨ht4,hO⟩ h;clear hx;cbv;refine B0 hE h (fun _ h=>?_) fun _ h=>?_
  ·cbv;refine D1 hE eZm h fun x6 h=>?_;cbv;refine A8 hE h (c335 N x6 aF.Field) (.refl _) fun r7 h=>?_;cbv;refine B0 hE h (fun _ h=>?_) fun _ h=>?_
   ·cbv;refine A9 hE hO 1 rfl rfl fun H hO=>?_;cbv;cases h;exact⟨_,_,rfl,⟨t4,ht4,rfl,rfl,hO⟩,.e2 .z,rfl⟩
   cbv;refine Et (f:=eZt) hE LF (by decide) hO 0 rfl ht4 (l:=s3.1) (m:=[r7.1]) (.refl _) (.lstc (.eq (eZo r7.1) (.refl _)) (.lst0)) h fun l9 t8 H hO ht8 h=>?_;cbv;cases h;exact⟨_,t8,rfl,.e2 (.e4 .z),rfl,ht8,hO⟩
  cbv;cases h;exact⟨_,_,rfl,⟨t4,ht4,rfl,rfl,hO⟩,.e rfl (.e2 .z),rfl⟩
 ·exact .e2 (.v (.slt _ (.lst0)) (.e rfl (.e rfl (.e rfl (.z)))))
 ·exact⟨trivial,hO⟩
 clear hx
 rcases s5 with y10|y13
 ·rintro e l H ⟨t11,ht11,rfl,rfl,hO⟩;cbv;refine A8 hE h (c357 N aF.Kind y10 aF.Value) (.cons (.refl _) (.cons (.ro _ _) (.refl _))) fun r12 h=>?_;cbv;refine A9 hE hO 1 rfl rfl fun H hO=>?_;cbv;refine A7 hE hO 1 rfl ?_;cbv;cases h;exact hK hO (.refl _)
 rintro e l H ⟨t14,ht14,rfl,rfl,hO⟩;cbv;refine A7 hE hO 1 rfl ?_;cbv;cases h;exact hK hO (.refl _)
def cf308 :Cf:=⟨[4,7],[],[(38,12),(63,19)],[],[],[]⟩
theorem c308 (N aC aF r) (h:Z5 N aC aF=some r):B8 prog 308 [(Y0 aC),(AF aF)] (.tup [(D9 r.1),vi r.2]):=by
 unfold Z5 at h
 refine N3 cf308 func308 call308 ntmps308 ?_;intro E H0 K hE hK hO;cbv;refine C6 hE hO fun b1 H hO=>?_;cbv;refine A8 hE h (c333 N aC aF.Var) (.refl _) fun r2 h=>?_;cbv;refine B0 hE h (fun _ h=>?_) fun _ h=>?_
 ·cbv;refine A9 hE hO 0 rfl rfl fun H hO=>?_;cbv;refine A7 hE hO 0 rfl ?_;cbv;cases h;exact hK hO (.refl _)
 cbv;refine B0 hE h (fun _ h=>?_) fun _ h=>?_
 ·cbv;refine F3 hE ?_;cbv;refine A9 hE hO 0 rfl rfl fun H hO=>?_;cbv;refine A7 hE hO 0 rfl ?_;cbv;cases h;exact hK hO (.refl _)
 cbv;refine B0 hE h (fun _ h=>?_) fun _ h=>?_
 ·cbv;refine A8 hE h (c334 N aC aF) (.refl _) fun r3 h=>?_;cbv;refine A9 hE hO 0 rfl rfl fun H hO=>?_;cbv;refine A7 hE hO 0 rfl ?_;cbv;cases h;exact hK hO (.refl _)
 cbv;refine C6 hE hO fun b4 H hO=>?_;cbv;refine A9 hE hO 0 rfl rfl fun H hO=>?_;cbv;obtain⟨s5,hx,h⟩:=bind_some h;refine M1 cf308 hE N4 (fun e l H1=>match(generalizing:=false) s5 with| .inl y=>e= .normal∧l=[(3,.v (.eref (EF aF) 0)),(4,.v (.ref b1 0)),(7,.v (.ref b4 0))]∧B7 Eq H0 [cb b4 (JG y),cb b1 [vi 0,vi 0,.str (⟨#[]⟩)]] H1| .inr y=>e= .ret∧l=[(4,.v (.ref b1 0)),fi 5 10]∧B7 Eq H0 [cb b4 (JG aC.event),cb b1 [vi 0,vi 0,.str (⟨#[]⟩)]] H1) (by kernel_rfl) ?_ ?_
 ·clear h;have h:=hx;clear hx;cbv;refine B0 hE h (fun _ h=>?_) fun _ h=>?_
  ·cbv;refine F3 hE ?_;cbv;refine B0 hE h (fun _ h=>?_) fun _ h=>?_
   ·cbv;refine A9 hE hO 1 rfl rfl fun H hO=>?_;cbv;cases h;exact⟨_,⟨rfl,rfl,hO⟩,.e2 .z,rfl⟩
   cbv;refine F3 hE ?_;cbv;refine D1 hE eZm h fun x6 h=>?_;cbv;refine A9 hE hO 0 rfl rfl fun H hO=>?_;cbv;cases h;exact⟨_,⟨rfl,rfl,hO⟩,.e rfl (.e2 .z),rfl⟩
  cbv;cases h;exact⟨_,⟨rfl,rfl,hO⟩,.e rfl (.e2 .z),rfl⟩
 clear hx
 rcases s5 with y7|y11
 ·rintro e l H ⟨rfl,rfl,hO⟩;cbv;refine B0 hE h (fun _ h=>?_) fun _ h=>?_
  ·cbv;refine A7 hE hO 0 rfl ?_;cbv;refine A9 hE hO 1 rfl rfl fun H hO=>?_;cbv;refine A7 hE hO 1 rfl ?_;cbv;cases h;exact hK hO (.refl _)
  cbv;refine A7 hE hO 0 rfl ?_;cbv;refine A8 hE h (c335 N y7 aF.Field) (.refl _) fun r8 h=>?_;cbv;obtain⟨s9,hx,h⟩:=bind_some h;refine M1 cf308 hE N4 (fun e l H1=>e= .normal∧l=[(4,.v (.ref b1 0)),(8,.v (.eref (N2 r8.1) 0)),fi 9 s9]∧B7 Eq H0 [cb b4 (JG y7),cb b1 [vi 0,vi 0,.str (⟨#[]⟩)]] H1) (by kernel_rfl) ?_ ?_
  ·clear h;have h:=hx;clear hx;cbv;refine B0 hE h (fun _ h=>?_) fun _ h=>?_
   ·cbv;refine A8 hE h (c336 N r8.1) (.refl _) fun r10 h=>?_;cbv;cases h;exact⟨_,⟨rfl,rfl,hO⟩,.e rfl (.e2 .z),rfl⟩
   cbv;cases h;exact⟨_,⟨rfl,rfl,hO⟩,.e rfl (.e2 .z),rfl⟩
  clear hx;rintro e l H ⟨rfl,rfl,hO⟩;cbv;refine B0 hE h (fun _ h=>?_) fun _ h=>?_
  ·cbv;refine A9 hE hO 1 rfl rfl fun H hO=>?_;cbv;refine A7 hE hO 1 rfl ?_;cbv;cases h;exact hK hO (.refl _)
  cbv;refine A9 hE hO 1 rfl rfl fun H hO=>?_;cbv;refine A7 hE hO 1 rfl ?_;cbv;cases h;exact hK hO (.refl _)
 rintro e l H ⟨rfl,rfl,hO⟩;cbv;refine A7 hE hO 1 rfl ?_;cbv;cases h;exact hK hO (.refl _)
def cf309 :Cf:=⟨[],[],[(15,8),(22,13)],[],[],[]⟩
theorem c309 (N aM bB r) (h:DE N aM bB=some r):B8 prog 309 [vi aM,sr (V.int .i64) bB] (vi r):=by
 unfold DE at h
 refine N3 cf309 func309 call309 ntmps309 ?_;intro E H0 K hE hK hO;cbv;refine F3 hE ?_;cbv;obtain⟨s2,hx,h⟩:=bind_some h;refine K1 cf309 hE N4 (fun s1=>[fi 0 aM,(1,.v (sr (V.int .i64) bB)),(8,.v (sr (V.int .i64) bB)),fi 9 (Ar.len bB),fi 10 s1]) (fun s1 H1=>B7 Eq H0 [] H1) (fun x e l H1=>match(generalizing:=false) x with| .inl y=>e= .exit 0∧l=[]∧B7 Eq H0 [] H1| .inr y=>e= .ret∧l=[fi 4 9]∧B7 Eq H0 [] H1) (by kernel_rfl) ?_ hx ?_ hO ?_
 ·intro s1 H o hO h;clear hx;cbv;refine B0 hE h (fun _ h=>?_) fun _ h=>?_
  ·cbv;refine D1 hE (fun _=>rfl) h fun x3 h=>?_;cbv;obtain⟨s4,hx,h⟩:=bind_some h;refine M1 cf309 hE N4 (fun e l H1=>e= .normal∧l=[fi 0 aM,(1,.v (sr (V.int .i64) bB)),fi 6 x3,(7,.b true),(8,.v (sr (V.int .i64) bB)),fi 9 (Ar.len bB),fi 10 s1,fi 14 aM,(15,.v (.bool s4))]∧B7 Eq H0 [] H1) (by kernel_rfl) ?_ ?_
   ·clear h;have h:=hx;clear hx;cbv;refine B0 hE h (fun _ h=>?_) fun _ h=>?_
    ·cbv;cases h;exact⟨_,⟨rfl,rfl,hO⟩,.e rfl (.e2 (.b rfl (.e rfl (.e rfl (.e rfl (.e rfl (.e rfl (.z)))))))),rfl⟩
    cbv;refine B0 hE h (fun _ h=>?_) fun _ h=>?_
    ·cbv;cases h;exact⟨_,⟨rfl,rfl,hO⟩,.e rfl (.e2 (.b rfl (.e rfl (.e rfl (.e rfl (.e rfl (.e rfl (.z)))))))),rfl⟩
    cbv;refine B0 hE h (fun _ h=>?_) fun _ h=>?_
    ·cbv;cases h;exact⟨_,⟨rfl,rfl,hO⟩,.e rfl (.e2 (.b rfl (.e rfl (.e rfl (.e rfl (.e rfl (.e rfl (.z)))))))),rfl⟩
    cbv;cases h;exact⟨_,⟨rfl,rfl,hO⟩,.e rfl (.e2 (.b rfl (.e rfl (.e rfl (.e rfl (.e rfl (.e rfl (.z)))))))),rfl⟩
   clear hx;rintro e l H ⟨rfl,rfl,hO⟩;cbv;refine B0 hE h (fun _ h=>?_) fun _ h=>?_
   ·cbv;refine B0 hE h (fun _ h=>?_) fun _ h=>?_
    ·cbv;cases h;exact⟨_,_,rfl,⟨rfl,rfl,hO⟩,.e rfl .z,rfl⟩
    cbv;cases h;exact⟨_,rfl,.e rfl (.e4 .z),rfl,hO⟩
   cbv;obtain⟨s5,hx,h⟩:=bind_some h;refine M1 cf309 hE N4 (fun e l H1=>e= .normal∧l=[fi 0 aM,(1,.v (sr (V.int .i64) bB)),fi 6 x3,(7,.b true),(8,.v (sr (V.int .i64) bB)),fi 9 (Ar.len bB),fi 10 s1,fi 14 aM,(22,.v (.bool s5))]∧B7 Eq H0 [] H1) (by kernel_rfl) ?_ ?_
   ·clear h;have h:=hx;clear hx;cbv;refine B0 hE h (fun _ h=>?_) fun _ h=>?_
    ·cbv;cases h;exact⟨_,⟨rfl,rfl,hO⟩,.e rfl (.e2 (.b rfl (.e rfl (.e rfl (.e rfl (.e rfl (.e rfl (.z)))))))),rfl⟩
    cbv;refine B0 hE h (fun _ h=>?_) fun _ h=>?_
    ·cbv;cases h;exact⟨_,⟨rfl,rfl,hO⟩,.e rfl (.e2 (.b rfl (.e rfl (.e rfl (.e rfl (.e rfl (.e rfl (.z)))))))),rfl⟩
    cbv;cases h;exact⟨_,⟨rfl,rfl,hO⟩,.e rfl (.e2 (.b rfl (.e rfl (.e rfl (.e rfl (.e rfl (.e rfl (.z)))))))),rfl⟩
   clear hx;rintro e l H ⟨rfl,rfl,hO⟩;cbv;refine B0 hE h (fun _ h=>?_) fun _ h=>?_
   ·cbv;refine B0 hE h (fun _ h=>?_) fun _ h=>?_
    ·cbv;cases h;exact⟨_,_,rfl,⟨rfl,rfl,hO⟩,.e rfl .z,rfl⟩
    cbv;cases h;exact⟨_,rfl,.e rfl (.e4 .z),rfl,hO⟩
   cbv;refine B0 hE h (fun _ h=>?_) fun _ h=>?_
   ·cbv;refine D1 hE (fun _=>rfl) h fun x6 h=>?_;cbv;refine B0 hE h (fun _ h=>?_) fun _ h=>?_
    ·cbv;cases h;exact⟨_,_,rfl,⟨rfl,rfl,hO⟩,.e rfl .z,rfl⟩
    cbv;cases h;exact⟨_,rfl,.e rfl (.e4 .z),rfl,hO⟩
   cbv;cases h;exact⟨_,rfl,.e rfl (.e4 .z),rfl,hO⟩
  cbv;cases h;exact⟨_,_,rfl,⟨rfl,rfl,hO⟩,.z,rfl⟩
 ·exact .e rfl (.e4 .z)
 clear hx
 rcases s2 with y7|y8
 ·rintro e l H ⟨rfl,rfl,hO⟩;cbv;cases h;exact hK hO (.refl _)
 rintro e l H ⟨rfl,rfl,hO⟩;cbv;cases h;exact hK hO (.refl _)
def cf268 :Cf:=⟨[4,3000042,8000042,9000042],[(11,8),(17,6),(18,16)],[],[],[],[]⟩
theorem c268 (N:Nat):∀n aC aF r,S7 N n aC aF=some r→B8 prog 268 [(Y0 aC),(AF aF)] (.tup [(D9 r.1),vi r.2]):=by
 intro n
 induction n with
 |zero=>intro aC aF r h;cases h
 |succ n ih=>
 intro aC aF r h
 unfold S7 at h
 refine N3 cf268 func268 call268 ntmps268 ?_;intro E H0 K hE hK hO;cbv;refine C6 hE hO fun b1 H hO=>?_;cbv;refine F3 hE ?_;cbv;refine B0 hE h (fun _ h=>?_) fun _ h=>?_
 ·cbv;refine A8 hE h (c308 N aC aF) (.refl _) fun r2 h=>?_;cbv;refine A9 hE hO 0 rfl rfl fun H hO=>?_;cbv;refine A7 hE hO 0 rfl ?_;cbv;cases h;exact hK hO (.refl _)
 cbv;refine F3 hE ?_;cbv;replace hO:=hO.tl0 (t:=.nil) rfl;replace hO:=hO.tl0 (t:=.nil) rfl;obtain⟨s6,hx,h⟩:=bind_some h;refine Q7 cf268 hE N4 (γ:=E5×E5) (fun s3 g=>[(2,.v (.eref (BA aC) 0)),(3,.v (.eref (EF aF) 0)),(4,.v (.ref b1 0)),(6,.v (.sl (lst eZt s3.1) g.2)),(7,.v (.sl (lst (V.int .i64) s3.2.1) g.1)),(23,.v (sr eZw aF.cJ)),fi 24 (Ar.len aF.cJ),fi 25 s3.2.2]) (fun s3 g H1=>Bl g.1∧Bl g.2∧B7 Eq H0 [.tl g.1,.tl g.2,cb b1 [vi 0,vi 0,.str (⟨#[]⟩)]] H1) (fun x e l H1=>match(generalizing:=false) x with| .inl y=>∃u1:E5,Bl u1∧∃u2:E5,Bl u2∧e= .exit 0∧l=[(2,.v (.eref (BA aC) 0)),(3,.v (.eref (EF aF) 0)),(4,.v (.ref b1 0)),(6,.v (.sl (lst eZt y.1) u2)),(7,.v (.sl (lst (V.int .i64) y.2) u1))]∧B7 Eq H0 [.tl u1,.tl u2,cb b1 [vi 0,vi 0,.str (⟨#[]⟩)]] H1| .inr y=>∃u1:E5,Bl u1∧∃u2:E5,Bl u2∧e= .ret∧l=[(4,.v (.ref b1 0)),fi 5 y]∧B7 Eq H0 [.tl u1,.tl u2,cb b1 [vi 0,vi 0,.str (⟨#[]⟩)]] H1) (by kernel_rfl) ?_ (⟨.nil,.nil⟩) hx ?_ ?_ ?_
 ·rintro s3 ⟨t4,t5⟩ H o ⟨ht4,ht5,hO⟩ h;clear hx;cbv;refine B0 hE h (fun _ h=>?_) fun _ h=>?_
  ·cbv;refine D1 hE eZC h fun x7 h=>?_;cbv;refine A8 hE h (ih aC x7) (.refl _) fun r8 h=>?_;cbv;refine B0 hE h (fun _ h=>?_) fun _ h=>?_
   ·cbv;refine A9 hE hO 2 rfl rfl fun H hO=>?_;cbv;cases h;exact⟨_,_,rfl,⟨t4,ht4,t5,ht5,rfl,rfl,hO⟩,.e2 .z,rfl⟩
   cbv;refine Rd hE hO 1 rfl ht5 fun H hO=>?_;cbv;refine Kq hE trivial ?_;cbv;refine Qg (f:=eZt) hE LF (by decide) (l:=s3.1) (m:=[r8.1]) (.refl _) (.lstc (.eq (eZo r8.1) (.refl _)) (.lst0)) h fun l9 h=>?_;cbv;refine Rf hE hO 1 rfl fun t10 H hO ht10=>?_;cbv;refine Et (f:=(V.int .i64)) hE (fun _=>rfl) (by decide) hO 0 rfl ht4 (l:=s3.2.1) (m:=[r8.1.Kind]) (.refl _) (.lstc (.refl _) (.lst0)) h fun l12 t11 H hO ht11 h=>?_;cbv;cases h;exact⟨_,⟨t11,t10⟩,rfl,.e4 (.e4 .z),rfl,ht11,ht10,hO⟩
  cbv;cases h;exact⟨_,_,rfl,⟨t4,ht4,t5,ht5,rfl,rfl,hO⟩,.e rfl (.e4 .z),rfl⟩
 ·exact .e rfl (.e2 (.v (.slt _ (.lst0)) (.v (.slt _ (.lst0)) (.e rfl (.e rfl (.e rfl (.z)))))))
 ·exact⟨trivial,trivial,hO⟩
 clear hx
 rcases s6 with y13|y43
 ·rintro e l H ⟨t14,ht14,t15,ht15,rfl,rfl,hO⟩;cbv;refine A8 hE h (c309 N aF.Op y13.2) (.cons (.refl _) (.cons (.ro _ _) (.refl _))) fun r16 h=>?_;cbv;refine B0 hE h (fun _ h=>?_) fun _ h=>?_
  ·cbv;refine A9 hE hO 2 rfl rfl fun H hO=>?_;cbv;refine A7 hE hO 2 rfl ?_;cbv;cases h;exact hK hO (.refl _)
  cbv;refine B0 hE h (fun _ h=>?_) fun _ h=>?_
  ·cbv;refine D1 hE eZo h fun x17 h=>?_;cbv;refine D1 hE eZo h fun x18 h=>?_;cbv;refine A8 hE h (c229 N (an (Ar.cmp .eql x17.Kind x18.Kind) (an (Ar.cmp .eql x17.Num x18.Num) (an (Ar.scmp .eql x17.Text x18.Text) true)))) (.refl _) fun r19 h=>?_;cbv;refine A9 hE hO 2 rfl rfl fun H hO=>?_;cbv;refine A7 hE hO 2 rfl ?_;cbv;cases h;exact hK hO (.refl _)
  cbv;refine XH hE (kt:=3) (et:=338) (z:=.nilf) (by kernel_rfl) (by kernel_rfl) (by kernel_rfl) rfl ?_;cbv;refine B0 hE h (fun _ h=>?_) fun _ h=>?_
  ·cbv;refine D1 hE eZo h fun x20 h=>?_;cbv;refine F3 hE ?_;cbv;refine D1 hE eZo h fun x21 h=>?_;cbv;refine V0 hE (g:=fun r22=>(D9 r22)) h (fun r22 hx=>B8.value (F:=[]) (C:=[.eref [.func (.func 300) [] []] 0]) (c301 N x20.Num x21.Num (.func (.func 300) [] []) (fun y1=>O8 N y1) (fun y1 r hx=>B8.value (F:=[]) (C:=[]) (c300 N y1 r hx)) r22 hx)) (.refl _) fun r22 h=>?_;cbv;refine A9 hE hO 2 rfl rfl fun H hO=>?_;cbv;refine A7 hE hO 2 rfl ?_;cbv;cases h;exact hK hO (.refl _)
  cbv;refine B0 hE h (fun _ h=>?_) fun _ h=>?_
  ·cbv;refine D1 hE eZo h fun x23 h=>?_;cbv;refine F3 hE ?_;cbv;refine D1 hE eZo h fun x24 h=>?_;cbv;refine V0 hE (g:=fun r25=>(D9 r25)) h (fun r25 hx=>B8.value (F:=[]) (C:=[.eref [.func (.func 300) [] []] 0]) (c302 N x23.Num x24.Num (.func (.func 300) [] []) (fun y1=>O8 N y1) (fun y1 r hx=>B8.value (F:=[]) (C:=[]) (c300 N y1 r hx)) r25 hx)) (.refl _) fun r25 h=>?_;cbv;refine A9 hE hO 2 rfl rfl fun H hO=>?_;cbv;refine A7 hE hO 2 rfl ?_;cbv;cases h;exact hK hO (.refl _)
  cbv;refine B0 hE h (fun _ h=>?_) fun _ h=>?_
  ·cbv;refine D1 hE eZo h fun x26 h=>?_;cbv;refine F3 hE ?_;cbv;refine D1 hE eZo h fun x27 h=>?_;cbv;refine A8 hE h (c303 N x26.Num x27.Num) (.refl _) fun r28 h=>?_;cbv;refine A9 hE hO 2 rfl rfl fun H hO=>?_;cbv;refine A7 hE hO 2 rfl ?_;cbv;cases h;exact hK hO (.refl _)
  cbv;refine B0 hE h (fun _ h=>?_) fun _ h=>?_
  ·cbv;refine D1 hE eZo h fun x29 h=>?_;cbv;refine F3 hE ?_;cbv;refine D1 hE eZo h fun x30 h=>?_;cbv;refine A8 hE h (c304 N x29.Num x30.Num) (.refl _) fun r31 h=>?_;cbv;refine A9 hE hO 2 rfl rfl fun H hO=>?_;cbv;refine A7 hE hO 2 rfl ?_;cbv;cases h;exact hK hO (.refl _)
  cbv;refine B0 hE h (fun _ h=>?_) fun _ h=>?_
  ·cbv;refine D1 hE eZo h fun x32 h=>?_;cbv;refine F3 hE ?_;cbv;refine D1 hE eZo h fun x33 h=>?_;cbv;refine A8 hE h (c305 N x32.Num x33.Num) (.refl _) fun r34 h=>?_;cbv;refine A9 hE hO 2 rfl rfl fun H hO=>?_;cbv;refine A7 hE hO 2 rfl ?_;cbv;cases h;exact hK hO (.refl _)
  cbv;refine B0 hE h (fun _ h=>?_) fun _ h=>?_
  ·cbv;refine D1 hE eZo h fun x35 h=>?_;cbv;refine F3 hE ?_;cbv;refine D1 hE eZo h fun x36 h=>?_;cbv;refine A8 hE h (c306 N x35.Num x36.Num) (.refl _) fun r37 h=>?_;cbv;refine A9 hE hO 2 rfl rfl fun H hO=>?_;cbv;refine A7 hE hO 2 rfl ?_;cbv;cases h;exact hK hO (.refl _)
  cbv;refine B0 hE h (fun _ h=>?_) fun _ h=>?_
  ·cbv;refine D1 hE eZo h fun x38 h=>?_;cbv;refine F3 hE ?_;cbv;refine D1 hE eZo h fun x39 h=>?_;cbv;refine A8 hE h (c307 N x38.Num x39.Num) (.refl _) fun r40 h=>?_;cbv;refine A9 hE hO 2 rfl rfl fun H hO=>?_;cbv;refine A7 hE hO 2 rfl ?_;cbv;cases h;exact hK hO (.refl _)
  cbv;refine D1 hE eZo h fun x41 h=>?_;cbv;refine F3 hE ?_;cbv;refine D1 hE eZo h fun x42 h=>?_;cbv;cases h
 rintro e l H ⟨t44,ht44,t45,ht45,rfl,rfl,hO⟩;cbv;refine A7 hE hO 2 rfl ?_;cbv;cases h;exact hK hO (.refl _)
def cf228 :Cf:=⟨[8],[(3000004,0),(3000004,1),(3000004,2),(3000004,4),(3000004,5),(3000004,7),(3000004,8),(3000004,10)],[],[2000004],[],[]⟩
theorem c228 (N aF bI bJ bK r)(h:IA N aF bI bJ bK=some r):B8 prog 228 [(AF aF),(NA bI),vi bJ,(BJ bK)] (.tup [(D9 r.1),vi r.2]):=by
 unfold IA at h
 refine N3 cf228 func228 call228 ntmps228 ?_;intro E H0 K hE hK hO;cbv;refine C6 hE hO fun b1 H hO=>?_;cbv;refine A8 hE h (c260 N aF) (.refl _) fun r2 h=>?_;cbv;refine B0 hE h (fun _ h=>?_) fun _ h=>?_
 ·cbv;refine A9 hE hO 0 rfl rfl fun H hO=>?_;cbv;refine A7 hE hO 0 rfl ?_;cbv;cases h;exact hK hO (.refl _)
 cbv;obtain⟨s3,hx,h⟩:=bind_some h;refine M1 cf228 hE N4 (fun e l H1=>e= .normal∧l=[(8,.v (.ref b1 0)),fi 9 s3.1]∧B7 Eq H0 [cb b1 (N2 s3.2)] H1) (by kernel_rfl) ?_ ?_
 ·clear h;have h:=hx;clear hx;cbv;obtain⟨r244,er244,h⟩:=bind_some h;refine Ug hE (c267 N () rfl) (.refl _) hO fun m125 H hO=>?_;cbv;refine VZ hE (g:=fun r244=>.tup [(D9 r244.1),vi r244.2]) (P6 er244) (c268 N N (⟨bI,bJ,bK,()⟩:K0) aF) (fun _=>.tup2 (.agg rfl) (.int _ _)) (.agg (.le (.refl _) (.le (.refl _) (.le (.refl _) (.le (.refl _) (.le (.refl _) (.le (.refl _) (.le (.refl _) (.fm (hO.get 0 rfl) (.nil))))))))) (.le (.refl _) (.nil))) fun r244 hh=>?_;obtain rfl:=G0 hh;cbv;refine A9 hE hO 1 rfl rfl fun H hO=>?_;cbv;cases h;exact⟨_,⟨rfl,rfl,hO.tail⟩,.e2 .z,rfl⟩
 clear hx;rintro e l H ⟨rfl,rfl,hO⟩;cbv;refine A7 hE hO 0 rfl ?_;cbv;cases h;exact hK hO (.refl _)
def cf177 :Cf:=⟨[],[(2,5)],[],[],[],[]⟩
theorem c177 (N aF bI bJ bK r)(h:Ez N aF bI bJ bK=some r):B8 prog 177 [(AF aF),(NA bI),vi bJ,(BJ bK)] (.bool r):=by
 unfold Ez at h
 refine N3 cf177 func177 call177 ntmps177 ?_;intro E H0 K hE hK hO;cbv;refine A8 hE h (c228 N aF bI bJ bK) (.refl _) fun r1 h=>?_;cbv;refine B0 hE h (fun _ h=>?_) fun _ h=>?_
 ·cbv;refine C9 hE (g:=fun r2=>(D9 r2)) h (c229 N true) (.refl _) fun r2 h=>?_;cbv;cases h;exact hK hO (.refl _)
 cbv;cases h;exact hK hO (.refl _)
def cf178 :Cf:=⟨[6,7,3000041,8000041,9000041],[(6,20)],[],[],[(44,1000007)],[]⟩
theorem c178 (N aC aN bY r) (h:R0 N aC aN bY=some r):B8 prog 178 [.eref (B9 aC) 0,sr eZh aN,vi bY] ((NA r)):=by
 unfold R0 at h
 refine N3 cf178 func178 call178 ntmps178 ?_;intro E H0 K hE hK hO;cbv;refine C6 hE hO fun b1 H hO=>?_;cbv;refine YG hE (f:=eZj) (by decide) hO 1 h fun l3 w2 H hw2 h hO=>?_;have hO:B7 Eq H0 (.blk w2.q.id (.arr 1 (w2.q.pre++lst (Ck eZj) w2.row++w2.q.rest))::cb b1 [.sl [] .nil]::(Gp w2++[])) H:=hO;cbv;refine C6 hE hO fun b4 H hO=>?_;cbv;refine A9 hE hO 0 rfl rfl fun H hO=>?_;cbv;refine F3 hE ?_;cbv;obtain⟨s7,hx,h⟩:=bind_some h;refine Q7 cf178 hE N4 (γ:=Rw B5) (fun s5 g=>[(0,.v (.eref (B9 aC) 0)),fi 2 bY,(6,.v (.ref b1 0)),(7,.v (.ref b4 0)),(12,.v (sr eZh aN)),fi 13 (Ar.len aN),fi 14 s5.1]) (fun s5 g H1=>BG g s5.2∧B7 Eq H0 (cb b4 [.own g.q.id g.q.lo g.q.n]:: .blk g.q.id (.arr 1 (g.q.pre++lst (Ck eZj) g.row++g.q.rest))::cb b1 [.sl [] .nil]::(Gp g++[])) H1) (fun x e l H1=>∃u1:Rw B5,BG u1 x∧e= .exit 0∧l=[(6,.v (.ref b1 0)),(7,.v (.ref b4 0))]∧B7 Eq H0 (cb b4 [.own u1.q.id u1.q.lo u1.q.n]:: .blk u1.q.id (.arr 1 (u1.q.pre++lst (Ck eZj) u1.row++u1.q.rest))::cb b1 [.sl [] .nil]::(Gp u1++[])) H1) (by kernel_rfl) ?_ w2 hx ?_ ?_ ?_
 ·rintro s5 w6 H o ⟨hw6,hO⟩ h;clear hx;cbv;refine B0 hE h (fun _ h=>?_) fun _ h=>?_
  ·cbv;refine D1 hE eZq h fun x8 h=>?_;cbv;refine B0 hE h (fun _ h=>?_) fun _ h=>?_
   ·cbv;obtain⟨x9,hxx9,h⟩:=bind_some h
    obtain⟨hjx9,t10,hrx9,hax9⟩:=hw6.at hxx9
    obtain⟨Rx9,hO,hbx9⟩:=hO.rtake (w:=w6) (T1:=[]) (T2:=[]) 3 rfl hrx9;refine Rd hE hO 0 rfl hax9 fun H hO=>?_;cbv;refine A7 hE hO 1 rfl ?_;cbv;refine A7 hE hO 1 rfl ?_;cbv;refine UM hE (f:=Ck eZj) hO hw6.ok 2 rfl hjx9 ?_;cbv;refine WA hE (f:=Ck eZj) (fun _=>rfl) hO hw6.ok 2 rfl hjx9.1 hrx9 ?_;cbv;refine D1 hE eZm h fun x14 h=>?_;cbv;refine Kq hE trivial ?_;cbv;refine Qg (f:=eZj) hE FU (by decide) (l:=x9) (m:=[x14]) (.refl _) (.lstc (.eq (eZm x14) (.refl _)) (.lst0)) h fun l15 h=>?_;cbv;refine Rf hE hO 0 rfl fun t11 H hO htt11=>?_;cbv;refine UM hE (f:=Ck eZj) hO hw6.ok 2 rfl hjx9 ?_;cbv;refine UL hE (f:=Ck eZj) (tz:=1) (x':=(l15,t11)) (fun _=>⟨.sl (lst eZj l15) t11,.refl _,rfl,rfl,rfl⟩) (by decide) hO hw6.ok 2 rfl hjx9 fun H hO=>?_;cbv;obtain⟨l13,hu,h⟩:=bind_some h;obtain⟨w12,hqw12,hw12,hO⟩:∃w0:Rw B5,w0.q=w6.q∧BG w0 l13∧B7 Eq H0 (cb b4 [.own w0.q.id w0.q.lo w0.q.n]:: .blk w0.q.id (.arr 1 (w0.q.pre++lst (Ck eZj) w0.row++w0.q.rest))::cb b1 [.sl [] .nil]::(Gp w0++[])) H:=⟨(⟨w6.q,w6.row.set (x8.v).toNat (l15,t11)⟩:Rw B5),rfl,by rw[Tq hu];exact hw6.put _ htt11,(by have e:=hbx9 (l15,t11) H [cb b4 [.own w6.q.id w6.q.lo w6.q.n],.blk w6.q.id (.arr 1 (w6.q.pre++lst (Ck eZj) (w6.row.set (x8.v).toNat (l15,t11))++w6.q.rest)),cb b1 [.sl [] .nil]] hO;simp only[List.cons_append,List.nil_append,append_nil]at e ⊢;exact e)⟩
    try rw[←hqw12]
    cases h;exact⟨_,w12,rfl,.e rfl (.e2 (.e4 .z)),rfl,hw12,hO⟩
   cbv;cases h;exact⟨_,w6,rfl,.e rfl (.e2 (.e4 .z)),rfl,hw6,hO⟩
  cbv;cases h;exact⟨_,_,rfl,⟨w6,hw6,rfl,rfl,hO⟩,.e2 .z,rfl⟩
 ·exact .e rfl (.e2 (.e4 .z))
 ·exact⟨hw2,hO⟩
 clear hx;rintro e l H ⟨w16,hw16,rfl,rfl,hO⟩;cbv;refine TW hE (e:=eZy) eZM hO hw16 0 1 rfl rfl rfl (by decide) fun H hO=>?_;have hO:B7 Eq H0 [cb b4 [sr eZy s7],cb b1 [.sl [] .nil]] H:=hO.rdrop (w:=w16) (T1:=[]) (T2:=[]) 2 rfl;cbv;refine A7 hE hO 0 rfl ?_;cbv;refine A9 hE hO 1 rfl rfl fun H hO=>?_;cbv;refine A7 hE hO 1 rfl ?_;cbv;cases h;exact hK hO (.refl _)
def cf139 :Cf:=⟨[],[(2,15)],[],[],[],[]⟩
theorem c139 (N aC aA aH bX r)(h:J4 N aC aA aH bX=some r):B8 prog 139 [.eref (B9 aC) 0,(C4 aA),sr eZh aH,vi bX] (.bool r):=by
 unfold J4 at h
 refine N3 cf139 func139 call139 ntmps139 ?_;intro E H0 K hE hK hO;cbv;refine D1 hE eZm h fun x1 h=>?_;cbv;refine B0 hE h (fun _ h=>?_) fun _ h=>?_
 ·cbv;refine C9 hE (g:=fun r2=>(NA r2)) h (c178 N aC aH bX) (.refl _) fun r2 h=>?_;cbv;refine A8 hE h (c177 N aA.cK r2 aA.Var x1) (.refl _) fun r3 h=>?_;cbv;cases h;exact hK hO (.refl _)
 cbv;cases h;exact hK hO (.refl _)
def cf230 :Cf:=⟨[22],[],[],[],[],[]⟩
theorem c230 (N aG aR r) (h:U3 N aG aR=some r):Mq prog 230 [.sl [] .nil,vi aR] 2 (lst eZh r):=by
 unfold U3 at h
 obtain⟨h1,h2,hr⟩:=Ul (f:=eZh) h;rw[hr];clear hr h;intro H0
 have hneg:∀b,Ar.cmp .lss aR 0=b→b=false:=fun b h=>by rw[Ar.cmp_eq]at h;subst h;simp[Hm];omega
 have hsub:ar .sub .i64 aR (ar .sub .i64 0 0)=aR:=by rw[Ar.ar_eq,Ar.ar_eq];simp only[arI];rw[show(0:Int) - 0=0 from rfl,wrap_small 0 (by omega) (by omega),Int.sub_zero];exact wrap_small _ (by omega) (by omega)
 have hgt:∀b,Ar.cmp .gtr (ar .sub .i64 aR (ar .sub .i64 0 0)) 0=b→(b=false→aR=0):=fun b h=>by rw[hsub,Ar.cmp_eq]at h;subst h;simp[Hm];omega
 have hbn:aR.toNat*16≤140737488355328:=by have:=Wb (a:=aR.toNat) (b:=0) (by_:=16) (by omega) (by decide);simpa using this
 have hl0:(0:Int)=(([]:List V).length:Nat):=rfl;refine Gl (T:=TT) cf230 N4 func230 (by rfl) (by kernel_rfl) call230 ntmps230 (by rfl) (by rfl) ?_;intro E K hE hK hN;cbv;refine YA hE (fun hc=>absurd (hneg _ hc) (by decide)) (fun hc=>?_);cbv;refine Yz hE hl0 ?_;cbv;refine YA hE (fun hc2=>?_) (fun hc2=>?_)
 ·cbv;refine VI hE ?_;cbv;refine TI hE aR hsub (.inl rfl) h1 hbn fun t m row j ht hm hrow=>?_;obtain⟨RL,hRL,hR0⟩:∃RL:Int,RL=(row.length:Nat)∧0≤RL:=⟨_,rfl,by omega⟩;cbv;refine Yz hE hl0 ?_;cbv;refine TH hE (B1 _ _ _) hRL 0 0 rfl rfl (Int.le_refl _) (Int.le_refl _) hR0 fun l' n' q1 q2=>?_;cbv
  have e1:0=l':=by omega
  have e2:0=n':=by omega
  subst e1 e2;exact hK ⟨t,0,0,[],row⟩ [] _ ⟨rfl,rfl⟩ ((B7.start F5 rfl).push ht rfl)
 cbv;exact hN rfl [] H0 (.start F5 rfl)
theorem c180 {cmp:A3→A3→Option Int}{g:Nat}{C:List V}(eg:∀vals w,(callFunc g vals).run prog w= .ok (.enter g vals) w)(hc:∀y1 y2 r,cmp y1 y2=some r→B8 prog g ([(I9 y1),(I9 y2)]++C) (vi r)){l r:List A3}(h:JQ cmp l=some r):
 Nr prog 180 (.func (.func g) [] C) 2 (lst eZh l) (lst eZh r):=Ji Go.Proofs.Tryz.sorts180 call180 (va:=fun x=>(R9 x)) eZq (fun _=>rfl) eg hc h
theorem c181 (N aB aD r)(h:As N aB aD=some r):B8 prog 181 [(I9 aB),(I9 aD)] (vi r):=by
 unfold As at h
 refine N3 cf0 func181 call181 ntmps181 ?_;intro E H0 K hE hK hO;cbv;cases h;exact hK hO (.refl _)
def cfo179 :Cf:=⟨[6000002],[],[],[],[],[]⟩
theorem o179 (N bF r) (h:S3 N bF=some r):Mq prog 179 [sr eZA bF] 2 (lst eZh r):=by
 unfold S3 at h
 intro H0;refine Gl (T:=TT) (F:=H0) cfo179 N4 func179 (by rfl) (by kernel_rfl) call179 ntmps179 (by rfl) (by rfl) ?_;intro E K hE hK hN;have hO:B7 Eq H0 [] H0:=.start F5 rfl;cbv;refine Qe hE (f:=eZh) hO fun q1 H hq1 hO=>?_;cbv;refine F3 hE ?_;cbv;obtain⟨s3,hx,h⟩:=bind_some h;refine K1 cfo179 hE N4 (fun s2=>[(0,.v (sr eZA bF)),fi 3 s2.1,(9,.v (sr eZA bF)),fi 10 (Ar.len bF),fi 11 s2.2]) (fun s2 H1=>B7 Eq H0 [ob q1 2 eZh ([]:List A3)] H1) (fun x e l H1=>e= .exit 0∧l=[(0,.v (sr eZA bF)),fi 3 x]∧B7 Eq H0 [ob q1 2 eZh ([]:List A3)] H1) (by kernel_rfl) ?_ hx ?_ hO ?_
 ·intro s2 H o hO h;clear hx;cbv;refine B0 hE h (fun _ h=>?_) fun _ h=>?_
  ·cbv;refine D1 hE eZF h fun x4 h=>?_;cbv;refine F3 hE ?_;cbv;refine B0 hE h (fun _ h=>?_) fun _ h=>?_
   ·cbv;cases h
   cbv;cases h;exact⟨_,rfl,.e rfl (.e4 .z),rfl,hO⟩
  cbv;cases h;exact⟨_,_,rfl,⟨rfl,rfl,hO⟩,.e2 .z,rfl⟩
 ·exact .e rfl (.e4 .z)
 clear hx;rintro e l H ⟨rfl,rfl,hO⟩;cbv;refine JA hE (f:=eZh) h (c230 N [] s3) (.cons (.refl _) (.cons (.refl _) .nil)) hO fun l5 q6 H hq6 hO h=>?_;cbv;refine F3 hE ?_;cbv;obtain⟨s9,hx,h⟩:=bind_some h;refine Q7 cfo179 hE N4 (γ:=OG) (fun s7 g=>[(6,.v (.own g.id g.lo g.n)),(25,.v (sr eZA bF)),fi 26 (Ar.len bF),fi 27 s7.1]) (fun s7 g H1=>T7 g (Ar.len s7.2)∧B7 Eq H0 [ob g 2 eZh s7.2,ob q1 2 eZh ([]:List A3)] H1) (fun x e l H1=>∃u1:OG,T7 u1 (Ar.len x)∧e= .exit 2∧l=[(6,.v (.own u1.id u1.lo u1.n))]∧B7 Eq H0 [ob u1 2 eZh x,ob q1 2 eZh ([]:List A3)] H1) (by kernel_rfl) ?_ q6 hx ?_ ?_ ?_
 ·rintro s7 q8 H o ⟨hq8,hO⟩ h;clear hx;cbv;refine B0 hE h (fun _ h=>?_) fun _ h=>?_
  ·cbv;refine D1 hE eZF h fun x10 h=>?_;cbv;refine MP (f:=eZh) hE M7 (by decide) hO hq8 0 rfl (m:=x10) (Il (f:=eZh) hE M7 (.refl _)) h fun l12 q11 H hq11 hO h=>?_;cbv;cases h;exact⟨_,q11,rfl,.e4 .z,rfl,hq11,hO⟩
  cbv;cases h;exact⟨_,_,rfl,⟨q8,hq8,rfl,rfl,hO⟩,.e rfl .z,rfl⟩
 ·exact .e4 .z
 ·exact⟨hq6,hO⟩
 clear hx;rintro e l H ⟨q13,hq13,rfl,rfl,hO⟩;cbv;cases h;exact hK q13 _ _ (AO hE hq13) (hO)
end Go.Ab
namespace Go.Ab
open Go.RowKit Go.Proofs Go.Proofs.Tryz I6
variable [Ar][I6]
set_option maxRecDepth 100000
theorem c140 (N aB aD r)(h:G9 N aB aD=some r):B8 prog 140 [sr eZh aB,sr eZh aD] (sr eZh r):=by
 unfold G9 at h
 refine Bd (T:=TT) cf0 N4 func140 (by rfl) (by kernel_rfl) call140 ntmps140 (by rfl) (by rfl) ?_;intro E H0 K hE hK hF;have hO:B7 Eq H0 [] H0:=.start F5 rfl;cbv;refine JA hE (f:=eZh) h (o179 N ([aB,aD])) (.cons (.lit _ (D7 ((eZF aB).symm) (D7 ((eZF aD).symm) (C1)))) (.refl _)) hO fun l1 q2 H hq2 hO h=>?_;cbv;refine Ov hE hO hq2 0 rfl h (fun l3 hx=>c180 (g:=181) (C:=[]) call181 (fun y1 y2 r hx=>c181 N y1 y2 r hx) hx) fun l3 H hq2 hO h=>?_;cbv;cases h;exact hF q2 _ _ 0 _ _ hO rfl (AO hE hq2) (.refl _)
theorem c232 (N:Nat) (aG:List A3) (bE:V) (aZ:A3→Option Bool) (bS:∀y1 q,aZ y1=some q→Q6 prog bE [(I9 y1)] (.bool q)) (r:Int) (h:P8 N aG aZ=some r):B8 prog 232 [sr eZh aG,bE] (vi r):=by
 unfold P8 at h
 refine N3 cf0 func232 call232 ntmps232 ?_;intro E H0 K hE hK hO;cbv;refine F3 hE ?_;cbv;obtain⟨s2,hx,h⟩:=bind_some h;refine K1 cf0 hE N4 (fun s1=>[(0,.v (sr eZh aG)),(1,.v (bE)),fi 7 (Ar.len aG),fi 8 s1]) (fun s1 H1=>B7 Eq H0 [] H1) (fun x e l H1=>match(generalizing:=false) x with| .inl y=>e= .exit 0∧l=[]∧B7 Eq H0 [] H1| .inr y=>e= .ret∧l=[fi 4 y]∧B7 Eq H0 [] H1) (by kernel_rfl) ?_ hx ?_ hO ?_
 ·intro s1 H o hO h;clear hx;cbv;refine B0 hE h (fun _ h=>?_) fun _ h=>?_
  ·cbv;refine D1 hE eZq h fun x3 h=>?_;cbv;refine V0 hE (g:=fun r4=>.bool r4) h (fun r4 hx=>bS x3 r4 hx) (.refl _) fun r4 h=>?_;cbv;refine B0 hE h (fun _ h=>?_) fun _ h=>?_
   ·cbv;cases h;exact⟨_,_,rfl,⟨rfl,rfl,hO⟩,.e rfl .z,rfl⟩
   cbv;cases h;exact⟨_,rfl,.e4 .z,rfl,hO⟩
  cbv;cases h;exact⟨_,_,rfl,⟨rfl,rfl,hO⟩,.z,rfl⟩
 ·exact .e4 .z
 clear hx
 rcases s2 with y5|y6
 ·rintro e l H ⟨rfl,rfl,hO⟩;cbv;cases h;exact hK hO (.refl _)
 rintro e l H ⟨rfl,rfl,hO⟩;cbv;cases h;exact hK hO (.refl _)
theorem c182 (N:Nat)(aG:List A3)(bE:V)(aZ:A3→Option Bool)(bS:∀y1 q,aZ y1=some q→Q6 prog bE [(I9 y1)] (.bool q))(r:Bool)(h:H5 N aG aZ=some r):B8 prog 182 [sr eZh aG,bE] (.bool r):=by
 unfold H5 at h
 refine N3 cf0 func182 call182 ntmps182 ?_;intro E H0 K hE hK hO;cbv;refine A8 hE h (c232 N aG bE aZ bS) (.refl _) fun r1 h=>?_;cbv;cases h;exact hK hO (.refl _)
theorem c185 (N aP aQ r)(h:M5 N aP aQ=some r):B8 prog 185 [(I9 aP),.eref [vi aQ] 0] (.bool r):=by
 unfold M5 at h
 refine N3 cf0 func185 call185 ntmps185 ?_;intro E H0 K hE hK hO;cbv;cases h;exact hK hO (.refl _)
def cf143 :Cf:=⟨[12],[(1,12),(5,19),(7,11)],[],[],[(73,12)],[]⟩
theorem c143 (N aC aA aH aG r) (h:K7 N aC aA aH aG=some r):B8 prog 143 [.eref (B9 aC) 0,(C4 aA),sr eZh aH,sr eZh aG] (.bool r):=by
 unfold K7 at h
 refine N3 cf143 func143 call143 ntmps143 ?_;intro E H0 K hE hK hO;cbv;refine D1 hE eZq h fun x1 h=>?_;cbv;refine F3 hE ?_;cbv;refine D1 hE eZq h fun x2 h=>?_;cbv;refine A8 hE h (c140 N aH aG) (.refl _) fun r3 h=>?_;cbv;refine B0 hE h (fun _ h=>?_) fun _ h=>?_
 ·cbv;refine D1 hE eZm h fun x4 h=>?_;cbv;refine D1 hE eZm h fun x5 h=>?_;cbv;cases h;exact hK hO (.refl _)
 cbv;refine B0 hE h (fun _ h=>?_) fun _ h=>?_
 ·cbv;refine F3 hE ?_;cbv;refine C9 hE (g:=fun r6=>(NA r6)) h (c178 N aC r3 (Ar.len aC.cN)) (.refl _) fun r6 h=>?_;cbv;refine A8 hE h (c177 N aA.cK r6 (-1) (⟨0,0,0,0,[]⟩:B5)) (.cons (.refl _) (.cons (.refl _) (.cons (.refl _) (.cons (.agg (.cons (.refl _) (.cons (.refl _) (.cons (.refl _) (.cons (.refl _) (.cons (.lit _ (C1)) (.refl _))))))) (.refl _))))) fun r7 h=>?_;cbv;cases h;exact hK hO (.refl _)
 cbv;refine C6 hE hO fun b8 H hO=>?_;cbv;refine A9 hE hO 0 rfl rfl fun H hO=>?_;cbv;obtain⟨s11,hx,h⟩:=bind_some h;refine Q7 cf143 hE N4 (γ:=Nat) (fun s9 g=>[(0,.v (.eref (B9 aC) 0)),(3,.v (sr eZh aG)),(5,.v (.eref (C7 aA) 0)),fi 10 x2.at_,(11,.v (sr eZh r3)),(12,.v (.ref g 0))]) (fun s9 g H1=>True∧B7 Eq H0 [cb g [vi s9]] H1) (fun x e l H1=>match(generalizing:=false) x with| .inl y=>e= .exit 1∧l=[]∧B7 Eq H0 [] H1| .inr y=>e= .ret∧l=[(8,.b false)]∧B7 Eq H0 [] H1) (by kernel_rfl) ?_ b8 hx ?_ ?_ ?_
 ·rintro s9 b10 H o ⟨hb10,hO⟩ h;clear hx;cbv;refine A7 hE hO 0 rfl ?_;cbv;refine B0 hE h (fun _ h=>?_) fun _ h=>?_
  ·cbv;refine YI hE hO 0 rfl fun H hO=>?_;cbv;refine A8 hE (g:=fun r12=>.bool r12) h (fun r12 hx=>c182 N aG (.func (.func 185) [] [.eref [vi s9] 0]) (fun y1=>M5 N y1 s9) (fun y1 r hx=>B8.value (F:=[]) (C:=[.eref [vi s9] 0]) (c185 N y1 s9 r hx)) r12 hx) (.refl _) fun r12 h=>?_;cbv;refine B0 hE h (fun _ h=>?_) fun _ h=>?_
   ·cbv;refine A8 hE h (c139 N aC aA r3 s9) (.refl _) fun r13 h=>?_;cbv;refine B0 hE h (fun _ h=>?_) fun _ h=>?_
    ·cbv;cases h;exact⟨_,_,rfl,⟨rfl,rfl,hO⟩,.b rfl (.z),rfl⟩
    cbv;refine C6 hE hO fun b14 H hO=>?_;cbv;refine A9 hE hO 0 rfl rfl fun H hO=>?_;cbv;refine A7 hE hO 0 rfl ?_;cbv;refine A9 hE hO 0 rfl rfl fun H hO=>?_;cbv;cases h;exact⟨_,b14,rfl,.e2 (.e4 .z),rfl,trivial,hO⟩
   cbv;refine C6 hE hO fun b15 H hO=>?_;cbv;refine A9 hE hO 0 rfl rfl fun H hO=>?_;cbv;refine A7 hE hO 0 rfl ?_;cbv;refine A9 hE hO 0 rfl rfl fun H hO=>?_;cbv;cases h;exact⟨_,b15,rfl,.e2 (.e4 .z),rfl,trivial,hO⟩
  cbv;cases h;exact⟨_,_,rfl,⟨rfl,rfl,hO.tail⟩,.z,rfl⟩
 ·exact .e2 (.e4 .z)
 ·exact⟨trivial,hO⟩
 clear hx
 rcases s11 with y16|y17
 ·rintro e l H ⟨rfl,rfl,hO⟩;cbv;cases h;exact hK hO (.refl _)
 rintro e l H ⟨rfl,rfl,hO⟩;cbv;cases h;exact hK hO (.refl _)
theorem c184 (N bA aQ r)(h:O9 N bA aQ=some r):B8 prog 184 [(I9 bA),.eref (R9 aQ) 0] (.bool r):=by
 unfold O9 at h
 refine N3 cf0 func184 call184 ntmps184 ?_;intro E H0 K hE hK hO;cbv;cases h;exact hK hO (.refl _)
theorem c183 (N aP aQ r)(h:R4 N aP aQ=some r):B8 prog 183 [(I9 aP),.eref [sr eZh aQ] 0] (.bool r):=by
 unfold R4 at h
 refine N3 cf0 func183 call183 ntmps183 ?_;intro E H0 K hE hK hO;cbv;refine A8 hE (g:=fun r1=>.bool r1) h (fun r1 hx=>c182 N aQ (.func (.func 184) [] [.eref (R9 aP) 0]) (fun y1=>O9 N y1 aP) (fun y1 r hx=>B8.value (F:=[]) (C:=[.eref (R9 aP) 0]) (c184 N y1 aP r hx)) r1 hx) (.refl _) fun r1 h=>?_;cbv;cases h;exact hK hO (.refl _)
theorem c141 (N aB aD r)(h:S8 N aB aD=some r):B8 prog 141 [sr eZh aB,sr eZh aD] (.bool r):=by
 unfold S8 at h
 refine N3 cf0 func141 call141 ntmps141 ?_;intro E H0 K hE hK hO;cbv;refine A8 hE (g:=fun r1=>.bool r1) h (fun r1 hx=>c182 N aB (.func (.func 183) [] [.eref [sr eZh aD] 0]) (fun y1=>R4 N y1 aD) (fun y1 r hx=>B8.value (F:=[]) (C:=[.eref [sr eZh aD] 0]) (c183 N y1 aD r hx)) r1 hx) (.refl _) fun r1 h=>?_;cbv;cases h;exact hK hO (.refl _)
theorem c142 (N aG r)(h:P1 N aG=some r):B8 prog 142 [sr eZh aG] (vi r):=by
 unfold P1 at h
 refine N3 cf0 func142 call142 ntmps142 ?_;intro E H0 K hE hK hO;cbv;refine F3 hE ?_;cbv;refine D1 hE eZq h fun x1 h=>?_;cbv;cases h;exact hK hO (.refl _)
def cf218 :Cf:=⟨[7],[],[],[],[],[]⟩
theorem c218 (N aG r)(h:K6 N aG=some r):Mq prog 218 [sr eZi aG] 5 (lst eZi r):=by
 unfold K6 at h
 intro H0;refine Gl (T:=TT) cf218 N4 func218 (by rfl) (by kernel_rfl) call218 ntmps218 (by rfl) (by rfl) ?_;intro E K hE hK hN;have hO:B7 Eq H0 [] H0:=.start F5 rfl;cbv;refine XG hE rfl (fun hx=>?_) ?_
 ·cbv;exact hN (Vf hx h) [] H0 hO
 cbv;refine VW (f:=eZi) hE J6 (by decide) hO (.inr rfl) (m:=aG) (Il (f:=eZi) hE J6 (.refl _)) h fun l q H hq hO h=>?_;cbv;cases h;exact hK q _ _ (AO hE hq) hO
def K57 (N n:Nat):Prop:=∀(aC:C5) (aA:A1) (aH:List A3) (aS:Int) (r:(List A4)),G8 N n aC aA aH aS=some r→FP prog 57 [.eref (B9 aC) 0,(C4 aA),sr eZh aH,vi aS] (fun v=>Ld prog v (r.map fun(x:A4)=>[(B3 x)]))
def cf123 :Cf:=⟨[],[],[(9,4)],[],[],[]⟩
def cf121 :Cf:=⟨[6,1000005],[],[],[],[],[]⟩
def Yl (N n:Nat):Prop:=∀(aQ:C5) (aV:A1) (bU:List A3) (bV:Int) (r:(List A4)),O0 N n aQ aV bU bV=some r→Ie prog 121 (fun yv=>[yv,.eref [.eref (B9 aQ) 0] 0,.eref (C7 aV) 0,.eref [sr eZh bU] 0,.eref [vi bV] 0]) (List.map (fun(x:A4)=>[(B3 x)]) r) rbN
def cf122 :Cf:=⟨[10,12,13,1000009],[(6,22),(23,7)],[(88,21)],[],[],[]⟩
def Yk (N n:Nat):Prop:=∀(aC:C5) (aA:A1) (aH:List A3) (aS:Int) (r:(List A4)),R3 N n aC aA aH aS=some r→Ie prog 122 (fun yv=>[.eref (B9 aC) 0,(C4 aA),sr eZh aH,vi aS,yv]) (List.map (fun(x:A4)=>[(B3 x)]) r) rbB
def cf158 :Cf:=⟨[14,1000013],[(3,6),(10,12),(16,17)],[(39,4),(54,10),(75,15)],[],[],[]⟩
def WM (N n:Nat):Prop:=∀(aC:C5) (aA:A1) (aH:List A3) (aS:Int) (aY:List A2) (aG:List A3) (r:(List A4)),M4 N n aC aA aH aS aY aG=some r→Ie prog 158 (fun yv=>[.eref (B9 aC) 0,(C4 aA),sr eZh aH,vi aS,sr eZi aY,sr eZh aG,yv]) (List.map (fun(x:A4)=>[(B3 x)]) r) rbB
theorem k57 (N n:Nat)(ih121:Yl N n):K57 N (n+1):=by
 intro aC aA aH aS r h
 unfold G8 at h
 refine GF cf0 N4 func57 (by rfl) (by kernel_rfl) call57 ntmps57 (by rfl) (by rfl) ?_;intro E H0 K hE hK;have hO:B7 Eq H0 [] H0:=.start F5 rfl;cbv;exact hK _ _ _ hO (GB call121 (ih121 aC aA aH aS r h))
theorem k121 (N n:Nat) (ih122:Yk N n):Yl N (n+1):=by
 intro aQ aV bU bV r h
 unfold O0 at h
 obtain⟨⟨w0,u0⟩,h1,hr⟩:=bind_some h;clear h;have hr:=G0 hr;subst hr;have h:=h1;clear h1;refine Ah cf121 N4 func121 (by rfl) (by kernel_rfl) call121 ntmps121 (by rfl) (fun _=>rfl) ?_;intro yv I D hI hD hy tl F E H K hE hO hK hKD
 have hO:B7 (I (List.map (fun(x:A4)=>[(B3 x)]) (w0++[])++tl)) F [] H:=by rw[append_nil];exact hO
 cbv;refine Kq hE hy.1 ?_;cbv;refine C6 hE hO fun b1 H hO=>?_;cbv;refine A9 hE hO 0 rfl rfl fun H hO=>?_;cbv;obtain⟨l2,hl,h⟩:=bind_some h;obtain⟨w3,w4,o9,hx,h1,he⟩:=N5 h;clear h;have h:=h1;clear h1
 rw[he,append_assoc]at hO
 clear he
 rcases o9 with s10|u
 ·refine VX (Ls:=fun s7=>[cb b1 [vi s7]]) (w':=w4++[]) (cv:=.func (.func 123) [] [.ref b1 0,.eref [.eref (B9 aQ) 0] 0,.eref [yv] 0]) hE hI hD ⟨rfl,rfl⟩ (ih122 aQ aV bU bV l2 hl) hx hO (.refl _) ?_ ?_ ?_
  ·rintro s7 y8 w5 w6 F H o h hO;clear hx hl;refine G2.value (F:=[]) (C:=[.ref b1 0,.eref [.eref (B9 aQ) 0] 0,.eref [yv] 0]) (OT cf123 N4 func123 (by rfl) (by kernel_rfl) call123 ntmps123 (by rfl) (by rfl) ?_);intro E K hE hK hKD;cbv;refine A7 hE hO 0 rfl ?_;cbv;refine A9 hE hO 0 rfl rfl fun H hO=>?_;cbv;refine A7 hE hO 0 rfl ?_;cbv;obtain⟨w12,w13,s11,hx,h1,he⟩:=N5 h;clear h;have h:=h1;clear h1
   rw[he,append_assoc]at hO
   clear he;refine M1 cf123 hE N4 (fun e l H1=>(e= .normal∧l=[(2,.v (.eref [.eref (B9 aQ) 0] 0)),(3,.v (.eref [yv] 0)),(4,.v (.eref (K9 y8) 0))]∧B7 (I (List.map (fun(x:A4)=>[(B3 x)]) (w13++w6)++tl)) F [cb b1 [vi (ar .add .i64 s7 1)]] H1)∨(False)) (by kernel_rfl) ?_ ?_
   ·clear h;have h:=hx;clear hx;cbv;refine B0 hE h (fun _ h=>?_) fun _ h=>?_
    ·cbv;refine A7 hE hO 0 rfl ?_;cbv;cases h
    cbv;obtain⟨hw,rfl⟩:=E4 h
    rw[←hw]at hO
    exact⟨_,.inl ⟨rfl,rfl,hO⟩,.e rfl (.e2 .z),rfl⟩
   clear hx;rintro e l H hX
   rcases hX with hX|hX
   ·obtain⟨rfl,rfl,hO⟩:=hX;cbv;refine B0 hE h (fun _ h=>?_) fun _ h=>?_
    ·cbv;obtain⟨w14,h1,he⟩:=W0 h;clear h;have h:=h1;clear h1
     rw[he,append_assoc]at hO
     clear he;have hO:B7 (I ([(B3 y8)]::(List.map (fun(x:A4)=>[(B3 x)]) (w14++w6)++tl))) F [cb b1 [vi (ar .add .i64 s7 1)]] _:=hO;refine Ga hE hI hD hy hO (.refl _) (fun H hO=>?_) (fun H hO=>?_)
     ·cbv;obtain⟨hw,rfl⟩:=E4 h
      rw[←hw]at hO
      exact hK _ _ ⟨_,rfl,hO⟩ rfl
     clear h;cbv;exact hKD _ _ _ hO rfl
    cbv;cases h
   exact hX.elim
  ·rintro v H hb hO;cases hb;clear hl hx;cbv;obtain⟨hw,_⟩:=E4 h
   rw[←hw]at hO
   exact hK _ _ _ hO trivial
  rintro v L H hb hO;cases hb;clear h hl hx;cbv;exact hKD _ _ _ hO trivial
 cases h
set_option maxHeartbeats 2000000 in
theorem k122 (N n:Nat) (ih57:K57 N n) (ih158:WM N n):Yk N (n+1):=by
 intro aC aA aH aS r h
 unfold R3 at h
 obtain⟨⟨w0,u0⟩,h1,hr⟩:=bind_some h;clear h;have hr:=G0 hr;subst hr;have h:=h1;clear h1;refine Ah cf122 N4 func122 (by rfl) (by kernel_rfl) call122 ntmps122 (by rfl) (fun _=>rfl) ?_;intro yv I D hI hD hy tl F E H K hE hO hK hKD
 have hO:B7 (I (List.map (fun(x:A4)=>[(B3 x)]) (w0++[])++tl)) F [] H:=by rw[append_nil];exact hO
 cbv;refine Kq hE hy.1 ?_;cbv;refine C6 hE hO fun b1 H hO=>?_;cbv;refine B0 hE h (fun hc h=>?_) (fun hc h=>?_)
 ·cbv;obtain⟨w3,w4,s7,hx,h1,he⟩:=N5 h;clear h;have h:=h1;clear h1
  rw[he,append_assoc]at hO
  clear he;refine Rg cf122 hE N4 (γ:=Unit) (fun s2 g=>[(5,.v (.eref [.eref (B9 aC) 0] 0)),(6,.v (.eref (C7 aA) 0)),(7,.v (.eref [sr eZh aH] 0)),(9,.v (.eref [yv] 0)),(10,.v (.ref b1 0)),fi 11 s2]) (fun s2 g w H1=>B7 (I (List.map (fun(x:A4)=>[(B3 x)]) w++tl)) F [cb b1 [.bool false]] H1) (fun x e l w H1=>e= .exit 1∧l=[(10,.v (.ref b1 0))]∧B7 (I (List.map (fun(x:A4)=>[(B3 x)]) w++tl)) F [cb b1 [.bool false]] H1) (fun e l H1=>(e= .ret∧l=[(10,.v (.ref b1 0))]∧B7 D F [cb b1 [.bool false]] H1)) (by kernel_rfl) ?_ (w':=w4++[]) () hx ?_ ?_ ?_ ?_
  ·rintro s2 _ w5 w6 H o hO h;clear hx
   skip
   cbv;refine F3 hE ?_;cbv;refine B0 hE h (fun hc h=>?_) (fun hc h=>?_)
   ·cbv;refine C9 hE (g:=fun r8=>.bool r8) h (c139 N aC aA aH s2) (.refl _) fun r8 h=>?_;cbv;refine B0 hE h (fun hc h=>?_) (fun hc h=>?_)
    ·cbv;refine D1 hE eZm h fun x9 h=>?_;cbv;refine C9 hE (g:=fun r10=>(Bn r10)) h (c116 N x9) (.refl _) fun r10 h=>?_;cbv;obtain⟨w11,h1,he⟩:=W0 h;clear h;have h:=h1;clear h1
     rw[he,append_assoc]at hO
     clear he;have hO:B7 (I ([.agg [vi r10.Time,vi r10.Source,vi r10.Seq,vi 0,sr eZi ([]),sr eZh ([(⟨aA.Var,s2⟩:A3)])]]::(List.map (fun(x:A4)=>[(B3 x)]) (w11++w6)++tl))) F [cb b1 [.bool false]] _:=hO;refine Ga hE hI hD hy hO (.cons (.agg (.cons (.refl _) (.cons (.refl _) (.cons (.refl _) (.cons (.refl _) (.cons (.lit _ (C1)) (.cons (.lit _ (D7 ((eZq (⟨aA.Var,s2⟩:A3)).symm) (C1))) (.refl _)))))))) (.refl _)) (fun H hO=>?_) (fun H hO=>?_)
     ·cbv;refine Ks hE (nt_eq _) ?_;cbv;obtain⟨hw,rfl⟩:=E4 h
      rw[←hw]at hO
      exact⟨_,(),rfl,.e2 (.e4 .z),rfl,hO⟩
     clear h;cbv;refine Kr hE (nt_eq _) ?_;cbv;refine A9 hE hO 0 rfl rfl fun H hO=>?_;cbv;exact .inr ⟨_,⟨rfl,rfl,hO⟩,.e rfl .z,rfl⟩
    cbv;obtain⟨hw,rfl⟩:=E4 h
    rw[←hw]at hO
    exact⟨_,(),rfl,.e2 (.e4 .z),rfl,hO⟩
   cbv;obtain⟨hw,rfl⟩:=E4 h
   rw[←hw]at hO
   exact .inl ⟨_,_,rfl,⟨rfl,rfl,hO⟩,.e rfl .z,rfl⟩
  ·exact .e2 (.e4 .z)
  ·exact hO
  ·rintro e l H ⟨rfl,rfl,hO⟩;clear hx;cbv;refine A9 hE hO 0 rfl rfl fun H hO=>?_;cbv;refine A7 hE hO 0 rfl ?_;cbv;obtain⟨hw,_⟩:=E4 h
   rw[←hw]at hO
   exact hK _ _ _ hO rfl
  rintro e l H hX;obtain⟨rfl,rfl,hO⟩:=hX;clear h;cbv;refine A7 hE hO 0 rfl ?_;cbv;exact hKD _ _ _ hO rfl
 cbv;refine B0 hE h (fun hc h=>?_) (fun hc h=>?_)
 ·cbv;refine F3 hE ?_;cbv;obtain⟨w14,w15,s18,hx,h1,he⟩:=N5 h;clear h;have h:=h1;clear h1
  rw[he,append_assoc]at hO
  clear he;refine Uc cf122 hE N4 (γ:=Unit) (fun s13 g=>[fi 3 aS,(5,.v (.eref [.eref (B9 aC) 0] 0)),(6,.v (.eref (C7 aA) 0)),(7,.v (.eref [sr eZh aH] 0)),(9,.v (.eref [yv] 0)),(10,.v (.ref b1 0)),(58,.v (sr eZn aA.cJ)),fi 59 (Ar.len aA.cJ),fi 60 s13]) (fun s13 g ds12 w H1=>B7 (I (List.map (fun(x:A4)=>[(B3 x)]) w++tl)) F (cb b1 [.bool false]::Lv ds12) H1) (fun x e l ds12 w H1=>e= .exit 3∧l=[(5,.v (.eref [.eref (B9 aC) 0] 0)),(10,.v (.ref b1 0))]∧B7 (I (List.map (fun(x:A4)=>[(B3 x)]) w++tl)) F (cb b1 [.bool false]::Lv ds12) H1) (fun e l ds12 H1=>(e= .ret∧l=[(10,.v (.ref b1 0))]∧B7 D F (cb b1 [.bool false]::Lv ds12) H1)) (by kernel_rfl) ?_ (w':=w15++[]) () hx rfl ?_ ?_ ?_ ?_
  ·rintro s13 _ ds12 w16 w17 H o hO h;clear hx
   skip
   cbv;refine B0 hE h (fun hc h=>?_) (fun hc h=>?_)
   ·cbv;refine D1 hE eZp h fun x19 h=>?_;cbv;refine C6 hE hO fun b20 H hO=>?_;cbv;refine C6 hE hO fun b21 H hO=>?_;cbv;refine A9 hE hO 1 rfl rfl fun H hO=>?_;cbv;refine A9 hE hO 0 rfl rfl fun H hO=>?_;cbv;refine A7 hE hO 0 rfl ?_;cbv;refine Df hE h (ih57 aC x19 aH aS) (.refl _) fun r22 v23 hv23 h=>?_;cbv;obtain⟨w27,w28,o31,hx,h1,he⟩:=N5 h;clear h;have h:=h1;clear h1
    rw[he,append_assoc]at hO
    clear he;refine Ko cf122 hE N4 (ι:=Unit) (σ:=Unit) (R:=Unit) (enc:=fun(x:A4)=>[(B3 x)]) (fun _ w F1 H=>B7 (I (List.map (fun(x:A4)=>[(B3 x)]) w++tl)) F1 (cb b21 (C7 x19)::cb b20 [vi s13]::cb b1 [.bool false]::Lv ds12) H) (fun _ e w F1 H=>False) (fun e F1 H=>e= .ret∧B7 D F1 (cb b21 (C7 x19)::cb b20 [vi s13]::cb b1 [.bool false]::Lv ds12) H) (fun i _ y24=>[(9,.v (.eref [yv] 0)),(10,.v (.ref b1 0)),(12,.v (.ref b20 0)),(14,.v (.eref (K9 y24) 0))]) (fun i _ y24 w F1 H=>B7 (I (List.map (fun(x:A4)=>[(B3 x)]) w++tl)) F1 (cb b21 (C7 x19)::cb b20 [vi s13]::cb b1 [.bool false]::Lv ds12) H) (fun _ _=>B7.stable (hI _) _) (fun _ _ _=>⟨fun h=>h.elim,fun _ _ h=>h.elim⟩) (fun _=>D2.con (B7.stable hD _)) (fun _ _ _ _=>B7.stable (hI _) _) hv23 hx (w':=w28++w17) hO (by decide) (fun _=>rfl) (by kernel_rfl) (by kernel_rfl) ?_ ?_ ?_ ?_ ?_
    ·rintro E i26 y24 _ w F25 H hE hO;clear hx h;cbv;exact⟨(),hO,.e4 .z,rfl⟩
    ·rintro E i26 _ y24 _ w29 w30 F25 H o hE hF h hO;clear hx;cbv;refine A7 hE hO 1 rfl ?_;cbv;obtain⟨w32,h1,he⟩:=W0 h;clear h;have h:=h1;clear h1
     rw[he,append_assoc]at hO
     clear he;have hO:B7 (I ([.agg [vi 0,vi 0,vi 0,vi s13,sr eZi ([y24.d]),sr eZh y24.s]]::(List.map (fun(x:A4)=>[(B3 x)]) (w32++w30)++tl))) F25 (cb b21 (C7 x19)::cb b20 [vi s13]::cb b1 [.bool false]::Lv ds12) _:=hO;refine Ga hE hI hD hy hO (.cons (.agg (.cons (.refl _) (.cons (.refl _) (.cons (.refl _) (.cons (.refl _) (.cons (.lit _ (D7 ((eZk y24.d).symm) (C1))) (.refl _))))))) (.refl _)) (fun H hO=>?_) (fun H hO=>?_)
     ·cbv;refine Ks hE (nt_eq _) ?_;cbv;obtain⟨hw,rfl⟩:=E4 h
      rw[←hw]at hO
      exact⟨_,rfl,hO⟩
     clear h;cbv;refine Kr hE (nt_eq _) ?_;cbv;refine A9 hE hO 2 rfl rfl fun H hO=>?_;cbv
     first|exact .inr ⟨rfl,rfl,hO⟩|exact .inr (hO)
    ·rintro d33 _ H rfl hd hO;have hO:B7 (I (List.map (fun(x:A4)=>[(B3 x)]) (w28++w17)++tl)) F (cb b21 (C7 x19)::cb b20 [vi s13]::cb b1 [.bool false]::Lv (d33::ds12)) H:=B7.dbs1 (A:=[_,_,_]) (ds:=ds12) (B7.dblk hd hO);clear hd hx;cbv;obtain⟨hw,rfl⟩:=E4 h
     rw[←hw]at hO
     exact⟨_,(),_,rfl,.e rfl (.e4 (.e4 .z)),rfl,hO.tail.tail⟩
    ·rintro _ _ _ _ _ _ h;exact h.elim
    rintro d33 e H hd ⟨rfl,hO⟩;have hO:B7 D F (cb b21 (C7 x19)::cb b20 [vi s13]::cb b1 [.bool false]::Lv (d33::ds12)) H:=B7.dbs1 (A:=[_,_,_]) (ds:=ds12) (B7.dblk hd hO);clear hd hx h;cbv;exact .inr ⟨_,_,⟨rfl,rfl,hO.tail.tail⟩,.e rfl .z,rfl⟩
   cbv;obtain⟨hw,rfl⟩:=E4 h
   rw[←hw]at hO
   exact .inl ⟨_,_,_,rfl,⟨rfl,rfl,hO⟩,.e2 .z,rfl⟩
  ·exact .e rfl (.e4 (.e4 .z))
  ·exact hO
  ·rintro e l ds12 H ⟨rfl,rfl,hO⟩;clear hx;cbv;refine A9 hE hO 0 rfl rfl fun H hO=>?_;cbv
   rcases ds12 with _|⟨d0,ds12⟩
   ·cbv;have hO:B7 _ _ [cb b1 [.bool (Ar.cmp .eql aC.count 0)]] H:=hO;refine A7 hE hO 0 rfl ?_;cbv;obtain⟨hc,h⟩:=CL h;obtain⟨hw,_⟩:=E4 h
    rw[←hw]at hO
    exact hK _ _ _ hO (congrArg V.bool hc)
   cbv;refine Ud (A:=[_]) (ds:=d0::ds12) hE hO fun H hO=>?_;cbv;refine A7 hE hO 0 rfl ?_;cbv;obtain⟨hc,h⟩:=CL h;obtain⟨hw,_⟩:=E4 h
   rw[←hw]at hO
   exact hK _ _ _ hO (congrArg V.bool hc)
  rintro e l ds12 H hX;obtain⟨rfl,rfl,hO⟩:=hX;clear h;cbv
  rcases ds12 with _|⟨d0,ds12⟩
  ·cbv;have hO:B7 _ _ [cb b1 [.bool false]] H:=hO;refine A7 hE hO 0 rfl ?_;cbv;exact hKD _ _ _ hO rfl
  cbv;refine Ud (A:=[_]) (ds:=d0::ds12) hE hO fun H hO=>?_;cbv;refine A7 hE hO 0 rfl ?_;cbv;exact hKD _ _ _ hO rfl
 cbv;obtain⟨w35,w36,s34,hx,h1,he⟩:=N5 h;clear h;have h:=h1;clear h1
 rw[he,append_assoc]at hO
 clear he;refine M1 cf122 hE N4 (fun e l H1=>(e= .normal∧l=[fi 3 aS,(5,.v (.eref [.eref (B9 aC) 0] 0)),(6,.v (.eref (C7 aA) 0)),(7,.v (.eref [sr eZh aH] 0)),(9,.v (.eref [yv] 0)),(10,.v (.ref b1 0)),(88,.v (.bool s34))]∧B7 (I (List.map (fun(x:A4)=>[(B3 x)]) (w36++[])++tl)) F [cb b1 [.bool false]] H1)∨(False)) (by kernel_rfl) ?_ ?_
 ·clear h;have h:=hx;clear hx;cbv;refine B0 hE h (fun hc h=>?_) (fun hc h=>?_)
  ·cbv;obtain⟨hw,rfl⟩:=E4 h
   rw[←hw]at hO
   exact⟨_,.inl ⟨rfl,rfl,hO⟩,.e rfl (.e2 (.e4 .z)),rfl⟩
  cbv;refine B0 hE h (fun hc h=>?_) (fun hc h=>?_)
  ·cbv;obtain⟨hw,rfl⟩:=E4 h
   rw[←hw]at hO
   exact⟨_,.inl ⟨rfl,rfl,hO⟩,.e rfl (.e2 (.e4 .z)),rfl⟩
  cbv;obtain⟨hw,rfl⟩:=E4 h
  rw[←hw]at hO
  exact⟨_,.inl ⟨rfl,rfl,hO⟩,.e rfl (.e2 (.e4 .z)),rfl⟩
 clear hx;rintro e l H hX
 rcases hX with hX|hX
 ·obtain⟨rfl,rfl,hO⟩:=hX;cbv;refine B0 hE h (fun hc h=>?_) (fun hc h=>?_)
  ·cbv;obtain⟨l37,hl,h⟩:=bind_some h;obtain⟨w38,h1,he⟩:=W0 h;clear h;have h:=h1;clear h1
   rw[he,append_assoc]at hO
   clear he
   rw[List.map_append,append_assoc]at hO
   refine MR hE hI hD hy (ih158 aC aA aH aS ([]) ([]) l37 hl) hO (.cons (.refl _) (.cons (.refl _) (.cons (.refl _) (.cons (.refl _) (.cons (.lit _ (C1)) (.cons (.lit _ (C1)) (.refl _))))))) (fun v H hb hO=>?_) (fun v H hb hO=>?_)
   ·cases hb;clear hl;cbv;refine A9 hE hO 0 rfl rfl fun H hO=>?_;cbv;refine A7 hE hO 0 rfl ?_;cbv;obtain⟨hw,_⟩:=E4 h
    rw[←hw]at hO
    exact hK _ _ _ hO rfl
   cases hb;clear h hl;cbv;refine A9 hE hO 0 rfl rfl fun H hO=>?_;cbv;refine A7 hE hO 0 rfl ?_;cbv;exact hKD _ _ _ hO rfl
  cbv;refine D1 hE eZp h fun x39 h=>?_;cbv;refine Df hE h (ih57 aC x39 aH aS) (.refl _) fun r40 v41 hv41 h=>?_;cbv;obtain⟨w45,w46,o49,hx,h1,he⟩:=N5 h;clear h;have h:=h1;clear h1
  rw[he,append_assoc]at hO
  clear he;refine Ko cf122 hE N4 (ι:=Unit) (σ:=Unit) (R:=Unit) (enc:=fun(x:A4)=>[(B3 x)]) (fun _ w F1 H=>B7 (I (List.map (fun(x:A4)=>[(B3 x)]) w++tl)) F1 [cb b1 [.bool false]] H) (fun _ e w F1 H=>False) (fun e F1 H=>e= .ret∧B7 D F1 [cb b1 [.bool false]] H) (fun i _ y42=>[(5,.v (.eref [.eref (B9 aC) 0] 0)),(6,.v (.eref (C7 aA) 0)),(7,.v (.eref [sr eZh aH] 0)),(9,.v (.eref [yv] 0)),(10,.v (.ref b1 0)),(15,.v (.eref (K9 y42) 0))]) (fun i _ y42 w F1 H=>B7 (I (List.map (fun(x:A4)=>[(B3 x)]) w++tl)) F1 [cb b1 [.bool false]] H) (fun _ _=>B7.stable (hI _) _) (fun _ _ _=>⟨fun h=>h.elim,fun _ _ h=>h.elim⟩) (fun _=>D2.con (B7.stable hD _)) (fun _ _ _ _=>B7.stable (hI _) _) hv41 hx (w':=w46++[]) hO (by decide) (fun _=>rfl) (by kernel_rfl) (by kernel_rfl) ?_ ?_ ?_ ?_ ?_
  ·rintro E i44 y42 _ w F43 H hE hO;clear hx h;cbv;exact⟨(),hO,.e2 (.e4 .z),rfl⟩
  ·rintro E i44 _ y42 _ w47 w48 F43 H o hE hF h hO;clear hx;cbv;refine A8 hE h (c143 N aC aA aH y42.s) (.refl _) fun r50 h=>?_;cbv;refine B0 hE h (fun hc h=>?_) (fun hc h=>?_)
   ·cbv;obtain⟨w51,h1,he⟩:=W0 h;clear h;have h:=h1;clear h1
    rw[he,append_assoc]at hO
    clear he;have hO:B7 (I ([.agg [vi 0,vi 0,vi 0,vi 0,sr eZi ([y42.d]),sr eZh y42.s]]::(List.map (fun(x:A4)=>[(B3 x)]) (w51++w48)++tl))) F43 [cb b1 [.bool false]] _:=hO;refine Ga hE hI hD hy hO (.cons (.agg (.cons (.refl _) (.cons (.refl _) (.cons (.refl _) (.cons (.refl _) (.cons (.lit _ (D7 ((eZk y42.d).symm) (C1))) (.refl _))))))) (.refl _)) (fun H hO=>?_) (fun H hO=>?_)
    ·cbv;refine Ks hE (nt_eq _) ?_;cbv;obtain⟨hw,rfl⟩:=E4 h
     rw[←hw]at hO
     exact⟨_,rfl,hO⟩
    clear h;cbv;refine Kr hE (nt_eq _) ?_;cbv;refine A9 hE hO 0 rfl rfl fun H hO=>?_;cbv
    first|exact .inr ⟨rfl,rfl,hO⟩|exact .inr (hO)
   cbv;obtain⟨hw,rfl⟩:=E4 h
   rw[←hw]at hO
   exact⟨_,rfl,hO⟩
  ·rintro d52 _ H rfl hd hO;have hO:B7 (I (List.map (fun(x:A4)=>[(B3 x)]) (w46++[])++tl)) F [cb b1 [.bool false],.blk d52 DB] H:=B7.dblk hd hO;clear hd hx;cbv;refine A9 hE hO 0 rfl rfl fun H hO=>?_;cbv;refine DR hE hO 1 rfl fun H hO=>?_;cbv;refine A7 hE hO 0 rfl ?_;cbv;obtain⟨hc,h⟩:=CL h;obtain⟨hw,_⟩:=E4 h
   rw[←hw]at hO
   exact hK _ _ _ hO (congrArg V.bool hc)
  ·rintro _ _ _ _ _ _ h;exact h.elim
  rintro d52 e H hd ⟨rfl,hO⟩;have hO:B7 D F [cb b1 [.bool false],.blk d52 DB] H:=B7.dblk hd hO;clear hd hx h;cbv;refine DR hE hO 1 rfl fun H hO=>?_;cbv;refine A7 hE hO 0 rfl ?_;cbv;exact hKD _ _ _ hO rfl
 exact hX.elim
theorem k158 (N n:Nat) (ih57:K57 N n) (ih158:WM N n):WM N (n+1):=by
 intro aC aA aH aS aY aG r h
 unfold M4 at h
 obtain⟨⟨w0,u0⟩,h1,hr⟩:=bind_some h;clear h;have hr:=G0 hr;subst hr;have h:=h1;clear h1;refine Ah cf158 N4 func158 (by rfl) (by kernel_rfl) call158 ntmps158 (by rfl) (fun _=>rfl) ?_;intro yv I D hI hD hy tl F E H K hE hO hK hKD
 have hO:B7 (I (List.map (fun(x:A4)=>[(B3 x)]) (w0++[])++tl)) F [] H:=by rw[append_nil];exact hO
 cbv;refine Kq hE hy.1 ?_;cbv;refine C6 hE hO fun b1 H hO=>?_;cbv;refine F3 hE ?_;cbv;refine F3 hE ?_;cbv;obtain⟨w3,w4,s2,hx,h1,he⟩:=N5 h;clear h;have h:=h1;clear h1
 rw[he,append_assoc]at hO
 clear he;refine M1 cf158 hE N4 (fun e l H1=>(match(generalizing:=false) s2 with| .inl y=>e= .normal∧l=[(7,.v (.eref [.eref (B9 aC) 0] 0)),(8,.v (.eref (C7 aA) 0)),(9,.v (.eref [sr eZh aH] 0)),(10,.v (.eref [vi aS] 0)),(11,.v (.eref [sr eZi aY] 0)),(12,.v (.eref [sr eZh aG] 0)),(13,.v (.eref [yv] 0)),(14,.v (.ref b1 0)),(15,.v (.eref [vi (Ar.len aY)] 0))]∧B7 (I (List.map (fun(x:A4)=>[(B3 x)]) (w4++[])++tl)) F [cb b1 [.bool false]] H1| .inr y=>e= .ret∧l=[(14,.v (.ref b1 0))]∧B7 (I (List.map (fun(x:A4)=>[(B3 x)]) (w4++[])++tl)) F [cb b1 [.bool y]] H1)∨((e= .ret∧l=[(14,.v (.ref b1 0))]∧B7 D F [cb b1 [.bool false]] H1))) (by kernel_rfl) ?_ ?_
 ·clear h;have h:=hx;clear hx;cbv;refine B0 hE h (fun hc h=>?_) (fun hc h=>?_)
  ·cbv;refine C9 hE (g:=fun r5=>sr eZi r5) h (fun r5 hx=>KU (c218 N aY r5 hx)) (.refl _) fun r5 h=>?_;cbv;obtain⟨w6,h1,he⟩:=W0 h;clear h;have h:=h1;clear h1
   rw[he,append_assoc]at hO
   clear he;have hO:B7 (I ([.agg [vi 0,vi 0,vi 0,vi 0,sr eZi r5,sr eZh aG]]::(List.map (fun(x:A4)=>[(B3 x)]) (w6++(w4++[]))++tl))) F [cb b1 [.bool false]] _:=hO;refine Ga hE hI hD hy hO (.refl _) (fun H hO=>?_) (fun H hO=>?_)
   ·cbv;refine Ks hE (nt_eq _) ?_;cbv;refine B0 hE h (fun hc h=>?_) (fun hc h=>?_)
    ·cbv;refine A9 hE hO 0 rfl rfl fun H hO=>?_;cbv;obtain⟨hw,rfl⟩:=E4 h
     rw[←hw]at hO
     exact⟨_,.inl ⟨rfl,rfl,hO⟩,.e rfl .z,rfl⟩
    cbv;obtain⟨hw,rfl⟩:=E4 h
    rw[←hw]at hO
    exact⟨_,.inl ⟨rfl,rfl,hO⟩,.e rfl (.e4 (.e4 .z)),rfl⟩
   clear h;cbv;refine Kr hE (nt_eq _) ?_;cbv;refine A9 hE hO 0 rfl rfl fun H hO=>?_;cbv;exact⟨_,.inr (⟨rfl,rfl,hO⟩),.e rfl .z,rfl⟩
  cbv;obtain⟨hw,rfl⟩:=E4 h
  rw[←hw]at hO
  exact⟨_,.inl ⟨rfl,rfl,hO⟩,.e rfl (.e4 (.e4 .z)),rfl⟩
 clear hx;rintro e l H hX
 rcases hX with hX|hX
 ·rcases s2 with y7|y34
  ·obtain⟨rfl,rfl,hO⟩:=hX;cbv;obtain⟨w9,w10,s8,hx,h1,he⟩:=N5 h;clear h;have h:=h1;clear h1
   rw[he,append_assoc]at hO
   clear he;refine M1 cf158 hE N4 (fun e l H1=>(e= .normal∧l=[(7,.v (.eref [.eref (B9 aC) 0] 0)),(8,.v (.eref (C7 aA) 0)),(9,.v (.eref [sr eZh aH] 0)),(10,.v (.eref [vi aS] 0)),(11,.v (.eref [sr eZi aY] 0)),(12,.v (.eref [sr eZh aG] 0)),(13,.v (.eref [yv] 0)),(14,.v (.ref b1 0)),(15,.v (.eref [vi (Ar.len aY)] 0)),(16,.v (sr eZh s8))]∧B7 (I (List.map (fun(x:A4)=>[(B3 x)]) (w10++[])++tl)) F [cb b1 [.bool false]] H1)∨(False)) (by kernel_rfl) ?_ ?_
   ·clear h;have h:=hx;clear hx;cbv;refine B0 hE h (fun hc h=>?_) (fun hc h=>?_)
    ·cbv;refine A8 hE h (c140 N aH aG) (.refl _) fun r11 h=>?_;cbv;obtain⟨hw,rfl⟩:=E4 h
     rw[←hw]at hO
     exact⟨_,.inl ⟨rfl,rfl,hO⟩,.e2 (.e4 (.e4 .z)),rfl⟩
    cbv;obtain⟨hw,rfl⟩:=E4 h
    rw[←hw]at hO
    exact⟨_,.inl ⟨rfl,rfl,hO⟩,.e2 (.e4 (.e4 .z)),rfl⟩
   clear hx;rintro e l H hX
   rcases hX with hX|hX
   ·obtain⟨rfl,rfl,hO⟩:=hX;cbv;refine F3 hE ?_;cbv;refine Jy hE h fun h=>?_;cbv;refine D1 hE eZp h fun x12 h=>?_;cbv;refine Df hE h (ih57 aC x12 s8 aS) (.refl _) fun r13 v14 hv14 h=>?_;cbv;obtain⟨w18,w19,o22,hx,h1,he⟩:=N5 h;clear h;have h:=h1;clear h1
    rw[he,append_assoc]at hO
    clear he;refine Ko cf158 hE N4 (ι:=Unit) (σ:=Unit) (R:=Unit) (enc:=fun(x:A4)=>[(B3 x)]) (fun _ w F1 H=>B7 (I (List.map (fun(x:A4)=>[(B3 x)]) w++tl)) F1 [cb b1 [.bool false]] H) (fun _ e w F1 H=>False) (fun e F1 H=>e= .ret∧B7 D F1 [cb b1 [.bool false]] H) (fun i _ y15=>[(7,.v (.eref [.eref (B9 aC) 0] 0)),(8,.v (.eref (C7 aA) 0)),(9,.v (.eref [sr eZh aH] 0)),(10,.v (.eref [vi aS] 0)),(11,.v (.eref [sr eZi aY] 0)),(12,.v (.eref [sr eZh aG] 0)),(13,.v (.eref [yv] 0)),(14,.v (.ref b1 0)),(15,.v (.eref [vi (Ar.len aY)] 0)),(17,.v (.eref (K9 y15) 0))]) (fun i _ y15 w F1 H=>B7 (I (List.map (fun(x:A4)=>[(B3 x)]) w++tl)) F1 [cb b1 [.bool false]] H) (fun _ _=>B7.stable (hI _) _) (fun _ _ _=>⟨fun h=>h.elim,fun _ _ h=>h.elim⟩) (fun _=>D2.con (B7.stable hD _)) (fun _ _ _ _=>B7.stable (hI _) _) hv14 hx (w':=w19++[]) hO (by decide) (fun _=>rfl) (by kernel_rfl) (by kernel_rfl) ?_ ?_ ?_ ?_ ?_
    ·rintro E i17 y15 _ w F16 H hE hO;clear hx h;cbv;exact⟨(),hO,.e2 (.e4 (.e4 .z)),rfl⟩
    ·rintro E i17 _ y15 _ w20 w21 F16 H o hE hF h hO;clear hx;cbv;obtain⟨w24,w25,s23,hx,h1,he⟩:=N5 h;clear h;have h:=h1;clear h1
     rw[he,append_assoc]at hO
     clear he;refine M1 cf158 hE N4 (fun e l H1=>(e= .normal∧l=[(7,.v (.eref [.eref (B9 aC) 0] 0)),(8,.v (.eref (C7 aA) 0)),(9,.v (.eref [sr eZh aH] 0)),(11,.v (.eref [sr eZi aY] 0)),(12,.v (.eref [sr eZh aG] 0)),(13,.v (.eref [yv] 0)),(14,.v (.ref b1 0)),(15,.v (.eref [vi (Ar.len aY)] 0)),(17,.v (.eref (K9 y15) 0)),fi 18 s23]∧B7 (I (List.map (fun(x:A4)=>[(B3 x)]) (w25++w21)++tl)) F16 [cb b1 [.bool false]] H1)∨(False)) (by kernel_rfl) ?_ ?_
     ·clear h;have h:=hx;clear hx;cbv;refine B0 hE h (fun hc h=>?_) (fun hc h=>?_)
      ·cbv;refine A8 hE h (c142 N y15.s) (.refl _) fun r26 h=>?_;cbv;obtain⟨hw,rfl⟩:=E4 h
       rw[←hw]at hO
       exact⟨_,.inl ⟨rfl,rfl,hO⟩,.e2 (.e4 (.e4 .z)),rfl⟩
      cbv;obtain⟨hw,rfl⟩:=E4 h
      rw[←hw]at hO
      exact⟨_,.inl ⟨rfl,rfl,hO⟩,.e2 (.e4 (.e4 .z)),rfl⟩
     clear hx;rintro e l H hX
     rcases hX with hX|hX
     ·obtain⟨rfl,rfl,hO⟩:=hX;cbv;refine A8 hE h (c141 N aG y15.s) (.refl _) fun r27 h=>?_;cbv;refine B0 hE h (fun hc h=>?_) (fun hc h=>?_)
      ·cbv;obtain⟨hw,rfl⟩:=E4 h
       rw[←hw]at hO
       exact⟨_,rfl,hO⟩
      cbv;refine TV hE (f:=eZi) J6 h fun l28 h=>?_;cbv;refine Qg (f:=eZi) hE J6 (by decide) (l:=l28) (m:=[y15.d]) (.refl _) (.lstc (.eq (eZk y15.d) (.refl _)) (.lst0)) h fun l29 h=>?_;cbv;refine C9 hE (g:=fun r30=>sr eZh r30) h (c140 N aG y15.s) (.refl _) fun r30 h=>?_;cbv;obtain⟨l31,hl,h⟩:=bind_some h;obtain⟨w32,h1,he⟩:=W0 h;clear h;have h:=h1;clear h1
      rw[he,append_assoc]at hO
      clear he
      rw[List.map_append,append_assoc]at hO
      refine MR hE hI hD hy (ih158 aC aA aH s23 l29 r30 l31 hl) hO (.refl _) (fun v H hb hO=>?_) (fun v H hb hO=>?_)
      ·cases hb;clear hl;cbv;refine Ks hE (nt_eq _) ?_;cbv;obtain⟨hw,rfl⟩:=E4 h
       rw[←hw]at hO
       exact⟨_,rfl,hO⟩
      cases hb;clear h hl;cbv;refine Kr hE (nt_eq _) ?_;cbv;refine A9 hE hO 0 rfl rfl fun H hO=>?_;cbv
      first|exact .inr ⟨rfl,rfl,hO⟩|exact .inr (hO)
     exact hX.elim
    ·rintro d33 _ H rfl hd hO;have hO:B7 (I (List.map (fun(x:A4)=>[(B3 x)]) (w19++[])++tl)) F [cb b1 [.bool false],.blk d33 DB] H:=B7.dblk hd hO;clear hd hx;cbv;refine A9 hE hO 0 rfl rfl fun H hO=>?_;cbv;refine DR hE hO 1 rfl fun H hO=>?_;cbv;refine A7 hE hO 0 rfl ?_;cbv;obtain⟨hc,h⟩:=CL h;obtain⟨hw,_⟩:=E4 h
     rw[←hw]at hO
     exact hK _ _ _ hO (congrArg V.bool hc)
    ·rintro _ _ _ _ _ _ h;exact h.elim
    rintro d33 e H hd ⟨rfl,hO⟩;have hO:B7 D F [cb b1 [.bool false],.blk d33 DB] H:=B7.dblk hd hO;clear hd hx h;cbv;refine DR hE hO 1 rfl fun H hO=>?_;cbv;refine A7 hE hO 0 rfl ?_;cbv;exact hKD _ _ _ hO rfl
   exact hX.elim
  obtain⟨rfl,rfl,hO⟩:=hX;cbv;refine A7 hE hO 0 rfl ?_;cbv;obtain⟨hc,h⟩:=CL h;obtain⟨hw,_⟩:=E4 h
  rw[←hw]at hO
  exact hK _ _ _ hO (congrArg V.bool hc)
 obtain⟨rfl,rfl,hO⟩:=hX;clear h;cbv;refine A7 hE hO 0 rfl ?_;cbv;exact hKD _ _ _ hO rfl
theorem Jo (N:Nat):∀n,K57 N n∧Yl N n∧Yk N n∧WM N n:=by
 intro n
 induction n with
 |zero=>exact⟨(by intro aC aA aH aS r h;unfold G8 at h;cases h),(by intro aQ aV bU bV r h;unfold O0 at h;cases h),(by intro aC aA aH aS r h;unfold R3 at h;cases h),(by intro aC aA aH aS aY aG r h;unfold M4 at h;cases h)⟩
 |succ n ih=>
  obtain⟨ih57,ih121,ih122,ih158⟩:=ih;exact⟨k57 N n ih121,k121 N n ih122,k122 N n ih57 ih158,k158 N n ih57 ih158⟩
theorem c57 (N n aC aA aH aS r)(h:G8 N n aC aA aH aS=some r):FP prog 57 [.eref (B9 aC) 0,(C4 aA),sr eZh aH,vi aS] (fun v=>Ld prog v (r.map fun(x:A4)=>[(B3 x)])):=(Jo N n).1 aC aA aH aS r h
theorem c58 {cmp:A2→A2→Option Int}{g:Nat}{C:List V}(eg:∀vals w,(callFunc g vals).run prog w= .ok (.enter g vals) w)(hc:∀y1 y2 r,cmp y1 y2=some r→B8 prog g ([(C2 y1),(C2 y2)]++C) (vi r)){l r:List A2}(h:JQ cmp l=some r):
 Nr prog 58 (.func (.func g) [] C) 5 (lst eZi l) (lst eZi r):=Ji Go.Proofs.Tryz.sorts58 call58 (va:=fun x=>(J2 x)) eZk (fun _=>rfl) eg hc h
def cf15 :Cf:=⟨[9,5000009],[(3000011,0),(3000011,1),(3000011,2),(3000011,3)],[],[2000011],[],[]⟩
set_option maxHeartbeats 2000000 in
theorem c15 (N aA aG r) (h:CS N aA aG=some r):B8 prog 15 [(C4 aA),sr eZj aG] (.tup [sr eZi r.1,vi r.2]):=by
 unfold CS at h
 refine KT (T:=TT) cf15 N4 func15 (by rfl) (by kernel_rfl) call15 ntmps15 (by rfl) (by rfl) ?_;intro E H0 K hE hK hF;have hO:B7 Eq H0 [] H0:=.start F5 rfl;cbv;refine A8 hE h (c55 N aA) (.refl _) fun r1 h=>?_;cbv;refine B0 hE h (fun _ h=>?_) fun _ h=>?_
 ·cbv;cases h;exact hK _ _ _ hO (.tup (.cons (.lit _ (C1)) (.refl _)))
 cbv;refine A8 hE h (c56 N aG) (.refl _) fun r2 h=>?_;cbv;refine B0 hE h (fun _ h=>?_) fun _ h=>?_
 ·cbv;cases h;exact hK _ _ _ hO (.tup (.cons (.lit _ (C1)) (.refl _)))
 cbv;refine Ou hE (f0:=eZi) hO fun q4 b3 H hq4 hO=>?_;cbv;refine Df hE h (c57 N N (⟨aG,0⟩:C5) aA ([]) 0) (.cons (.refl _) (.cons (.refl _) (.cons (.lit _ (C1)) (.refl _)))) fun r5 v6 hv6 h=>?_;cbv;obtain⟨o12,hx,h⟩:=bind_some h;refine HJ cf15 hE N4 (ι:=Unit) (enc:=fun(x:A4)=>[(B3 x)]) (fun(s8:(List A2)) F H=>∃g:OG,(T7 g (Ar.len s8))∧B7 Eq F [cb b3 [.own g.id g.lo g.n],ob g 5 eZi s8] H) (fun(r:Unit) e F H=>False) (fun i s8 y7=>[(9,.v (.ref b3 0)),(10,.v (.eref (K9 y7) 0))]) (fun i s8 y7 F H=>∃g:OG,(T7 g (Ar.len s8))∧B7 Eq F [cb b3 [.own g.id g.lo g.n],ob g 5 eZi s8] H) (fun _=>D2.ex fun _=>B7.stable F5 _) (fun _ _=>⟨fun h=>h.elim,fun _ _ h=>h.elim⟩) (fun _ _ _=>D2.ex fun _=>B7.stable F5 _) hv6 hx (⟨q4,hq4,hO⟩) (by decide) (fun _=>rfl) (by kernel_rfl) (by kernel_rfl) ?_ ?_ ?_ ?_
 ·rintro E i10 y7 s8 F9 H hE ⟨q11,hq11,hO⟩;clear hx h;cbv;exact⟨(),⟨q11,hq11,hO⟩,.e2 .z,rfl⟩
 ·rintro E i10 _ y7 s8 F9 H o hE hF h ⟨q11,hq11,hO⟩;clear hx;cbv;obtain⟨s13,hx,h⟩:=bind_some h;refine M1 cf15 hE N4 (fun e l H1=>∃u1:OG,T7 u1 (Ar.len s13)∧e= .normal∧l=[]∧B7 Eq F9 [cb b3 [.own u1.id u1.lo u1.n],ob u1 5 eZi s13] H1) (by kernel_rfl) ?_ ?_
  ·clear h;have h:=hx;clear hx;cbv;obtain⟨l215,el215,h⟩:=bind_some h;obtain⟨u253_0,eu253_0,h⟩:=bind_some h;obtain⟨l295,el295,h⟩:=bind_some h
   repeat' first|refine And.intro ?_ ?_|(refine A7 hE hO 0 rfl ?_;cbv)|(refine Kp hE hq11 ?_;cbv)|(refine MP (f:=eZi) hE J6 (by decide) hO hq11 1 rfl (m:=[(⟨(⟨0,0,0⟩:L4),0,[]⟩:A2)]) (Il (f:=eZi) hE J6 (.lstc (.eq (eZk (⟨(⟨0,0,0⟩:L4),0,[]⟩:A2)) (.agg (.cons (.refl _) (.cons (.refl _) (.cons (.refl _) (.cons (.refl _) (.cons (.lit _ (C1)) (.refl _)))))))) (.lst0))) (P6 el215) fun l215 q214 H hq214 hO hh=>?_;obtain rfl:=G0 hh;cbv)|(refine Q4 hE hO hq214 1 rfl (P6 eu253_0) fun hh=>?_;clear hh;cbv)|(refine AP hE (f:=eZi) (esz:=5) (tz:=5) (off:=0) (u:=(fun x294:A2=>y7.d)) (fun _=>⟨_,.eq (eZk _) (.refl _),(by rw[eZk];rfl),J6 _,rfl⟩) (by decide) hO hq214 1 rfl (P6 el295) fun l295 H hq214 hh hO=>?_;obtain rfl:=G0 hh;cbv)|(refine A9 hE hO 0 rfl rfl fun H hO=>?_;cbv)|(have h:=G0 h;subst h;exact⟨_,⟨q214,hq214,rfl,rfl,hO⟩,.z,rfl⟩)
  clear hx;rintro e l H ⟨q414,hq414,rfl,rfl,hO⟩;cbv;cases h;exact⟨_,rfl,⟨q414,hq414,hO⟩⟩
 ·rintro d415 s418 H rfl hd ⟨q419,hq419,hO⟩;have hO:B7 Eq H0 [cb b3 [.own q419.id q419.lo q419.n],ob q419 5 eZi s418,.blk d415 DB] H:=B7.dblk hd hO;clear hd;clear hx;cbv;refine B0 hE h (fun _ h=>?_) fun _ h=>?_
  ·cbv;refine DR hE hO 2 rfl fun H hO=>?_;cbv;cases h;exact hK _ _ _ hO (.tup (.cons (.lit _ (C1)) (.refl _)))
  cbv;refine A7 hE hO 0 rfl ?_;cbv;refine Kp hE hq419 ?_;cbv;obtain⟨s421,hx,h⟩:=bind_some h;refine K1 cf15 hE N4 (fun s420=>[(9,.v (.ref b3 0)),(42,.v (.own q419.id q419.lo q419.n)),fi 43 (Ar.len s418),fi 44 s420]) (fun s420 H1=>B7 Eq H0 [cb b3 [.own q419.id q419.lo q419.n],ob q419 5 eZi s418,.blk d415 DB] H1) (fun x e l H1=>match(generalizing:=false) x with| .inl y=>e= .exit 2∧l=[(9,.v (.ref b3 0))]∧B7 Eq H0 [cb b3 [.own q419.id q419.lo q419.n],ob q419 5 eZi s418,.blk d415 DB] H1| .inr y=>e= .ret∧l=[(4,.v (.sl [] .nil)),fi 5 5]∧B7 Eq H0 [cb b3 [.own q419.id q419.lo q419.n],ob q419 5 eZi s418,.blk d415 DB] H1) (by kernel_rfl) ?_ hx ?_ hO ?_
  ·intro s420 H o hO h;clear hx;cbv;refine B0 hE h (fun _ h=>?_) fun _ h=>?_
   ·cbv;refine Q4 hE hO hq419 1 rfl h fun h=>?_;cbv;refine U9 hE eZk hO hq419 1 rfl h fun x422 h=>?_;cbv;refine A8 hE h (c29 N N x422) (.refl _) fun r423 h=>?_;cbv;refine B0 hE h (fun _ h=>?_) fun _ h=>?_
    ·cbv;cases h;exact⟨_,_,rfl,⟨rfl,rfl,hO⟩,.e2 .z,rfl⟩
    cbv;cases h;exact⟨_,rfl,.e4 .z,rfl,hO⟩
   cbv;cases h;exact⟨_,_,rfl,⟨rfl,rfl,hO⟩,.e rfl .z,rfl⟩
  ·exact .e4 .z
  clear hx
  rcases s421 with y424|y426
  ·rintro e l H ⟨rfl,rfl,hO⟩;cbv;refine A7 hE hO 0 rfl ?_;cbv;refine Ov hE hO hq419 1 rfl h (fun l425 hx=>c58 (g:=21) (C:=[]) call21 (fun y1 y2 r hx=>c21 N N y1 y2 r hx) hx) fun l425 H hq419 hO h=>?_;cbv;refine A7 hE hO 0 rfl ?_;cbv;refine DR hE hO 2 rfl fun H hO=>?_;cbv;cases h;exact hF _ (Bk.tup [.bad,vi 0] 0 (by simp)) q419 _ _ 1 _ _ hO rfl (AO hE hq419) (.tup (.refl _))
  rintro e l H ⟨rfl,rfl,hO⟩;cbv;refine DR hE hO 2 rfl fun H hO=>?_;cbv;cases h;exact hK _ _ _ hO (.tup (.cons (.lit _ (C1)) (.refl _)))
 rintro d r e H rfl hd hO;exact hO.elim
def cf69 :Cf:=⟨[],[(1,14)],[],[],[],[]⟩
theorem c69 (N aB aD r)(h:Hc N aB aD=some r):B8 prog 69 [(Bn aB),(Bn aD)] (vi r):=by
 unfold Hc at h
 refine N3 cf69 func69 call69 ntmps69 ?_;intro E H0 K hE hK hO;cbv;refine C9 hE (g:=fun r1=>vi r1) h (c70 N aB.Time aD.Time) (.refl _) fun r1 h=>?_;cbv;refine C9 hE (g:=fun r2=>vi r2) h (c70 N aB.Source aD.Source) (.refl _) fun r2 h=>?_;cbv;refine A8 hE h (c70 N aB.Seq aD.Seq) (.refl _) fun r3 h=>?_;cbv;refine A8 hE h (c68 N ([r1,r2,r3])) (.cons (.lit _ (D7 (rfl) (D7 (rfl) (D7 (rfl) (C1))))) (.refl _)) fun r4 h=>?_;cbv;cases h;exact hK hO (.refl _)
end Go.Ab
