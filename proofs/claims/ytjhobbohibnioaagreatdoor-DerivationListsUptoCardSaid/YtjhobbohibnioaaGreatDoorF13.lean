/- . -/
import Derived.Test.YtjhobbohibnioaaGreatDoorF12
set_option linter.all false
open Go.Ab.Ar (ar lst nt_eq)
namespace Go.Ab
open Go.RowKit Go.Proofs Go.Proofs.Tryz O6
variable [Ar][O6]
set_option maxRecDepth 100000
def cf335:=cfA [4]
theorem c335 (N aB aW r)(h:Ef N aB aW=some r):B9 prog 335 [(W4 aB),vi aW] (.tup [(F4 r.1),vi r.2]):=by
 refine O0 cf335 func335 call335 ntmps335 ?_;intro E H0 K hE hK hO
 repeat' (cbv;first|apply C4 hE h<;>intro _ h|apply I8 hE|refine D9 hE eBh7 h fun _ h=>?_|apply C0 hE hO 0 rfl|refine C1 hE hO 0 rfl rfl fun H hO=>?_|refine E2 hE hO fun _ H hO=>?_|(cases h;exact hK hO .z))
theorem c376 (N aN r)(h:BX N aN=some r):B9 prog 376 [vi aN] (.bool r):=by
 refine O0 cf0 func376 call376 ntmps376 ?_;intro E H0 K hE hK hO;cbv;cases h;exact hK hO .z
theorem c390 (N aN aJ r)(h:AR N aN aJ=some r):B9 prog 390 [vi aN,(F4 aJ)] (.bool r):=by
 refine O0 cf0 func390 call390 ntmps390 ?_;intro E H0 K hE hK hO;cbv;cases h;exact hK hO .z
theorem c377 (N aN aJ r)(h:Ah N aN aJ=some r):B9 prog 377 [vi aN,(F4 aJ)] (vi r):=by
 refine O0 cf0 func377 call377 ntmps377 ?_;intro E H0 K hE hK hO
 repeat' (cbv;first|apply C4 hE h<;>intro _ h|refine B0 hE h (c336 _ _) .z fun _ h=>?_|refine B0 hE h (c390 _ _ _) .z fun _ h=>?_|(cases h;exact hK hO .z))
def cf378:=cfA [3,6]
theorem c378 (N:Nat) (cD:D0) (aG:List B1) (cJ:V) (cE:D0→B1→Option D0) (cK:∀y1 y2 q,cE y1 y2=some q→AL prog cJ [(L7 y1),(F4 y2)] ((L7 q))) (r:D0) (h:P8 N cD aG cE=some r):B9 prog 378 [(L7 cD),sr eBh3 aG,cJ] ((L7 r)):=by
 refine O0 cf378 func378 call378 ntmps378 ?_;intro E H0 K hE hK hO;cbv;refine E2 hE hO fun b1 H hO=>?_;cbv;refine E2 hE hO fun b2 H hO=>?_;cbv;apply I8 hE;cbv;obtain⟨s4,hx,h⟩:=bind_some h;refine H9 cf378 hE O7 (fun s3=>[(2,.v (cJ)),(3,.v (.ref b1 0)),(6,.v (.ref b2 0)),(9,.v (sr eBh3 aG)),fi 10 (Ar.len aG),fi 11 s3.1]) (fun(s3:Int×D0) H1=>C5 Eq H0 [cb b2 [vi 0,vi 0,vi 0,vi 0,.str (⟨#[]⟩)],cb b1 (Ch s3.2)] H1) (fun x e l H1=>e= .exit 0∧l=[(3,.v (.ref b1 0)),(6,.v (.ref b2 0))]∧C5 Eq H0 [cb b2 [vi 0,vi 0,vi 0,vi 0,.str (⟨#[]⟩)],cb b1 (Ch x)] H1) (by kernel_rfl) ?_ hx ?_ hO ?_
 ·intro s3 H o hO h
  repeat' (cbv;first|apply C4 hE h<;>intro _ h|refine BP hE (g:=fun r6=>(L7 r6)) h (fun r6 hx=>cK s3.2 x5 r6 hx) .z fun r6 h=>?_|refine D9 hE eBh7 h fun x5 h=>?_|apply C0 hE hO 1 rfl|refine C1 hE hO 1 rfl rfl fun H hO=>?_|(cases h;exact⟨_,rfl,.e2 (.e4 .z),rfl,hO⟩)|(cases h;exact⟨_,_,rfl,⟨rfl,rfl,hO⟩,.e2 .z,rfl⟩))
 ·exact .e2 (.e4 .z)
 clear hx;rintro e l H ⟨rfl,rfl,hO⟩;cbv;apply C0 hE hO 1 rfl;cbv;refine C1 hE hO 0 rfl rfl fun H hO=>?_;cbv;apply C0 hE hO 0 rfl;cbv;cases h;exact hK hO .z
def cf397:=cfA [0]
theorem c397 (N r)(h:He N=some r):B9 prog 397 [] ((F4 r)):=by
 refine O0 cf397 func397 call397 ntmps397 ?_;intro E H0 K hE hK hO;cbv;refine E2 hE hO fun b1 H hO=>?_;cbv;refine C1 hE hO 0 rfl rfl fun H hO=>?_;cbv;apply C0 hE hO 0 rfl;cbv;cases h;exact hK hO .z
def cf398:=cfA [2]
theorem c398 (N bB aQ r)(h:Hc N bB aQ=some r):B9 prog 398 [.eref (V3 bB) 0,.eref (V3 aQ) 0] ((F4 r)):=by
 refine O0 cf398 func398 call398 ntmps398 ?_;intro E H0 K hE hK hO;cbv;refine E2 hE hO fun b1 H hO=>?_;cbv;refine C1 hE hO 0 rfl rfl fun H hO=>?_;cbv;apply C0 hE hO 0 rfl;cbv;cases h;exact hK hO .z
def cf399:=cfA [2]
theorem c399 (N bB aQ r)(h:Hb N bB aQ=some r):B9 prog 399 [.eref (V3 bB) 0,.eref (V3 aQ) 0] ((F4 r)):=by
 refine O0 cf399 func399 call399 ntmps399 ?_;intro E H0 K hE hK hO;cbv;refine E2 hE hO fun b1 H hO=>?_;cbv;refine C1 hE hO 0 rfl rfl fun H hO=>?_;cbv;apply C0 hE hO 0 rfl;cbv;cases h;exact hK hO .z
def cf400:=cfA [2]
theorem c400 (N bB aQ r)(h:Ha N bB aQ=some r):B9 prog 400 [.eref (V3 bB) 0,.eref (V3 aQ) 0] ((F4 r)):=by
 refine O0 cf400 func400 call400 ntmps400 ?_;intro E H0 K hE hK hO;cbv;refine E2 hE hO fun b1 H hO=>?_;cbv;refine C1 hE hO 0 rfl rfl fun H hO=>?_;cbv;apply C0 hE hO 0 rfl;cbv;cases h;exact hK hO .z
def cf401:=cfA [1]
theorem c401 (N bB r)(h:GZ N bB=some r):B9 prog 401 [.eref (V3 bB) 0] ((F4 r)):=by
 refine O0 cf401 func401 call401 ntmps401 ?_;intro E H0 K hE hK hO;cbv;refine E2 hE hO fun b1 H hO=>?_;cbv;refine C1 hE hO 0 rfl rfl fun H hO=>?_;cbv;apply C0 hE hO 0 rfl;cbv;cases h;exact hK hO .z
def cf402:=cfA [1]
theorem c402 (N bB r)(h:GY N bB=some r):B9 prog 402 [.eref (V3 bB) 0] ((F4 r)):=by
 refine O0 cf402 func402 call402 ntmps402 ?_;intro E H0 K hE hK hO;cbv;refine E2 hE hO fun b1 H hO=>?_;cbv;refine C1 hE hO 0 rfl rfl fun H hO=>?_;cbv;apply C0 hE hO 0 rfl;cbv;cases h;exact hK hO .z
def cf391:=cfA [6]
theorem c391 (N aN aC aD r)(h:Cu N aN aC aD=some r):B9 prog 391 [vi aN,(F4 aC),(F4 aD)] ((F4 r)):=by
 refine O0 cf391 func391 call391 ntmps391 ?_;intro E H0 K hE hK hO
 repeat' (cbv;first|apply C4 hE h<;>intro _ h|refine B0 hE h (c397 _) .z fun _ h=>?_|refine BP hE (g:=fun r3=>(F4 r3)) h (fun r3 hx=>B9.value (F:=[]) (C:=[.eref (V3 aC) 0,.eref (V3 aD) 0]) (c398 N aC aD r3 hx)) .z fun r3 h=>?_|refine BP hE (g:=fun r4=>(F4 r4)) h (fun r4 hx=>B9.value (F:=[]) (C:=[.eref (V3 aC) 0,.eref (V3 aD) 0]) (c399 N aC aD r4 hx)) .z fun r4 h=>?_|refine BP hE (g:=fun r5=>(F4 r5)) h (fun r5 hx=>B9.value (F:=[]) (C:=[.eref (V3 aC) 0,.eref (V3 aD) 0]) (c400 N aC aD r5 hx)) .z fun r5 h=>?_|refine BP hE (g:=fun r6=>(F4 r6)) h (fun r6 hx=>B9.value (F:=[]) (C:=[.eref (V3 aC) 0]) (c401 N aC r6 hx)) .z fun r6 h=>?_|refine BP hE (g:=fun r7=>(F4 r7)) h (fun r7 hx=>B9.value (F:=[]) (C:=[.eref (V3 aD) 0]) (c402 N aD r7 hx)) .z fun r7 h=>?_|apply C0 hE hO 0 rfl|refine C1 hE hO 0 rfl rfl fun H hO=>?_|refine E2 hE hO fun _ H hO=>?_|(cases h;exact hK hO .z)|(cases h;done)|refine AP3 hE [0,1,2,3,4,5] (by rfl) ?_)
def cf380:=cfB [4] [(5,14)]
theorem c380 (N aC aD r)(h:FO N aC aD=some r):B9 prog 380 [(L7 aC),(L7 aD)] ((L7 r)):=by
 refine O0 cf380 func380 call380 ntmps380 ?_;intro E H0 K hE hK hO
 repeat' (cbv;first|apply C4 hE h<;>intro _ h|apply C0 hE hO 0 rfl|refine C1 hE hO 0 rfl rfl fun H hO=>?_|refine E5 hE (g:=fun r2=>(F4 r2)) h (c391 _ _ _ _) .z fun r2 h=>?_|refine E2 hE hO fun _ H hO=>?_|(cases h;exact hK hO .z))
def cf381:=cfA [4]
theorem c381 (N aN aJ r)(h:Dw N aN aJ=some r):B9 prog 381 [vi aN,(F4 aJ)] ((F4 r)):=by
 refine O0 cf381 func381 call381 ntmps381 ?_;intro E H0 K hE hK hO
 repeat' (cbv;first|apply C4 hE h<;>intro _ h|apply C0 hE hO 0 rfl|refine C1 hE hO 0 rfl rfl fun H hO=>?_|refine E2 hE hO fun _ H hO=>?_|(cases h;exact hK hO .z))
def cf379:=cfB [5] [(1,6)]
theorem c379 (N aC aJ bE r)(h:W1 N aC aJ bE=some r):B9 prog 379 [(L7 aC),(F4 aJ),.eref [vi bE] 0] ((L7 r)):=by
 refine O0 cf379 func379 call379 ntmps379 ?_;intro E H0 K hE hK hO
 repeat' (cbv;first|refine B0 hE h (c380 _ _ _) .z fun _ h=>?_|apply C0 hE hO 0 rfl|refine C1 hE hO 0 rfl rfl fun H hO=>?_|refine E5 hE (g:=fun r2=>(F4 r2)) h (c381 _ _ _) .z fun r2 h=>?_|refine E2 hE hO fun _ H hO=>?_|(cases h;exact hK hO .z))
theorem c392 (N aC r)(h:DN N aC=some r):B9 prog 392 [(L7 aC)] (vi r):=by
 refine O0 cf0 func392 call392 ntmps392 ?_;intro E H0 K hE hK hO
 repeat' (cbv;first|apply C4 hE h<;>intro _ h|refine B0 hE h (c376 _ _) .z fun _ h=>?_|refine B0 hE h (c336 _ _) .z fun _ h=>?_|refine B0 hE h (c390 _ _ _) .z fun _ h=>?_|(cases h;exact hK hO .z))
def cf382:=cfA [4]
theorem c382 (N aC aY r)(h:FP N aC aY=some r):B9 prog 382 [(L7 aC),(F4 aY)] (.tup [(F4 r.1),vi r.2]):=by
 refine O0 cf382 func382 call382 ntmps382 ?_;intro E H0 K hE hK hO
 repeat' (cbv;first|apply C4 hE h<;>intro _ h|refine B0 hE h (c392 _ _) .z fun _ h=>?_|refine B0 hE h (c377 _ _ _) .z fun _ h=>?_|apply C0 hE hO 0 rfl|refine C1 hE hO 0 rfl rfl fun H hO=>?_|refine E2 hE hO fun _ H hO=>?_|(cases h;exact hK hO .z))
def cf357:=cfA [6]
theorem c357 (N aN aG aY r) (h:Hn N aN aG aY=some r):B9 prog 357 [vi aN,sr eBh3 aG,(F4 aY)] (.tup [(F4 r.1),vi r.2]):=by
 refine O0 cf357 func357 call357 ntmps357 ?_;intro E H0 K hE hK hO
 repeat' (cbv;first|apply C4 hE h<;>intro _ h|apply I8 hE|refine B0 hE h (c376 _ _) .z fun _ h=>?_|apply C0 hE hO 0 rfl|refine C1 hE hO 0 rfl rfl fun H hO=>?_|refine E2 hE hO fun b1 H hO=>?_|(cases h;exact hK hO .z))
 cbv;obtain⟨s4,hx,h⟩:=bind_some h;refine H9 cf357 hE O7 (fun s3=>[(1,.v (sr eBh3 aG)),(3,.v (.eref [vi aN] 0)),(5,.v (.eref (V3 aY) 0)),(6,.v (.ref b1 0)),(22,.v (sr eBh3 aG)),fi 23 (Ar.len aG),fi 24 s3]) (fun s3 H1=>C5 Eq H0 [cb b1 [vi 0,vi 0,.str (⟨#[]⟩)]] H1) (fun x e l H1=>match(generalizing:=false) x with| .inl y=>e= .exit 1∧l=[(1,.v (sr eBh3 aG)),(3,.v (.eref [vi aN] 0)),(5,.v (.eref (V3 aY) 0)),(6,.v (.ref b1 0))]∧C5 Eq H0 [cb b1 [vi 0,vi 0,.str (⟨#[]⟩)]] H1| .inr y=>e= .ret∧l=[(6,.v (.ref b1 0)),fi 7 y]∧C5 Eq H0 [cb b1 [vi 0,vi 0,.str (⟨#[]⟩)]] H1) (by kernel_rfl) ?_ hx ?_ hO ?_
 ·intro s3 H o hO h
  repeat' (cbv;first|apply C4 hE h<;>intro _ h|refine B0 hE h (c377 _ _ _) .z fun _ h=>?_|refine D9 hE eBh7 h fun _ h=>?_|refine C1 hE hO 0 rfl rfl fun H hO=>?_|(cases h;exact⟨_,_,rfl,⟨rfl,rfl,hO⟩,.e2 .z,rfl⟩)|(cases h;exact⟨_,rfl,.e rfl (.e2 (.e4 .z)),rfl,hO⟩)|(cases h;exact⟨_,_,rfl,⟨rfl,rfl,hO⟩,.e4 .z,rfl⟩))
 ·exact .e rfl (.e2 (.e4 .z))
 clear hx
 rcases s4 with y7|y10
 ·rintro e l H ⟨rfl,rfl,hO⟩;cbv;refine B0 hE (g:=fun r8=>(L7 r8)) h (fun r8 hx=>c378 N (⟨aN,0,(⟨0,0,⟨#[]⟩⟩:B1)⟩:D0) aG (.func (.func 379) [] [.eref [vi aN] 0]) (fun y1 y2=>W1 N y1 y2 aN) (fun y1 y2 r hx=>B9.value (F:=[]) (C:=[.eref [vi aN] 0]) (c379 N y1 y2 aN r hx)) r8 hx) .z fun r8 h=>?_;cbv;refine B0 hE h (c382 N r8 aY) .z fun r9 h=>?_;cbv;refine C1 hE hO 0 rfl rfl fun H hO=>?_;cbv;apply C0 hE hO 0 rfl;cbv;cases h;exact hK hO .z
 rintro e l H ⟨rfl,rfl,hO⟩;cbv;apply C0 hE hO 0 rfl;cbv;cases h;exact hK hO .z
def cf334:=cfA [4]
theorem c334 (N aF aB r) (h:AY N aF aB=some r):B9 prog 334 [(Dl aF),(Y9 aB)] (.tup [(F4 r.1),vi r.2]):=by
 refine O0 cf334 func334 call334 ntmps334 ?_;intro E H0 K hE hK hO;cbv;refine E2 hE hO fun b1 H hO=>?_;cbv;refine B0 hE h (c333 N aF aB.Var) .z fun r2 h=>?_;cbv;apply I8 hE;cbv;replace hO:=hO.tl0 (t:=.nil) rfl;obtain⟨s5,hx,h⟩:=bind_some h;refine P6 cf334 hE O7 (γ:=G6) (fun s3 g=>[(3,.v (.eref (BT aB) 0)),(4,.v (.ref b1 0)),(6,.v (.sl (lst eBh3 s3.1) g)),(14,.v (sr eBg5 r2)),fi 15 (Ar.len r2),fi 16 s3.2]) (fun s3 g H1=>T3 g∧C5 Eq H0 [.tl g,cb b1 [vi 0,vi 0,.str (⟨#[]⟩)]] H1) (fun x e l H1=>match(generalizing:=false) x with| .inl y=>∃u1:G6,T3 u1∧e= .exit 0∧l=[(3,.v (.eref (BT aB) 0)),(4,.v (.ref b1 0)),(6,.v (.sl (lst eBh3 y) u1))]∧C5 Eq H0 [.tl u1,cb b1 [vi 0,vi 0,.str (⟨#[]⟩)]] H1| .inr y=>∃u1:G6,T3 u1∧e= .ret∧l=[(4,.v (.ref b1 0)),fi 5 y]∧C5 Eq H0 [.tl u1,cb b1 [vi 0,vi 0,.str (⟨#[]⟩)]] H1) (by kernel_rfl) ?_ .nil hx ?_ ?_ ?_
 ·rintro s3 t4 H o ⟨ht4,hO⟩ h
  repeat' (cbv;first|apply C4 hE h<;>intro _ h|refine B0 hE h (c335 _ _ _) .z fun r7 h=>?_|refine D9 hE eBh4 h fun _ h=>?_|refine C1 hE hO 1 rfl rfl fun H hO=>?_|(cases h;exact⟨_,_,rfl,⟨t4,ht4,rfl,rfl,hO⟩,.e2 .z,rfl⟩)|(cases h;exact⟨_,t8,rfl,.e2 (.e4 .z),rfl,ht8,hO⟩)|(cases h;exact⟨_,_,rfl,⟨t4,ht4,rfl,rfl,hO⟩,.e rfl (.e2 .z),rfl⟩)|refine S7 (f:=eBh3) hE MQ (by decide) hO 0 rfl ht4 (l:=s3.1) (m:=[r7.1]) .z (.lstc (.eq (eBh7 r7.1) .z) (.lst0)) h fun _ t8 H hO ht8 h=>?_)
 ·exact .e2 (.v (.slt _ (.lst0)) (.e rfl (.e rfl (.e rfl (.z)))))
 ·exact⟨trivial,hO⟩
 clear hx
 rcases s5 with y10|y13
 ·rintro e l H ⟨t11,ht11,rfl,rfl,hO⟩;cbv;refine B0 hE h (c357 N aB.Kind y10 aB.Value) (.r (.cons (.ro _ _) .z)) fun r12 h=>?_;cbv;refine C1 hE hO 1 rfl rfl fun H hO=>?_;cbv;apply C0 hE hO 1 rfl;cbv;cases h;exact hK hO .z
 rintro e l H ⟨t14,ht14,rfl,rfl,hO⟩;cbv;apply C0 hE hO 1 rfl;cbv;cases h;exact hK hO .z
def cf308:=cfC [4,7] [] [(38,12),(63,19)]
theorem c308 (N aF aB r) (h:Bp N aF aB=some r):B9 prog 308 [(Dl aF),(Y9 aB)] (.tup [(F4 r.1),vi r.2]):=by
 refine O0 cf308 func308 call308 ntmps308 ?_;intro E H0 K hE hK hO;cbv;refine E2 hE hO fun b1 H hO=>?_
 repeat' (cbv;first|apply C4 hE h<;>intro _ h|apply I8 hE|refine B0 hE h (c333 _ _ _) .z fun _ h=>?_|refine B0 hE h (c334 _ _ _) .z fun _ h=>?_|apply C0 hE hO 0 rfl|refine C1 hE hO 0 rfl rfl fun H hO=>?_|refine E2 hE hO fun b4 H hO=>?_|(cases h;exact hK hO .z))
 cbv;obtain⟨s5,hx,h⟩:=bind_some h;refine N2 cf308 hE O7 (fun e l H1=>match(generalizing:=false) s5 with| .inl y=>e= .normal∧l=[(3,.v (.eref (BT aB) 0)),(4,.v (.ref b1 0)),(7,.v (.ref b4 0))]∧C5 Eq H0 [cb b4 (PJ y),cb b1 [vi 0,vi 0,.str (⟨#[]⟩)]] H1| .inr y=>e= .ret∧l=[(4,.v (.ref b1 0)),fi 5 10]∧C5 Eq H0 [cb b4 (PJ aF.event),cb b1 [vi 0,vi 0,.str (⟨#[]⟩)]] H1) (by kernel_rfl) ?_ ?_
 ·clear h;have h:=hx
  repeat' (cbv;first|apply C4 hE h<;>intro _ h|apply I8 hE|refine D9 hE eBh4 h fun _ h=>?_|refine C1 hE hO 1 rfl rfl fun H hO=>?_|refine C1 hE hO 0 rfl rfl fun H hO=>?_|(cases h;exact⟨_,⟨rfl,rfl,hO⟩,.e2 .z,rfl⟩)|(cases h;exact⟨_,⟨rfl,rfl,hO⟩,.e rfl (.e2 .z),rfl⟩))
 clear hx
 rcases s5 with y7|y11
 ·rintro e l H ⟨rfl,rfl,hO⟩
  repeat' (cbv;first|apply C4 hE h<;>intro _ h|refine B0 hE h (c335 _ _ _) .z fun r8 h=>?_|apply C0 hE hO 0 rfl|apply C0 hE hO 1 rfl|refine C1 hE hO 1 rfl rfl fun H hO=>?_|(cases h;exact hK hO .z))
  cbv;obtain⟨s9,hx,h⟩:=bind_some h;refine N2 cf308 hE O7 (fun e l H1=>e= .normal∧l=[(4,.v (.ref b1 0)),(8,.v (.eref (V3 r8.1) 0)),fi 9 s9]∧C5 Eq H0 [cb b4 (PJ y7),cb b1 [vi 0,vi 0,.str (⟨#[]⟩)]] H1) (by kernel_rfl) ?_ ?_
  ·clear h;have h:=hx
   repeat' (cbv;first|apply C4 hE h<;>intro _ h|refine B0 hE h (c336 _ _) .z fun _ h=>?_|(cases h;exact⟨_,⟨rfl,rfl,hO⟩,.e rfl (.e2 .z),rfl⟩))
  clear hx;rintro e l H ⟨rfl,rfl,hO⟩
  repeat' (cbv;first|apply C4 hE h<;>intro _ h|apply C0 hE hO 1 rfl|refine C1 hE hO 1 rfl rfl fun H hO=>?_|(cases h;exact hK hO .z))
 rintro e l H ⟨rfl,rfl,hO⟩;cbv;apply C0 hE hO 1 rfl;cbv;cases h;exact hK hO .z
def cf309:=cfC [] [] [(15,8),(22,13)]
theorem c309 (N aM aZ r) (h:FY N aM aZ=some r):B9 prog 309 [vi aM,sr (V.int .i64) aZ] (vi r):=by
 refine O0 cf309 func309 call309 ntmps309 ?_;intro E H0 K hE hK hO;cbv;apply I8 hE;cbv;obtain⟨s2,hx,h⟩:=bind_some h;refine H9 cf309 hE O7 (fun s1=>[fi 0 aM,(1,.v (sr (V.int .i64) aZ)),(8,.v (sr (V.int .i64) aZ)),fi 9 (Ar.len aZ),fi 10 s1]) (fun s1 H1=>C5 Eq H0 [] H1) (fun x e l H1=>match(generalizing:=false) x with| .inl y=>e= .exit 0∧l=[]∧C5 Eq H0 [] H1| .inr y=>e= .ret∧l=[fi 4 9]∧C5 Eq H0 [] H1) (by kernel_rfl) ?_ hx ?_ hO ?_
 ·intro s1 H o hO h;cbv;apply C4 hE h<;>intro _ h
  ·cbv;refine D9 hE (fun _=>rfl) h fun x3 h=>?_;cbv;obtain⟨s4,hx,h⟩:=bind_some h;refine N2 cf309 hE O7 (fun e l H1=>e= .normal∧l=[fi 0 aM,(1,.v (sr (V.int .i64) aZ)),fi 6 x3,(7,.b true),(8,.v (sr (V.int .i64) aZ)),fi 9 (Ar.len aZ),fi 10 s1,fi 14 aM,(15,.v (.bool s4))]∧C5 Eq H0 [] H1) (by kernel_rfl) ?_ ?_
   ·clear h;have h:=hx
    repeat' (cbv;first|apply C4 hE h<;>intro _ h|(cases h;exact⟨_,⟨rfl,rfl,hO⟩,.e rfl (.e2 (.b rfl (.e rfl (.e rfl (.e rfl (.e rfl (.e rfl (.z)))))))),rfl⟩))
   clear hx;rintro e l H ⟨rfl,rfl,hO⟩
   repeat' (cbv;first|apply C4 hE h<;>intro _ h|(cases h;exact⟨_,_,rfl,⟨rfl,rfl,hO⟩,.e rfl .z,rfl⟩)|(cases h;exact⟨_,rfl,.e rfl (.e4 .z),rfl,hO⟩))
   cbv;obtain⟨s5,hx,h⟩:=bind_some h;refine N2 cf309 hE O7 (fun e l H1=>e= .normal∧l=[fi 0 aM,(1,.v (sr (V.int .i64) aZ)),fi 6 x3,(7,.b true),(8,.v (sr (V.int .i64) aZ)),fi 9 (Ar.len aZ),fi 10 s1,fi 14 aM,(22,.v (.bool s5))]∧C5 Eq H0 [] H1) (by kernel_rfl) ?_ ?_
   ·clear h;have h:=hx
    repeat' (cbv;first|apply C4 hE h<;>intro _ h|(cases h;exact⟨_,⟨rfl,rfl,hO⟩,.e rfl (.e2 (.b rfl (.e rfl (.e rfl (.e rfl (.e rfl (.e rfl (.z)))))))),rfl⟩))
   clear hx;rintro e l H ⟨rfl,rfl,hO⟩
   repeat' (cbv;first|apply C4 hE h<;>intro _ h|refine D9 hE (fun _=>rfl) h fun _ h=>?_|(cases h;exact⟨_,_,rfl,⟨rfl,rfl,hO⟩,.e rfl .z,rfl⟩)|(cases h;exact⟨_,rfl,.e rfl (.e4 .z),rfl,hO⟩))
  cbv;cases h;exact⟨_,_,rfl,⟨rfl,rfl,hO⟩,.z,rfl⟩
 ·exact .e rfl (.e4 .z)
 clear hx
 rcases s2 with y7|y8
 ·rintro e l H ⟨rfl,rfl,hO⟩;cbv;cases h;exact hK hO .z
 rintro e l H ⟨rfl,rfl,hO⟩;cbv;cases h;exact hK hO .z
def cf268:=cfB [4,3000042,8000042,9000042] [(11,8),(17,6),(18,16)]
theorem c268 (N:Nat):∀n aF aB r,Q6 N n aF aB=some r→B9 prog 268 [(Dl aF),(Y9 aB)] (.tup [(F4 r.1),vi r.2]):=by
 intro n
 induction n with
 |zero=>intro aF aB r h;cases h
 |succ n ih=>
 intro aF aB r h
 unfold Q6 at h
 refine O0 cf268 func268 call268 ntmps268 ?_;intro E H0 K hE hK hO
 repeat' (cbv;first|apply C4 hE h<;>intro _ h|apply I8 hE|refine B0 hE h (c308 _ _ _) .z fun _ h=>?_|apply C0 hE hO 0 rfl|refine C1 hE hO 0 rfl rfl fun H hO=>?_|refine E2 hE hO fun b1 H hO=>?_|(cases h;exact hK hO .z))
 cbv;replace hO:=hO.tl0 (t:=.nil) rfl;replace hO:=hO.tl0 (t:=.nil) rfl;obtain⟨s6,hx,h⟩:=bind_some h;refine P6 cf268 hE O7 (γ:=G6×G6) (fun s3 g=>[(2,.v (.eref (FK aF) 0)),(3,.v (.eref (BT aB) 0)),(4,.v (.ref b1 0)),(6,.v (.sl (lst eBh3 s3.1) g.2)),(7,.v (.sl (lst (V.int .i64) s3.2.1) g.1)),(23,.v (sr eBi3 aB.cL)),fi 24 (Ar.len aB.cL),fi 25 s3.2.2]) (fun s3 g H1=>T3 g.1∧T3 g.2∧C5 Eq H0 [.tl g.1,.tl g.2,cb b1 [vi 0,vi 0,.str (⟨#[]⟩)]] H1) (fun x e l H1=>match(generalizing:=false) x with| .inl y=>∃u1:G6,T3 u1∧∃u2:G6,T3 u2∧e= .exit 0∧l=[(2,.v (.eref (FK aF) 0)),(3,.v (.eref (BT aB) 0)),(4,.v (.ref b1 0)),(6,.v (.sl (lst eBh3 y.1) u2)),(7,.v (.sl (lst (V.int .i64) y.2) u1))]∧C5 Eq H0 [.tl u1,.tl u2,cb b1 [vi 0,vi 0,.str (⟨#[]⟩)]] H1| .inr y=>∃u1:G6,T3 u1∧∃u2:G6,T3 u2∧e= .ret∧l=[(4,.v (.ref b1 0)),fi 5 y]∧C5 Eq H0 [.tl u1,.tl u2,cb b1 [vi 0,vi 0,.str (⟨#[]⟩)]] H1) (by kernel_rfl) ?_ (⟨.nil,.nil⟩) hx ?_ ?_ ?_
 ·rintro s3 ⟨t4,t5⟩ H o ⟨ht4,ht5,hO⟩ h
  repeat' (cbv;first|apply C4 hE h<;>intro _ h|refine B0 hE h (ih _ _) .z fun r8 h=>?_|refine D9 hE eBi2 h fun _ h=>?_|refine C1 hE hO 2 rfl rfl fun H hO=>?_|(cases h;exact⟨_,_,rfl,⟨t4,ht4,t5,ht5,rfl,rfl,hO⟩,.e2 .z,rfl⟩)|(cases h;exact⟨_,⟨t11,t10⟩,rfl,.e4 (.e4 .z),rfl,ht11,ht10,hO⟩)|(cases h;exact⟨_,_,rfl,⟨t4,ht4,t5,ht5,rfl,rfl,hO⟩,.e rfl (.e4 .z),rfl⟩)|refine RY hE hO 1 rfl ht5 fun H hO=>?_|apply On hE trivial|refine Oo (f:=eBh3) hE MQ (by decide) (l:=s3.1) (m:=[r8.1]) .z (.lstc (.eq (eBh7 r8.1) .z) (.lst0)) h fun _ h=>?_|refine Sa hE hO 1 rfl fun t10 H hO ht10=>?_|refine S7 (f:=(V.int .i64)) hE (fun _=>rfl) (by decide) hO 0 rfl ht4 (l:=s3.2.1) (m:=[r8.1.Kind]) .z (.lstc .z (.lst0)) h fun _ t11 H hO ht11 h=>?_)
 ·exact .e rfl (.e2 (.v (.slt _ (.lst0)) (.v (.slt _ (.lst0)) (.e rfl (.e rfl (.e rfl (.z)))))))
 ·exact⟨trivial,trivial,hO⟩
 clear hx
 rcases s6 with y13|y43
 ·rintro e l H ⟨t14,ht14,t15,ht15,rfl,rfl,hO⟩;cbv;refine B0 hE h (c309 N aB.Op y13.2) (.r (.cons (.ro _ _) .z)) fun r16 h=>?_;cbv;apply C4 hE h<;>intro _ h
  ·cbv;refine C1 hE hO 2 rfl rfl fun H hO=>?_;cbv;apply C0 hE hO 2 rfl;cbv;cases h;exact hK hO .z
  cbv;apply C4 hE h<;>intro _ h
  ·repeat' (cbv;first|refine B0 hE h (c229 _ _) .z fun _ h=>?_|refine D9 hE eBh7 h fun _ h=>?_|apply C0 hE hO 2 rfl|refine C1 hE hO 2 rfl rfl fun H hO=>?_|(cases h;exact hK hO .z))
  cbv;refine AZ0 hE (kt:=3) (et:=338) (z:=.nilf) (by kernel_rfl) (by kernel_rfl) (by kernel_rfl) rfl ?_;cbv;apply C4 hE h<;>intro _ h
  ·cbv;refine D9 hE eBh7 h fun x20 h=>?_;cbv;apply I8 hE;cbv;refine D9 hE eBh7 h fun x21 h=>?_;cbv;refine BP hE (g:=fun r22=>(F4 r22)) h (fun r22 hx=>B9.value (F:=[]) (C:=[.eref [.func (.func 300) [] []] 0]) (c301 N x20.Num x21.Num (.func (.func 300) [] []) (fun y1=>Z7 N y1) (fun y1 r hx=>B9.value (F:=[]) (C:=[]) (c300 N y1 r hx)) r22 hx)) .z fun r22 h=>?_;cbv;refine C1 hE hO 2 rfl rfl fun H hO=>?_;cbv;apply C0 hE hO 2 rfl;cbv;cases h;exact hK hO .z
  cbv;apply C4 hE h<;>intro _ h
  ·cbv;refine D9 hE eBh7 h fun x23 h=>?_;cbv;apply I8 hE;cbv;refine D9 hE eBh7 h fun x24 h=>?_;cbv;refine BP hE (g:=fun r25=>(F4 r25)) h (fun r25 hx=>B9.value (F:=[]) (C:=[.eref [.func (.func 300) [] []] 0]) (c302 N x23.Num x24.Num (.func (.func 300) [] []) (fun y1=>Z7 N y1) (fun y1 r hx=>B9.value (F:=[]) (C:=[]) (c300 N y1 r hx)) r25 hx)) .z fun r25 h=>?_;cbv;refine C1 hE hO 2 rfl rfl fun H hO=>?_;cbv;apply C0 hE hO 2 rfl;cbv;cases h;exact hK hO .z
  repeat' (cbv;first|apply C4 hE h<;>intro _ h|apply I8 hE|refine B0 hE h (c303 _ _ _) .z fun _ h=>?_|refine B0 hE h (c304 _ _ _) .z fun _ h=>?_|refine B0 hE h (c305 _ _ _) .z fun _ h=>?_|refine B0 hE h (c306 _ _ _) .z fun _ h=>?_|refine B0 hE h (c307 _ _ _) .z fun _ h=>?_|refine D9 hE eBh7 h fun _ h=>?_|apply C0 hE hO 2 rfl|refine C1 hE hO 2 rfl rfl fun H hO=>?_|(cases h;exact hK hO .z)|(cases h;done))
 rintro e l H ⟨t44,ht44,t45,ht45,rfl,rfl,hO⟩;cbv;apply C0 hE hO 2 rfl;cbv;cases h;exact hK hO .z
def cf228:Cf:=⟨[8],[(3000004,0),(3000004,1),(3000004,2),(3000004,4),(3000004,5),(3000004,7),(3000004,8),(3000004,10)],[],[2000004],[],[]⟩
theorem c228 (N aB aR aU aV r)(h:Nk N aB aR aU aV=some r):B9 prog 228 [(Y9 aB),(HD aR),vi aU,(W4 aV)] (.tup [(F4 r.1),vi r.2]):=by
 refine O0 cf228 func228 call228 ntmps228 ?_;intro E H0 K hE hK hO
 repeat' (cbv;first|apply C4 hE h<;>intro _ h|refine B0 hE h (c260 _ _) .z fun _ h=>?_|apply C0 hE hO 0 rfl|refine C1 hE hO 0 rfl rfl fun H hO=>?_|refine E2 hE hO fun b1 H hO=>?_|(cases h;exact hK hO .z))
 cbv;obtain⟨s3,hx,h⟩:=bind_some h;refine N2 cf228 hE O7 (fun e l H1=>e= .normal∧l=[(8,.v (.ref b1 0)),fi 9 s3.1]∧C5 Eq H0 [cb b1 (V3 s3.2)] H1) (by kernel_rfl) ?_ ?_
 ·clear h;have h:=hx;cbv;obtain⟨r244,er244,h⟩:=bind_some h;refine AE0 hE (c267 N () rfl) .z hO fun m125 H hO=>?_;cbv;refine AP2 hE (g:=fun r244=>.tup [(F4 r244.1),vi r244.2]) (P9 er244) (c268 N N (⟨aR,aU,aV,()⟩:S1) aB) (fun _=>.tup2 (.agg rfl) (.int _ _)) (.agg (.le .z (.le .z (.le .z (.le .z (.le .z (.le .z (.le .z (.fm (hO.get 0 rfl) (.nil))))))))) (.le .z (.nil))) fun r244 hh=>?_;obtain rfl:=F2 hh;cbv;refine C1 hE hO 1 rfl rfl fun H hO=>?_;cbv;cases h;exact⟨_,⟨rfl,rfl,hO.tail⟩,.e2 .z,rfl⟩
 clear hx;rintro e l H ⟨rfl,rfl,hO⟩;cbv;apply C0 hE hO 0 rfl;cbv;cases h;exact hK hO .z
def cf177:=cfB [] [(2,5)]
theorem c177 (N aB aR aU aV r)(h:HY N aB aR aU aV=some r):B9 prog 177 [(Y9 aB),(HD aR),vi aU,(W4 aV)] (.bool r):=by
 refine O0 cf177 func177 call177 ntmps177 ?_;intro E H0 K hE hK hO
 repeat' (cbv;first|apply C4 hE h<;>intro _ h|refine B0 hE h (c228 _ _ _ _ _) .z fun _ h=>?_|refine E5 hE (g:=fun r2=>(F4 r2)) h (c229 _ _) .z fun r2 h=>?_|(cases h;exact hK hO .z))
def cf178:Cf:=⟨[6,7,3000041,8000041,9000041],[(6,20)],[],[],[(44,1000007)],[]⟩
theorem c178 (N aF aG cA r) (h:W8 N aF aG cA=some r):B9 prog 178 [.eref (D7 aF) 0,sr eBg4 aG,vi cA] ((HD r)):=by
 refine O0 cf178 func178 call178 ntmps178 ?_;intro E H0 K hE hK hO;cbv;refine E2 hE hO fun b1 H hO=>?_;cbv;refine AV8 hE (f:=eBg5) (by decide) hO 1 h fun l3 w2 H hw2 h hO=>?_;have hO:C5 Eq H0 (.blk w2.q.id (.arr 1 (w2.q.pre++lst (BW eBg5) w2.row++w2.q.rest))::cb b1 [.sl [] .nil]::(JK w2++[])) H:=hO;cbv;refine E2 hE hO fun b4 H hO=>?_;cbv;refine C1 hE hO 0 rfl rfl fun H hO=>?_;cbv;apply I8 hE;cbv;obtain⟨s7,hx,h⟩:=bind_some h;refine P6 cf178 hE O7 (γ:=Rw A8) (fun s5 g=>[(0,.v (.eref (D7 aF) 0)),fi 2 cA,(6,.v (.ref b1 0)),(7,.v (.ref b4 0)),(12,.v (sr eBg4 aG)),fi 13 (Ar.len aG),fi 14 s5.1]) (fun s5 g H1=>DD g s5.2∧C5 Eq H0 (cb b4 [.own g.q.id g.q.lo g.q.n]:: .blk g.q.id (.arr 1 (g.q.pre++lst (BW eBg5) g.row++g.q.rest))::cb b1 [.sl [] .nil]::(JK g++[])) H1) (fun x e l H1=>∃u1:Rw A8,DD u1 x∧e= .exit 0∧l=[(6,.v (.ref b1 0)),(7,.v (.ref b4 0))]∧C5 Eq H0 (cb b4 [.own u1.q.id u1.q.lo u1.q.n]:: .blk u1.q.id (.arr 1 (u1.q.pre++lst (BW eBg5) u1.row++u1.q.rest))::cb b1 [.sl [] .nil]::(JK u1++[])) H1) (by kernel_rfl) ?_ w2 hx ?_ ?_ ?_
 ·rintro s5 w6 H o ⟨hw6,hO⟩ h
  repeat' (cbv;first|apply C4 hE h<;>intro _ h|refine D9 hE eBh8 h fun x8 h=>?_|(cases h;exact⟨_,w6,rfl,.e rfl (.e2 (.e4 .z)),rfl,hw6,hO⟩)|(cases h;exact⟨_,_,rfl,⟨w6,hw6,rfl,rfl,hO⟩,.e2 .z,rfl⟩))
  cbv;obtain⟨x9,hxx9,h⟩:=bind_some h
  obtain⟨hjx9,t10,hrx9,hax9⟩:=hw6.at hxx9
  obtain⟨Rx9,hO,hbx9⟩:=hO.rtake (w:=w6) (T1:=[]) (T2:=[]) 3 rfl hrx9;refine RY hE hO 0 rfl hax9 fun H hO=>?_
  repeat' (cbv;apply C0 hE hO 1 rfl)
  cbv;refine WG hE (f:=BW eBg5) hO hw6.ok 2 rfl hjx9 ?_;cbv;refine An2 hE (f:=BW eBg5) (fun _=>rfl) hO hw6.ok 2 rfl hjx9.1 hrx9 ?_;cbv;refine D9 hE eBh4 h fun x14 h=>?_;cbv;apply On hE trivial;cbv;refine Oo (f:=eBg5) hE Qc (by decide) (l:=x9) (m:=[x14]) .z (.lstc (.eq (eBh4 x14) .z) (.lst0)) h fun l15 h=>?_;cbv;refine Sa hE hO 0 rfl fun t11 H hO htt11=>?_;cbv;refine WG hE (f:=BW eBg5) hO hw6.ok 2 rfl hjx9 ?_;cbv;refine YV hE (f:=BW eBg5) (tz:=1) (x':=(l15,t11)) (fun _=>⟨.sl (lst eBg5 l15) t11,.refl _,rfl,rfl,rfl⟩) (by decide) hO hw6.ok 2 rfl hjx9 fun H hO=>?_;cbv;obtain⟨l13,hu,h⟩:=bind_some h;obtain⟨w12,hqw12,hw12,hO⟩:∃w0:Rw A8,w0.q=w6.q∧DD w0 l13∧C5 Eq H0 (cb b4 [.own w0.q.id w0.q.lo w0.q.n]:: .blk w0.q.id (.arr 1 (w0.q.pre++lst (BW eBg5) w0.row++w0.q.rest))::cb b1 [.sl [] .nil]::(JK w0++[])) H:=⟨(⟨w6.q,w6.row.set (x8.v).toNat (l15,t11)⟩:Rw A8),rfl,by rw[Xq hu];exact hw6.put _ htt11,(by have e:=hbx9 (l15,t11) H [cb b4 [.own w6.q.id w6.q.lo w6.q.n],.blk w6.q.id (.arr 1 (w6.q.pre++lst (BW eBg5) (w6.row.set (x8.v).toNat (l15,t11))++w6.q.rest)),cb b1 [.sl [] .nil]] hO;simp only[X2,K2,H6]at e ⊢;exact e)⟩
  try rw[←hqw12]
  cases h;exact⟨_,w12,rfl,.e rfl (.e2 (.e4 .z)),rfl,hw12,hO⟩
 ·exact .e rfl (.e2 (.e4 .z))
 ·exact⟨hw2,hO⟩
 clear hx;rintro e l H ⟨w16,hw16,rfl,rfl,hO⟩;cbv;refine Yt hE (e:=eBi5) eBj1 hO hw16 0 1 rfl rfl rfl (by decide) fun H hO=>?_;have hO:C5 Eq H0 [cb b4 [sr eBi5 s7],cb b1 [.sl [] .nil]] H:=hO.rdrop (w:=w16) (T1:=[]) (T2:=[]) 2 rfl;cbv;apply C0 hE hO 0 rfl;cbv;refine C1 hE hO 1 rfl rfl fun H hO=>?_;cbv;apply C0 hE hO 1 rfl;cbv;cases h;exact hK hO .z
def cf139:=cfB [] [(2,15)]
theorem c139 (N aF aA aI bC r)(h:P2 N aF aA aI bC=some r):B9 prog 139 [.eref (D7 aF) 0,(C8 aA),sr eBg4 aI,vi bC] (.bool r):=by
 refine O0 cf139 func139 call139 ntmps139 ?_;intro E H0 K hE hK hO
 repeat' (cbv;first|apply C4 hE h<;>intro _ h|refine B0 hE h (c177 _ _ _ _ _) .z fun _ h=>?_|refine D9 hE eBh4 h fun _ h=>?_|refine E5 hE (g:=fun r2=>(HD r2)) h (c178 _ _ _ _) .z fun r2 h=>?_|(cases h;exact hK hO .z))
def cf230:=cfA [22]
theorem c230 (N aH aO r) (h:Am N aH aO=some r):VG prog 230 [.sl [] .nil,vi aO] 2 (lst eBg4 r):=by
 obtain⟨h1,h2,hr⟩:=AE8 (f:=eBg4) h;rw[hr];clear hr h;intro H0
 have hneg:∀b,Ar.cmp .lss aO 0=b→b=false:=fun b h=>by rw[Ar.cmp_eq]at h;subst h;simp[PG];omega
 have hsub:ar .sub .i64 aO (ar .sub .i64 0 0)=aO:=by rw[Ar.ar_eq,Ar.ar_eq];simp only[arI];rw[show(0:Int)-0=0 from rfl,wrap_small 0 (by omega) (by omega),Int.sub_zero];exact wrap_small _ (by omega) (by omega)
 have hgt:∀b,Ar.cmp .gtr (ar .sub .i64 aO (ar .sub .i64 0 0)) 0=b→(b=false→aO=0):=fun b h=>by rw[hsub,Ar.cmp_eq]at h;subst h;simp[PG];omega
 have hbn:aO.toNat*16≤140737488355328:=by have:=AP6 (a:=aO.toNat) (b:=0) (by_:=16) (by omega) (by decide);simpa using this
 have hl0:(0:Int)=(([]:List V).length:Nat):=rfl;refine Nq (T:=TT) cf230 O7 func230 (by rfl) (by kernel_rfl) call230 ntmps230 (by rfl) (by rfl) ?_;intro E K hE hK hN;cbv;refine r_br hE (fun hc=>absurd (hneg _ hc) (by decide)) (fun hc=>?_);cbv;refine r_ln hE hl0 ?_;cbv;refine r_br hE (fun hc2=>?_) (fun hc2=>?_)
 ·cbv;refine AN2 hE ?_;cbv;refine AB7 hE aO hsub (.inl rfl) h1 hbn fun t m row j ht hm hrow=>?_;obtain⟨RL,hRL,hR0⟩:∃RL:Int,RL=(row.length:Nat)∧0≤RL:=⟨_,rfl,by omega⟩;cbv;refine r_ln hE hl0 ?_;cbv;refine AB6 hE (G2 _ _ _) hRL 0 0 rfl rfl (Ek _) (Ek _) hR0 fun l' n' q1 q2=>?_;cbv
  have e1:0=l':=by omega
  have e2:0=n':=by omega
  subst e1 e2;exact hK ⟨t,0,0,[],row⟩ [] _ ⟨rfl,rfl⟩ ((C5.start M5 rfl).push ht rfl)
 cbv;exact hN rfl [] H0 (.start M5 rfl)
theorem c180 {cmp:A6→A6→Option Int}{g:Nat}{C:List V}(eg:∀vals w,(callFunc g vals).run prog w= .ok (.enter g vals) w)(hc:∀y1 y2 r,cmp y1 y2=some r→B9 prog g ([(Q8 y1),(Q8 y2)]++C) (vi r)){l r:List A6}(h:LU cmp l=some r):
 WX prog 180 (.func (.func g) [] C) 2 (lst eBg4 l) (lst eBg4 r):=Rx Go.Proofs.Tryz.sorts180 call180 (va:=fun x=>(Bb x)) eBh8 (fun _=>rfl) eg hc h
theorem c181 (N aC aD r)(h:Eg N aC aD=some r):B9 prog 181 [(Q8 aC),(Q8 aD)] (vi r):=by
 refine O0 cf0 func181 call181 ntmps181 ?_;intro E H0 K hE hK hO;cbv;cases h;exact hK hO .z
def cfo179:Cf:=⟨[6000002],[],[],[],[],[]⟩
theorem o179 (N bM r) (h:X9 N bM=some r):VG prog 179 [sr eBi8 bM] 2 (lst eBg4 r):=by
 intro H0;refine Nq (T:=TT) (F:=H0) cfo179 O7 func179 (by rfl) (by kernel_rfl) call179 ntmps179 (by rfl) (by rfl) ?_;intro E K hE hK hN;have hO:C5 Eq H0 [] H0:=.start M5 rfl;cbv;refine Ad4 hE (f:=eBg4) hO fun q1 H hq1 hO=>?_;cbv;apply I8 hE;cbv;obtain⟨s3,hx,h⟩:=bind_some h;refine H9 cfo179 hE O7 (fun s2=>[(0,.v (sr eBi8 bM)),fi 3 s2.1,(9,.v (sr eBi8 bM)),fi 10 (Ar.len bM),fi 11 s2.2]) (fun s2 H1=>C5 Eq H0 [ob q1 2 eBg4 ([]:List A6)] H1) (fun x e l H1=>e= .exit 0∧l=[(0,.v (sr eBi8 bM)),fi 3 x]∧C5 Eq H0 [ob q1 2 eBg4 ([]:List A6)] H1) (by kernel_rfl) ?_ hx ?_ hO ?_
 ·intro s2 H o hO h
  repeat' (cbv;first|apply C4 hE h<;>intro _ h|apply I8 hE|refine D9 hE eBj2 h fun _ h=>?_|(cases h;done)|(cases h;exact⟨_,rfl,.e rfl (.e4 .z),rfl,hO⟩)|(cases h;exact⟨_,_,rfl,⟨rfl,rfl,hO⟩,.e2 .z,rfl⟩))
 ·exact .e rfl (.e4 .z)
 clear hx;rintro e l H ⟨rfl,rfl,hO⟩;cbv;refine Wp hE (f:=eBg4) h (c230 N [] s3) (.r (.r .nil)) hO fun l5 q6 H hq6 hO h=>?_;cbv;apply I8 hE;cbv;obtain⟨s9,hx,h⟩:=bind_some h;refine P6 cfo179 hE O7 (γ:=OG) (fun s7 g=>[(6,.v (.own g.id g.lo g.n)),(25,.v (sr eBi8 bM)),fi 26 (Ar.len bM),fi 27 s7.1]) (fun s7 g H1=>BD g (Ar.len s7.2)∧C5 Eq H0 [ob g 2 eBg4 s7.2,ob q1 2 eBg4 ([]:List A6)] H1) (fun x e l H1=>∃u1:OG,BD u1 (Ar.len x)∧e= .exit 2∧l=[(6,.v (.own u1.id u1.lo u1.n))]∧C5 Eq H0 [ob u1 2 eBg4 x,ob q1 2 eBg4 ([]:List A6)] H1) (by kernel_rfl) ?_ q6 hx ?_ ?_ ?_
 ·rintro s7 q8 H o ⟨hq8,hO⟩ h;cbv;apply C4 hE h<;>intro _ h
  ·cbv;refine D9 hE eBj2 h fun x10 h=>?_;cbv;refine Wl (f:=eBg4) hE W3 (by decide) hO hq8 0 rfl (m:=x10) (Qe (f:=eBg4) hE W3 .z) h fun l12 q11 H hq11 hO h=>?_;cbv;cases h;exact⟨_,q11,rfl,.e4 .z,rfl,hq11,hO⟩
  cbv;cases h;exact⟨_,_,rfl,⟨q8,hq8,rfl,rfl,hO⟩,.e rfl .z,rfl⟩
 ·exact .e4 .z
 ·exact⟨hq6,hO⟩
 clear hx;rintro e l H ⟨q13,hq13,rfl,rfl,hO⟩;cbv;cases h;exact hK q13 _ _ (Hl hE hq13) (hO)
theorem c140 (N aC aD r)(h:I0 N aC aD=some r):B9 prog 140 [sr eBg4 aC,sr eBg4 aD] (sr eBg4 r):=by
 refine Fg (T:=TT) cf0 O7 func140 (by rfl) (by kernel_rfl) call140 ntmps140 (by rfl) (by rfl) ?_;intro E H0 K hE hK hF;have hO:C5 Eq H0 [] H0:=.start M5 rfl;cbv;refine Wp hE (f:=eBg4) h (o179 N ([aC,aD])) (.cons (.lit _ (G8 ((eBj2 aC).symm) (G8 ((eBj2 aD).symm) (E4)))) .z) hO fun l1 q2 H hq2 hO h=>?_;cbv;refine Yw hE hO hq2 0 rfl h (fun l3 hx=>c180 (g:=181) (C:=[]) call181 (fun y1 y2 r hx=>c181 N y1 y2 r hx) hx) fun l3 H hq2 hO h=>?_;cbv;cases h;exact hF q2 _ _ 0 _ _ hO rfl (Hl hE hq2) .z
theorem c232 (N:Nat) (aH:List A6) (bL:V) (bI:A6→Option Bool) (bU:∀y1 q,bI y1=some q→AL prog bL [(Q8 y1)] (.bool q)) (r:Int) (h:Al N aH bI=some r):B9 prog 232 [sr eBg4 aH,bL] (vi r):=by
 refine O0 cf0 func232 call232 ntmps232 ?_;intro E H0 K hE hK hO;cbv;apply I8 hE;cbv;obtain⟨s2,hx,h⟩:=bind_some h;refine H9 cf0 hE O7 (fun s1=>[(0,.v (sr eBg4 aH)),(1,.v (bL)),fi 7 (Ar.len aH),fi 8 s1]) (fun s1 H1=>C5 Eq H0 [] H1) (fun x e l H1=>match(generalizing:=false) x with| .inl y=>e= .exit 0∧l=[]∧C5 Eq H0 [] H1| .inr y=>e= .ret∧l=[fi 4 y]∧C5 Eq H0 [] H1) (by kernel_rfl) ?_ hx ?_ hO ?_
 ·intro s1 H o hO h
  repeat' (cbv;first|apply C4 hE h<;>intro _ h|refine BP hE (g:=fun r4=>.bool r4) h (fun r4 hx=>bU x3 r4 hx) .z fun r4 h=>?_|refine D9 hE eBh8 h fun x3 h=>?_|(cases h;exact⟨_,_,rfl,⟨rfl,rfl,hO⟩,.e rfl .z,rfl⟩)|(cases h;exact⟨_,rfl,.e4 .z,rfl,hO⟩)|(cases h;exact⟨_,_,rfl,⟨rfl,rfl,hO⟩,.z,rfl⟩))
 ·exact .e4 .z
 clear hx
 rcases s2 with y5|y6
 ·rintro e l H ⟨rfl,rfl,hO⟩;cbv;cases h;exact hK hO .z
 rintro e l H ⟨rfl,rfl,hO⟩;cbv;cases h;exact hK hO .z
theorem c182 (N:Nat)(aH:List A6)(bL:V)(bI:A6→Option Bool)(bU:∀y1 q,bI y1=some q→AL prog bL [(Q8 y1)] (.bool q))(r:Bool)(h:K3 N aH bI=some r):B9 prog 182 [sr eBg4 aH,bL] (.bool r):=by
 refine O0 cf0 func182 call182 ntmps182 ?_;intro E H0 K hE hK hO;cbv;refine B0 hE h (c232 N aH bL bI bU) .z fun r1 h=>?_;cbv;cases h;exact hK hO .z
theorem c185 (N aT aQ r)(h:R9 N aT aQ=some r):B9 prog 185 [(Q8 aT),.eref [vi aQ] 0] (.bool r):=by
 refine O0 cf0 func185 call185 ntmps185 ?_;intro E H0 K hE hK hO;cbv;cases h;exact hK hO .z
def cf143:Cf:=⟨[12],[(1,12),(5,19),(7,11)],[],[],[(73,12)],[]⟩
theorem c143 (N aF aA aI aH r) (h:U1 N aF aA aI aH=some r):B9 prog 143 [.eref (D7 aF) 0,(C8 aA),sr eBg4 aI,sr eBg4 aH] (.bool r):=by
 refine O0 cf143 func143 call143 ntmps143 ?_;intro E H0 K hE hK hO;cbv;refine D9 hE eBh8 h fun x1 h=>?_
 repeat' (cbv;first|apply C4 hE h<;>intro _ h|apply I8 hE|refine B0 hE h (c140 _ _ _) .z fun r3 h=>?_|refine B0 hE h (c177 _ _ _ _ _) (.r (.r (.r (.cons (.agg (.r (.r (.r (.r (.cons (.lit _ (E4)) .z)))))) .z)))) fun _ h=>?_|refine D9 hE eBh8 h fun x2 h=>?_|refine D9 hE eBh4 h fun _ h=>?_|refine C1 hE hO 0 rfl rfl fun H hO=>?_|refine E5 hE (g:=fun r6=>(HD r6)) h (c178 _ _ _ _) .z fun r6 h=>?_|refine E2 hE hO fun b8 H hO=>?_|(cases h;exact hK hO .z))
 cbv;obtain⟨s11,hx,h⟩:=bind_some h;refine P6 cf143 hE O7 (γ:=Nat) (fun s9 g=>[(0,.v (.eref (D7 aF) 0)),(3,.v (sr eBg4 aH)),(5,.v (.eref (D2 aA) 0)),fi 10 x2.at_,(11,.v (sr eBg4 r3)),(12,.v (.ref g 0))]) (fun s9 g H1=>True∧C5 Eq H0 [cb g [vi s9]] H1) (fun x e l H1=>match(generalizing:=false) x with| .inl y=>e= .exit 1∧l=[]∧C5 Eq H0 [] H1| .inr y=>e= .ret∧l=[(8,.b false)]∧C5 Eq H0 [] H1) (by kernel_rfl) ?_ b8 hx ?_ ?_ ?_
 ·rintro s9 b10 H o ⟨hb10,hO⟩ h;cbv;apply C0 hE hO 0 rfl;cbv;apply C4 hE h<;>intro _ h
  ·cbv;refine Bd9 hE hO 0 rfl fun H hO=>?_;cbv;refine B0 hE (g:=fun r12=>.bool r12) h (fun r12 hx=>c182 N aH (.func (.func 185) [] [.eref [vi s9] 0]) (fun y1=>R9 N y1 s9) (fun y1 r hx=>B9.value (F:=[]) (C:=[.eref [vi s9] 0]) (c185 N y1 s9 r hx)) r12 hx) .z fun r12 h=>?_;cbv;apply C4 hE h<;>intro _ h
   ·repeat' (cbv;first|apply C4 hE h<;>intro _ h|refine B0 hE h (c139 _ _ _ _ _) .z fun _ h=>?_|apply C0 hE hO 0 rfl|refine C1 hE hO 0 rfl rfl fun H hO=>?_|refine E2 hE hO fun b14 H hO=>?_|(cases h;exact⟨_,_,rfl,⟨rfl,rfl,hO⟩,.b rfl (.z),rfl⟩)|(cases h;exact⟨_,b14,rfl,.e2 (.e4 .z),rfl,trivial,hO⟩))
   repeat' (cbv;first|apply C0 hE hO 0 rfl|refine C1 hE hO 0 rfl rfl fun H hO=>?_|refine E2 hE hO fun b15 H hO=>?_|(cases h;exact⟨_,b15,rfl,.e2 (.e4 .z),rfl,trivial,hO⟩))
  cbv;cases h;exact⟨_,_,rfl,⟨rfl,rfl,hO.tail⟩,.z,rfl⟩
 ·exact .e2 (.e4 .z)
 ·exact⟨trivial,hO⟩
 clear hx
 rcases s11 with y16|y17
 ·rintro e l H ⟨rfl,rfl,hO⟩;cbv;cases h;exact hK hO .z
 rintro e l H ⟨rfl,rfl,hO⟩;cbv;cases h;exact hK hO .z
theorem c184 (N bN aQ r)(h:Z8 N bN aQ=some r):B9 prog 184 [(Q8 bN),.eref (Bb aQ) 0] (.bool r):=by
 refine O0 cf0 func184 call184 ntmps184 ?_;intro E H0 K hE hK hO;cbv;cases h;exact hK hO .z
theorem c183 (N aT aQ r)(h:AN N aT aQ=some r):B9 prog 183 [(Q8 aT),.eref [sr eBg4 aQ] 0] (.bool r):=by
 refine O0 cf0 func183 call183 ntmps183 ?_;intro E H0 K hE hK hO;cbv;refine B0 hE (g:=fun r1=>.bool r1) h (fun r1 hx=>c182 N aQ (.func (.func 184) [] [.eref (Bb aT) 0]) (fun y1=>Z8 N y1 aT) (fun y1 r hx=>B9.value (F:=[]) (C:=[.eref (Bb aT) 0]) (c184 N y1 aT r hx)) r1 hx) .z fun r1 h=>?_;cbv;cases h;exact hK hO .z
theorem c141 (N aC aD r)(h:Aj N aC aD=some r):B9 prog 141 [sr eBg4 aC,sr eBg4 aD] (.bool r):=by
 refine O0 cf0 func141 call141 ntmps141 ?_;intro E H0 K hE hK hO;cbv;refine B0 hE (g:=fun r1=>.bool r1) h (fun r1 hx=>c182 N aC (.func (.func 183) [] [.eref [sr eBg4 aD] 0]) (fun y1=>AN N y1 aD) (fun y1 r hx=>B9.value (F:=[]) (C:=[.eref [sr eBg4 aD] 0]) (c183 N y1 aD r hx)) r1 hx) .z fun r1 h=>?_;cbv;cases h;exact hK hO .z
theorem c142 (N aH r)(h:Q9 N aH=some r):B9 prog 142 [sr eBg4 aH] (vi r):=by
 refine O0 cf0 func142 call142 ntmps142 ?_;intro E H0 K hE hK hO;cbv;apply I8 hE;cbv;refine D9 hE eBh8 h fun x1 h=>?_;cbv;cases h;exact hK hO .z
def cf218:=cfA [7]
theorem c218 (N aH r)(h:P3 N aH=some r):VG prog 218 [sr eBg6 aH] 5 (lst eBg6 r):=by
 intro H0;refine Nq (T:=TT) cf218 O7 func218 (by rfl) (by kernel_rfl) call218 ntmps218 (by rfl) (by rfl) ?_;intro E K hE hK hN;have hO:C5 Eq H0 [] H0:=.start M5 rfl;cbv;refine AY8 hE rfl (fun hx=>?_) ?_
 ·cbv;exact hN (AJ4 hx h) [] H0 hO
 cbv;refine AO9 (f:=eBg6) hE J8 (by decide) hO (.inr rfl) (m:=aH) (Qe (f:=eBg6) hE J8 .z) h fun l q H hq hO h=>?_;cbv;cases h;exact hK q _ _ (Hl hE hq) hO
def K57 (N n:Nat):Prop:=∀(aF:E8) (aA:A1) (aI:List A6) (aL:Int) (r:(List A7)),E9 N n aF aA aI aL=some r→MK prog 57 [.eref (D7 aF) 0,(C8 aA),sr eBg4 aI,vi aL] (fun v=>Uh prog v (r.map fun(x:A7)=>[(C6 x)]))
def cf123:=cfC [] [] [(9,4)]
def cf121:=cfA [6,1000005]
def Bb9 (N n:Nat):Prop:=∀(aQ:E8) (bE:A1) (bW:List A6) (bX:Int) (r:(List A7)),U0 N n aQ bE bW bX=some r→PV prog 121 (fun yv=>[yv,.eref [.eref (D7 aQ) 0] 0,.eref (D2 bE) 0,.eref [sr eBg4 bW] 0,.eref [vi bX] 0]) (List.map (fun(x:A7)=>[(C6 x)]) r) rbN
def cf122:=cfC [10,12,13,1000009] [(6,22),(23,7)] [(88,21)]
def Bb8 (N n:Nat):Prop:=∀(aF:E8) (aA:A1) (aI:List A6) (aL:Int) (r:(List A7)),L8 N n aF aA aI aL=some r→PV prog 122 (fun yv=>[.eref (D7 aF) 0,(C8 aA),sr eBg4 aI,vi aL,yv]) (List.map (fun(x:A7)=>[(C6 x)]) r) rbB
def cf158:=cfC [14,1000013] [(3,6),(10,12),(16,17)] [(39,4),(54,10),(75,15)]
def AT8 (N n:Nat):Prop:=∀(aF:E8) (aA:A1) (aI:List A6) (aL:Int) (bG:List A3) (aH:List A6) (r:(List A7)),E7 N n aF aA aI aL bG aH=some r→PV prog 158 (fun yv=>[.eref (D7 aF) 0,(C8 aA),sr eBg4 aI,vi aL,sr eBg6 bG,sr eBg4 aH,yv]) (List.map (fun(x:A7)=>[(C6 x)]) r) rbB
theorem k57 (N n:Nat)(ih121:Bb9 N n):K57 N (n+1):=by
 intro aF aA aI aL r h
 unfold E9 at h
 refine NQ cf0 O7 func57 (by rfl) (by kernel_rfl) call57 ntmps57 (by rfl) (by rfl) ?_;intro E H0 K hE hK;have hO:C5 Eq H0 [] H0:=.start M5 rfl;cbv;exact hK _ _ _ hO (NL call121 (ih121 aF aA aI aL r h))
theorem k121 (N n:Nat) (ih122:Bb8 N n):Bb9 N (n+1):=by
 intro aQ bE bW bX r h
 unfold U0 at h
 obtain⟨⟨w0,u0⟩,h1,hr⟩:=bind_some h;clear h;have hr:=F2 hr;subst hr;have h:=h1;clear h1;refine DI cf121 O7 func121 (by rfl) (by kernel_rfl) call121 ntmps121 (by rfl) (fun _=>rfl) ?_;intro yv I D hI hD hy tl F E H K hE hO hK hKD
 have hO:C5 (I (List.map (fun(x:A7)=>[(C6 x)]) (w0++[])++tl)) F [] H:=by rw[H6];exact hO
 cbv;apply On hE hy.1;cbv;refine E2 hE hO fun b1 H hO=>?_;cbv;refine C1 hE hO 0 rfl rfl fun H hO=>?_;cbv;obtain⟨l2,hl,h⟩:=bind_some h;obtain⟨w3,w4,o9,hx,h,he⟩:=X4 h
 rw[he,E6]at hO
 clear he
 rcases o9 with s10|u
 ·refine AP0 (Ls:=fun s7=>[cb b1 [vi s7]]) (w':=w4++[]) (cv:=.func (.func 123) [] [.ref b1 0,.eref [.eref (D7 aQ) 0] 0,.eref [yv] 0]) hE hI hD ⟨rfl,rfl⟩ (ih122 aQ bE bW bX l2 hl) hx hO .z ?_ ?_ ?_
  ·rintro s7 y8 w5 w6 F H o h hO;clear hx hl;refine M8.value (F:=[]) (C:=[.ref b1 0,.eref [.eref (D7 aQ) 0] 0,.eref [yv] 0]) (Ze cf123 O7 func123 (by rfl) (by kernel_rfl) call123 ntmps123 (by rfl) (by rfl) ?_);intro E K hE hK hKD
   repeat' (cbv;first|apply C0 hE hO 0 rfl|refine C1 hE hO 0 rfl rfl fun H hO=>?_)
   cbv;obtain⟨w12,w13,s11,hx,h,he⟩:=X4 h
   rw[he,E6]at hO
   clear he;refine N2 cf123 hE O7 (fun e l H1=>(e= .normal∧l=[(2,.v (.eref [.eref (D7 aQ) 0] 0)),(3,.v (.eref [yv] 0)),(4,.v (.eref (U9 y8) 0))]∧C5 (I (List.map (fun(x:A7)=>[(C6 x)]) (w13++w6)++tl)) F [cb b1 [vi (ar .add .i64 s7 1)]] H1)∨(False)) (by kernel_rfl) ?_ ?_
   ·clear h;have h:=hx;cbv;apply C4 hE h<;>intro _ h
    ·cbv;apply C0 hE hO 0 rfl;cbv;cases h
    cbv;obtain⟨hw,rfl⟩:=J4 h
    rw[←hw]at hO
    exact⟨_,.inl ⟨rfl,rfl,hO⟩,.e rfl (.e2 .z),rfl⟩
   clear hx;rintro e l H hX
   rcases hX with hX|hX
   ·obtain⟨rfl,rfl,hO⟩:=hX;cbv;apply C4 hE h<;>intro _ h
    ·cbv;obtain⟨w14,h,he⟩:=BZ h
     rw[he,E6]at hO
     clear he;have hO:C5 (I ([(C6 y8)]::(List.map (fun(x:A7)=>[(C6 x)]) (w14++w6)++tl))) F [cb b1 [vi (ar .add .i64 s7 1)]] _:=hO;refine Nb hE hI hD hy hO .z (fun H hO=>?_) (fun H hO=>?_)
     ·cbv;obtain⟨hw,rfl⟩:=J4 h
      rw[←hw]at hO
      exact hK _ _ ⟨_,rfl,hO⟩ rfl
     clear h;cbv;exact hKD _ _ _ hO rfl
    cbv;cases h
   exact hX.elim
  ·rintro v H hb hO;cases hb;clear hl hx;cbv;obtain⟨hw,_⟩:=J4 h
   rw[←hw]at hO
   exact hK _ _ _ hO trivial
  rintro v L H hb hO;cases hb;clear h hl hx;cbv;exact hKD _ _ _ hO trivial
 cases h
set_option maxHeartbeats 2000000 in
theorem k122 (N n:Nat) (ih57:K57 N n) (ih158:AT8 N n):Bb8 N (n+1):=by
 intro aF aA aI aL r h
 unfold L8 at h
 obtain⟨⟨w0,u0⟩,h1,hr⟩:=bind_some h;clear h;have hr:=F2 hr;subst hr;have h:=h1;clear h1;refine DI cf122 O7 func122 (by rfl) (by kernel_rfl) call122 ntmps122 (by rfl) (fun _=>rfl) ?_;intro yv I D hI hD hy tl F E H K hE hO hK hKD
 have hO:C5 (I (List.map (fun(x:A7)=>[(C6 x)]) (w0++[])++tl)) F [] H:=by rw[H6];exact hO
 repeat' (cbv;first|refine C4 hE h (fun hc h=>?_) (fun hc h=>?_)|apply I8 hE|refine E2 hE hO fun b1 H hO=>?_|apply On hE hy.1)
 ·cbv;obtain⟨w3,w4,s7,hx,h,he⟩:=X4 h
  rw[he,E6]at hO
  clear he;refine Ak6 cf122 hE O7 (γ:=Unit) (fun s2 g=>[(5,.v (.eref [.eref (D7 aF) 0] 0)),(6,.v (.eref (D2 aA) 0)),(7,.v (.eref [sr eBg4 aI] 0)),(9,.v (.eref [yv] 0)),(10,.v (.ref b1 0)),fi 11 s2]) (fun s2 g w H1=>C5 (I (List.map (fun(x:A7)=>[(C6 x)]) w++tl)) F [cb b1 [.bool false]] H1) (fun x e l w H1=>e= .exit 1∧l=[(10,.v (.ref b1 0))]∧C5 (I (List.map (fun(x:A7)=>[(C6 x)]) w++tl)) F [cb b1 [.bool false]] H1) (fun e l H1=>(e= .ret∧l=[(10,.v (.ref b1 0))]∧C5 D F [cb b1 [.bool false]] H1)) (by kernel_rfl) ?_ (w':=w4++[]) () hx ?_ ?_ ?_ ?_
  ·rintro s2 _ w5 w6 H o hO h
   skip
   repeat' (cbv;first|refine C4 hE h (fun _ h=>?_) (fun _ h=>?_)|apply I8 hE|refine D9 hE eBh4 h fun _ h=>?_|refine E5 hE (g:=fun r8=>.bool r8) h (c139 _ _ _ _ _) .z fun r8 h=>?_|refine E5 hE (g:=fun r10=>(Dy r10)) h (c116 _ _) .z fun r10 h=>?_)
   ·cbv;obtain⟨w11,h,he⟩:=BZ h
    rw[he,E6]at hO
    clear he;have hO:C5 (I ([.agg [vi r10.Time,vi r10.Source,vi r10.Seq,vi 0,sr eBg6 ([]),sr eBg4 ([(⟨aA.Var,s2⟩:A6)])]]::(List.map (fun(x:A7)=>[(C6 x)]) (w11++w6)++tl))) F [cb b1 [.bool false]] _:=hO;refine Nb hE hI hD hy hO (.cons (.agg (.r (.r (.r (.r (.cons (.lit _ (E4)) (.cons (.lit _ (G8 ((eBh8 (⟨aA.Var,s2⟩:A6)).symm) (E4))) .z))))))) .z) (fun H hO=>?_) (fun H hO=>?_)
    ·cbv;apply Tf hE (nt_eq _);cbv;obtain⟨hw,rfl⟩:=J4 h
     rw[←hw]at hO
     exact⟨_,(),rfl,.e2 (.e4 .z),rfl,hO⟩
    clear h;cbv;apply Te hE (nt_eq _);cbv;refine C1 hE hO 0 rfl rfl fun H hO=>?_;cbv;exact .inr ⟨_,⟨rfl,rfl,hO⟩,.e rfl .z,rfl⟩
   ·cbv;obtain⟨hw,rfl⟩:=J4 h
    rw[←hw]at hO
    exact⟨_,(),rfl,.e2 (.e4 .z),rfl,hO⟩
   cbv;obtain⟨hw,rfl⟩:=J4 h
   rw[←hw]at hO
   exact .inl ⟨_,_,rfl,⟨rfl,rfl,hO⟩,.e rfl .z,rfl⟩
  ·exact .e2 (.e4 .z)
  ·exact hO
  ·rintro e l H ⟨rfl,rfl,hO⟩;cbv;refine C1 hE hO 0 rfl rfl fun H hO=>?_;cbv;apply C0 hE hO 0 rfl;cbv;obtain⟨hw,_⟩:=J4 h
   rw[←hw]at hO
   exact hK _ _ _ hO rfl
  rintro e l H hX;obtain⟨rfl,rfl,hO⟩:=hX;clear h;cbv;apply C0 hE hO 0 rfl;cbv;exact hKD _ _ _ hO rfl
 ·cbv;obtain⟨w14,w15,s18,hx,h,he⟩:=X4 h
  rw[he,E6]at hO
  clear he;refine AD6 cf122 hE O7 (γ:=Unit) (fun s13 g=>[fi 3 aL,(5,.v (.eref [.eref (D7 aF) 0] 0)),(6,.v (.eref (D2 aA) 0)),(7,.v (.eref [sr eBg4 aI] 0)),(9,.v (.eref [yv] 0)),(10,.v (.ref b1 0)),(58,.v (sr eBh0 aA.cL)),fi 59 (Ar.len aA.cL),fi 60 s13]) (fun s13 g ds12 w H1=>C5 (I (List.map (fun(x:A7)=>[(C6 x)]) w++tl)) F (cb b1 [.bool false]::Uy ds12) H1) (fun x e l ds12 w H1=>e= .exit 3∧l=[(5,.v (.eref [.eref (D7 aF) 0] 0)),(10,.v (.ref b1 0))]∧C5 (I (List.map (fun(x:A7)=>[(C6 x)]) w++tl)) F (cb b1 [.bool false]::Uy ds12) H1) (fun e l ds12 H1=>(e= .ret∧l=[(10,.v (.ref b1 0))]∧C5 D F (cb b1 [.bool false]::Uy ds12) H1)) (by kernel_rfl) ?_ (w':=w15++[]) () hx rfl ?_ ?_ ?_ ?_
  ·rintro s13 _ ds12 w16 w17 H o hO h
   skip
   cbv;refine C4 hE h (fun hc h=>?_) (fun hc h=>?_)
   ·cbv;refine D9 hE eBh2 h fun x19 h=>?_;cbv;refine E2 hE hO fun b20 H hO=>?_;cbv;refine E2 hE hO fun b21 H hO=>?_;cbv;refine C1 hE hO 1 rfl rfl fun H hO=>?_;cbv;refine C1 hE hO 0 rfl rfl fun H hO=>?_;cbv;apply C0 hE hO 0 rfl;cbv;refine Jg hE h (ih57 aF x19 aI aL) .z fun r22 v23 hv23 h=>?_;cbv;obtain⟨w27,w28,o31,hx,h,he⟩:=X4 h
    rw[he,E6]at hO
    clear he;refine Tc cf122 hE O7 (ι:=Unit) (σ:=Unit) (R:=Unit) (enc:=fun(x:A7)=>[(C6 x)]) (fun _ w F1 H=>C5 (I (List.map (fun(x:A7)=>[(C6 x)]) w++tl)) F1 (cb b21 (D2 x19)::cb b20 [vi s13]::cb b1 [.bool false]::Uy ds12) H) (fun _ e w F1 H=>False) (fun e F1 H=>e= .ret∧C5 D F1 (cb b21 (D2 x19)::cb b20 [vi s13]::cb b1 [.bool false]::Uy ds12) H) (fun i _ y24=>[(9,.v (.eref [yv] 0)),(10,.v (.ref b1 0)),(12,.v (.ref b20 0)),(14,.v (.eref (U9 y24) 0))]) (fun i _ y24 w F1 H=>C5 (I (List.map (fun(x:A7)=>[(C6 x)]) w++tl)) F1 (cb b21 (D2 x19)::cb b20 [vi s13]::cb b1 [.bool false]::Uy ds12) H) (fun _ _=>C5.stable (hI _) _) (fun _ _ _=>⟨fun h=>h.elim,fun _ _ h=>h.elim⟩) (fun _=>G7.con (C5.stable hD _)) (fun _ _ _ _=>C5.stable (hI _) _) hv23 hx (w':=w28++w17) hO (by decide) (fun _=>rfl) (by kernel_rfl) (by kernel_rfl) ?_ ?_ ?_ ?_ ?_
    ·rintro E i26 y24 _ w F25 H hE hO;clear hx h;cbv;exact⟨(),hO,.e4 .z,rfl⟩
    ·rintro E i26 _ y24 _ w29 w30 F25 H o hE hF h hO;cbv;apply C0 hE hO 1 rfl;cbv;obtain⟨w32,h,he⟩:=BZ h
     rw[he,E6]at hO
     clear he;have hO:C5 (I ([.agg [vi 0,vi 0,vi 0,vi s13,sr eBg6 ([y24.d]),sr eBg4 y24.s]]::(List.map (fun(x:A7)=>[(C6 x)]) (w32++w30)++tl))) F25 (cb b21 (D2 x19)::cb b20 [vi s13]::cb b1 [.bool false]::Uy ds12) _:=hO;refine Nb hE hI hD hy hO (.cons (.agg (.r (.r (.r (.r (.cons (.lit _ (G8 ((eBg8 y24.d).symm) (E4))) .z)))))) .z) (fun H hO=>?_) (fun H hO=>?_)
     ·cbv;apply Tf hE (nt_eq _);cbv;obtain⟨hw,rfl⟩:=J4 h
      rw[←hw]at hO
      exact⟨_,rfl,hO⟩
     clear h;cbv;apply Te hE (nt_eq _);cbv;refine C1 hE hO 2 rfl rfl fun H hO=>?_;cbv
     first|exact .inr ⟨rfl,rfl,hO⟩|exact .inr (hO)
    ·rintro d33 _ H rfl hd hO;have hO:C5 (I (List.map (fun(x:A7)=>[(C6 x)]) (w28++w17)++tl)) F (cb b21 (D2 x19)::cb b20 [vi s13]::cb b1 [.bool false]::Uy (d33::ds12)) H:=C5.dbs1 (A:=[_,_,_]) (ds:=ds12) (C5.dblk hd hO);clear hd hx;cbv;obtain⟨hw,rfl⟩:=J4 h
     rw[←hw]at hO
     exact⟨_,(),_,rfl,.e rfl (.e4 (.e4 .z)),rfl,hO.tail.tail⟩
    ·rintro _ _ _ _ _ _ h;exact h.elim
    rintro d33 e H hd ⟨rfl,hO⟩;have hO:C5 D F (cb b21 (D2 x19)::cb b20 [vi s13]::cb b1 [.bool false]::Uy (d33::ds12)) H:=C5.dbs1 (A:=[_,_,_]) (ds:=ds12) (C5.dblk hd hO);clear hd hx h;cbv;exact .inr ⟨_,_,⟨rfl,rfl,hO.tail.tail⟩,.e rfl .z,rfl⟩
   cbv;obtain⟨hw,rfl⟩:=J4 h
   rw[←hw]at hO
   exact .inl ⟨_,_,_,rfl,⟨rfl,rfl,hO⟩,.e2 .z,rfl⟩
  ·exact .e rfl (.e4 (.e4 .z))
  ·exact hO
  ·rintro e l ds12 H ⟨rfl,rfl,hO⟩;cbv;refine C1 hE hO 0 rfl rfl fun H hO=>?_;cbv
   rcases ds12 with _|⟨d0,ds12⟩
   ·cbv;have hO:C5 _ _ [cb b1 [.bool (Ar.cmp .eql aF.count 0)]] H:=hO;apply C0 hE hO 0 rfl;cbv;obtain⟨hc,h⟩:=HS h;obtain⟨hw,_⟩:=J4 h
    rw[←hw]at hO
    exact hK _ _ _ hO (J6 V.bool hc)
   cbv;refine AD7 (A:=[_]) (ds:=d0::ds12) hE hO fun H hO=>?_;cbv;apply C0 hE hO 0 rfl;cbv;obtain⟨hc,h⟩:=HS h;obtain⟨hw,_⟩:=J4 h
   rw[←hw]at hO
   exact hK _ _ _ hO (J6 V.bool hc)
  rintro e l ds12 H hX;obtain⟨rfl,rfl,hO⟩:=hX;clear h;cbv
  rcases ds12 with _|⟨d0,ds12⟩
  ·cbv;have hO:C5 _ _ [cb b1 [.bool false]] H:=hO;apply C0 hE hO 0 rfl;cbv;exact hKD _ _ _ hO rfl
  cbv;refine AD7 (A:=[_]) (ds:=d0::ds12) hE hO fun H hO=>?_;cbv;apply C0 hE hO 0 rfl;cbv;exact hKD _ _ _ hO rfl
 cbv;obtain⟨w35,w36,s34,hx,h,he⟩:=X4 h
 rw[he,E6]at hO
 clear he;refine N2 cf122 hE O7 (fun e l H1=>(e= .normal∧l=[fi 3 aL,(5,.v (.eref [.eref (D7 aF) 0] 0)),(6,.v (.eref (D2 aA) 0)),(7,.v (.eref [sr eBg4 aI] 0)),(9,.v (.eref [yv] 0)),(10,.v (.ref b1 0)),(88,.v (.bool s34))]∧C5 (I (List.map (fun(x:A7)=>[(C6 x)]) (w36++[])++tl)) F [cb b1 [.bool false]] H1)∨(False)) (by kernel_rfl) ?_ ?_
 ·clear h;have h:=hx
  repeat' (cbv;refine C4 hE h (fun _ h=>?_) (fun _ h=>?_))
  ·cbv;obtain⟨hw,rfl⟩:=J4 h
   rw[←hw]at hO
   exact⟨_,.inl ⟨rfl,rfl,hO⟩,.e rfl (.e2 (.e4 .z)),rfl⟩
  ·cbv;obtain⟨hw,rfl⟩:=J4 h
   rw[←hw]at hO
   exact⟨_,.inl ⟨rfl,rfl,hO⟩,.e rfl (.e2 (.e4 .z)),rfl⟩
  cbv;obtain⟨hw,rfl⟩:=J4 h
  rw[←hw]at hO
  exact⟨_,.inl ⟨rfl,rfl,hO⟩,.e rfl (.e2 (.e4 .z)),rfl⟩
 clear hx;rintro e l H hX
 rcases hX with hX|hX
 ·obtain⟨rfl,rfl,hO⟩:=hX;cbv;refine C4 hE h (fun hc h=>?_) (fun hc h=>?_)
  ·cbv;obtain⟨l37,hl,h⟩:=bind_some h;obtain⟨w38,h,he⟩:=BZ h
   rw[he,E6]at hO
   clear he
   rw[O3,E6]at hO
   refine Wn hE hI hD hy (ih158 aF aA aI aL ([]) ([]) l37 hl) hO (.r (.r (.r (.r (.cons (.lit _ (E4)) (.cons (.lit _ (E4)) .z)))))) (fun v H hb hO=>?_) (fun v H hb hO=>?_)
   ·cases hb;clear hl;cbv;refine C1 hE hO 0 rfl rfl fun H hO=>?_;cbv;apply C0 hE hO 0 rfl;cbv;obtain⟨hw,_⟩:=J4 h
    rw[←hw]at hO
    exact hK _ _ _ hO rfl
   cases hb;clear h hl;cbv;refine C1 hE hO 0 rfl rfl fun H hO=>?_;cbv;apply C0 hE hO 0 rfl;cbv;exact hKD _ _ _ hO rfl
  cbv;refine D9 hE eBh2 h fun x39 h=>?_;cbv;refine Jg hE h (ih57 aF x39 aI aL) .z fun r40 v41 hv41 h=>?_;cbv;obtain⟨w45,w46,o49,hx,h,he⟩:=X4 h
  rw[he,E6]at hO
  clear he;refine Tc cf122 hE O7 (ι:=Unit) (σ:=Unit) (R:=Unit) (enc:=fun(x:A7)=>[(C6 x)]) (fun _ w F1 H=>C5 (I (List.map (fun(x:A7)=>[(C6 x)]) w++tl)) F1 [cb b1 [.bool false]] H) (fun _ e w F1 H=>False) (fun e F1 H=>e= .ret∧C5 D F1 [cb b1 [.bool false]] H) (fun i _ y42=>[(5,.v (.eref [.eref (D7 aF) 0] 0)),(6,.v (.eref (D2 aA) 0)),(7,.v (.eref [sr eBg4 aI] 0)),(9,.v (.eref [yv] 0)),(10,.v (.ref b1 0)),(15,.v (.eref (U9 y42) 0))]) (fun i _ y42 w F1 H=>C5 (I (List.map (fun(x:A7)=>[(C6 x)]) w++tl)) F1 [cb b1 [.bool false]] H) (fun _ _=>C5.stable (hI _) _) (fun _ _ _=>⟨fun h=>h.elim,fun _ _ h=>h.elim⟩) (fun _=>G7.con (C5.stable hD _)) (fun _ _ _ _=>C5.stable (hI _) _) hv41 hx (w':=w46++[]) hO (by decide) (fun _=>rfl) (by kernel_rfl) (by kernel_rfl) ?_ ?_ ?_ ?_ ?_
  ·rintro E i44 y42 _ w F43 H hE hO;clear hx h;cbv;exact⟨(),hO,.e2 (.e4 .z),rfl⟩
  ·rintro E i44 _ y42 _ w47 w48 F43 H o hE hF h hO;cbv;refine B0 hE h (c143 N aF aA aI y42.s) .z fun r50 h=>?_;cbv;refine C4 hE h (fun hc h=>?_) (fun hc h=>?_)
   ·cbv;obtain⟨w51,h,he⟩:=BZ h
    rw[he,E6]at hO
    clear he;have hO:C5 (I ([.agg [vi 0,vi 0,vi 0,vi 0,sr eBg6 ([y42.d]),sr eBg4 y42.s]]::(List.map (fun(x:A7)=>[(C6 x)]) (w51++w48)++tl))) F43 [cb b1 [.bool false]] _:=hO;refine Nb hE hI hD hy hO (.cons (.agg (.r (.r (.r (.r (.cons (.lit _ (G8 ((eBg8 y42.d).symm) (E4))) .z)))))) .z) (fun H hO=>?_) (fun H hO=>?_)
    ·cbv;apply Tf hE (nt_eq _);cbv;obtain⟨hw,rfl⟩:=J4 h
     rw[←hw]at hO
     exact⟨_,rfl,hO⟩
    clear h;cbv;apply Te hE (nt_eq _);cbv;refine C1 hE hO 0 rfl rfl fun H hO=>?_;cbv
    first|exact .inr ⟨rfl,rfl,hO⟩|exact .inr (hO)
   cbv;obtain⟨hw,rfl⟩:=J4 h
   rw[←hw]at hO
   exact⟨_,rfl,hO⟩
  ·rintro d52 _ H rfl hd hO;have hO:C5 (I (List.map (fun(x:A7)=>[(C6 x)]) (w46++[])++tl)) F [cb b1 [.bool false],.blk d52 DB] H:=C5.dblk hd hO;clear hd hx;cbv;refine C1 hE hO 0 rfl rfl fun H hO=>?_;cbv;refine JP hE hO 1 rfl fun H hO=>?_;cbv;apply C0 hE hO 0 rfl;cbv;obtain⟨hc,h⟩:=HS h;obtain⟨hw,_⟩:=J4 h
   rw[←hw]at hO
   exact hK _ _ _ hO (J6 V.bool hc)
  ·rintro _ _ _ _ _ _ h;exact h.elim
  rintro d52 e H hd ⟨rfl,hO⟩;have hO:C5 D F [cb b1 [.bool false],.blk d52 DB] H:=C5.dblk hd hO;clear hd hx h;cbv;refine JP hE hO 1 rfl fun H hO=>?_;cbv;apply C0 hE hO 0 rfl;cbv;exact hKD _ _ _ hO rfl
 exact hX.elim
theorem k158 (N n:Nat) (ih57:K57 N n) (ih158:AT8 N n):AT8 N (n+1):=by
 intro aF aA aI aL bG aH r h
 unfold E7 at h
 obtain⟨⟨w0,u0⟩,h1,hr⟩:=bind_some h;clear h;have hr:=F2 hr;subst hr;have h:=h1;clear h1;refine DI cf158 O7 func158 (by rfl) (by kernel_rfl) call158 ntmps158 (by rfl) (fun _=>rfl) ?_;intro yv I D hI hD hy tl F E H K hE hO hK hKD
 have hO:C5 (I (List.map (fun(x:A7)=>[(C6 x)]) (w0++[])++tl)) F [] H:=by rw[H6];exact hO
 repeat' (cbv;first|apply I8 hE|refine E2 hE hO fun b1 H hO=>?_|apply On hE hy.1)
 cbv;obtain⟨w3,w4,s2,hx,h,he⟩:=X4 h
 rw[he,E6]at hO
 clear he;refine N2 cf158 hE O7 (fun e l H1=>(match(generalizing:=false) s2 with| .inl y=>e= .normal∧l=[(7,.v (.eref [.eref (D7 aF) 0] 0)),(8,.v (.eref (D2 aA) 0)),(9,.v (.eref [sr eBg4 aI] 0)),(10,.v (.eref [vi aL] 0)),(11,.v (.eref [sr eBg6 bG] 0)),(12,.v (.eref [sr eBg4 aH] 0)),(13,.v (.eref [yv] 0)),(14,.v (.ref b1 0)),(15,.v (.eref [vi (Ar.len bG)] 0))]∧C5 (I (List.map (fun(x:A7)=>[(C6 x)]) (w4++[])++tl)) F [cb b1 [.bool false]] H1| .inr y=>e= .ret∧l=[(14,.v (.ref b1 0))]∧C5 (I (List.map (fun(x:A7)=>[(C6 x)]) (w4++[])++tl)) F [cb b1 [.bool y]] H1)∨((e= .ret∧l=[(14,.v (.ref b1 0))]∧C5 D F [cb b1 [.bool false]] H1))) (by kernel_rfl) ?_ ?_
 ·clear h;have h:=hx;cbv;refine C4 hE h (fun hc h=>?_) (fun hc h=>?_)
  ·cbv;refine E5 hE (g:=fun r5=>sr eBg6 r5) h (fun r5 hx=>TX (c218 N bG r5 hx)) .z fun r5 h=>?_;cbv;obtain⟨w6,h,he⟩:=BZ h
   rw[he,E6]at hO
   clear he;have hO:C5 (I ([.agg [vi 0,vi 0,vi 0,vi 0,sr eBg6 r5,sr eBg4 aH]]::(List.map (fun(x:A7)=>[(C6 x)]) (w6++(w4++[]))++tl))) F [cb b1 [.bool false]] _:=hO;refine Nb hE hI hD hy hO .z (fun H hO=>?_) (fun H hO=>?_)
   ·cbv;apply Tf hE (nt_eq _);cbv;refine C4 hE h (fun hc h=>?_) (fun hc h=>?_)
    ·cbv;refine C1 hE hO 0 rfl rfl fun H hO=>?_;cbv;obtain⟨hw,rfl⟩:=J4 h
     rw[←hw]at hO
     exact⟨_,.inl ⟨rfl,rfl,hO⟩,.e rfl .z,rfl⟩
    cbv;obtain⟨hw,rfl⟩:=J4 h
    rw[←hw]at hO
    exact⟨_,.inl ⟨rfl,rfl,hO⟩,.e rfl (.e4 (.e4 .z)),rfl⟩
   clear h;cbv;apply Te hE (nt_eq _);cbv;refine C1 hE hO 0 rfl rfl fun H hO=>?_;cbv;exact⟨_,.inr (⟨rfl,rfl,hO⟩),.e rfl .z,rfl⟩
  cbv;obtain⟨hw,rfl⟩:=J4 h
  rw[←hw]at hO
  exact⟨_,.inl ⟨rfl,rfl,hO⟩,.e rfl (.e4 (.e4 .z)),rfl⟩
 clear hx;rintro e l H hX
 rcases hX with hX|hX
 ·rcases s2 with y7|y34
  ·obtain⟨rfl,rfl,hO⟩:=hX;cbv;obtain⟨w9,w10,s8,hx,h,he⟩:=X4 h
   rw[he,E6]at hO
   clear he;refine N2 cf158 hE O7 (fun e l H1=>(e= .normal∧l=[(7,.v (.eref [.eref (D7 aF) 0] 0)),(8,.v (.eref (D2 aA) 0)),(9,.v (.eref [sr eBg4 aI] 0)),(10,.v (.eref [vi aL] 0)),(11,.v (.eref [sr eBg6 bG] 0)),(12,.v (.eref [sr eBg4 aH] 0)),(13,.v (.eref [yv] 0)),(14,.v (.ref b1 0)),(15,.v (.eref [vi (Ar.len bG)] 0)),(16,.v (sr eBg4 s8))]∧C5 (I (List.map (fun(x:A7)=>[(C6 x)]) (w10++[])++tl)) F [cb b1 [.bool false]] H1)∨(False)) (by kernel_rfl) ?_ ?_
   ·clear h;have h:=hx;cbv;refine C4 hE h (fun hc h=>?_) (fun hc h=>?_)
    ·cbv;refine B0 hE h (c140 N aI aH) .z fun r11 h=>?_;cbv;obtain⟨hw,rfl⟩:=J4 h
     rw[←hw]at hO
     exact⟨_,.inl ⟨rfl,rfl,hO⟩,.e2 (.e4 (.e4 .z)),rfl⟩
    cbv;obtain⟨hw,rfl⟩:=J4 h
    rw[←hw]at hO
    exact⟨_,.inl ⟨rfl,rfl,hO⟩,.e2 (.e4 (.e4 .z)),rfl⟩
   clear hx;rintro e l H hX
   rcases hX with hX|hX
   ·obtain⟨rfl,rfl,hO⟩:=hX;cbv;apply I8 hE;cbv;refine RZ hE h fun h=>?_;cbv;refine D9 hE eBh2 h fun x12 h=>?_;cbv;refine Jg hE h (ih57 aF x12 s8 aL) .z fun r13 v14 hv14 h=>?_;cbv;obtain⟨w18,w19,o22,hx,h,he⟩:=X4 h
    rw[he,E6]at hO
    clear he;refine Tc cf158 hE O7 (ι:=Unit) (σ:=Unit) (R:=Unit) (enc:=fun(x:A7)=>[(C6 x)]) (fun _ w F1 H=>C5 (I (List.map (fun(x:A7)=>[(C6 x)]) w++tl)) F1 [cb b1 [.bool false]] H) (fun _ e w F1 H=>False) (fun e F1 H=>e= .ret∧C5 D F1 [cb b1 [.bool false]] H) (fun i _ y15=>[(7,.v (.eref [.eref (D7 aF) 0] 0)),(8,.v (.eref (D2 aA) 0)),(9,.v (.eref [sr eBg4 aI] 0)),(10,.v (.eref [vi aL] 0)),(11,.v (.eref [sr eBg6 bG] 0)),(12,.v (.eref [sr eBg4 aH] 0)),(13,.v (.eref [yv] 0)),(14,.v (.ref b1 0)),(15,.v (.eref [vi (Ar.len bG)] 0)),(17,.v (.eref (U9 y15) 0))]) (fun i _ y15 w F1 H=>C5 (I (List.map (fun(x:A7)=>[(C6 x)]) w++tl)) F1 [cb b1 [.bool false]] H) (fun _ _=>C5.stable (hI _) _) (fun _ _ _=>⟨fun h=>h.elim,fun _ _ h=>h.elim⟩) (fun _=>G7.con (C5.stable hD _)) (fun _ _ _ _=>C5.stable (hI _) _) hv14 hx (w':=w19++[]) hO (by decide) (fun _=>rfl) (by kernel_rfl) (by kernel_rfl) ?_ ?_ ?_ ?_ ?_
    ·rintro E i17 y15 _ w F16 H hE hO;clear hx h;cbv;exact⟨(),hO,.e2 (.e4 (.e4 .z)),rfl⟩
    ·rintro E i17 _ y15 _ w20 w21 F16 H o hE hF h hO;cbv;obtain⟨w24,w25,s23,hx,h,he⟩:=X4 h
     rw[he,E6]at hO
     clear he;refine N2 cf158 hE O7 (fun e l H1=>(e= .normal∧l=[(7,.v (.eref [.eref (D7 aF) 0] 0)),(8,.v (.eref (D2 aA) 0)),(9,.v (.eref [sr eBg4 aI] 0)),(11,.v (.eref [sr eBg6 bG] 0)),(12,.v (.eref [sr eBg4 aH] 0)),(13,.v (.eref [yv] 0)),(14,.v (.ref b1 0)),(15,.v (.eref [vi (Ar.len bG)] 0)),(17,.v (.eref (U9 y15) 0)),fi 18 s23]∧C5 (I (List.map (fun(x:A7)=>[(C6 x)]) (w25++w21)++tl)) F16 [cb b1 [.bool false]] H1)∨(False)) (by kernel_rfl) ?_ ?_
     ·clear h;have h:=hx;cbv;refine C4 hE h (fun hc h=>?_) (fun hc h=>?_)
      ·cbv;refine B0 hE h (c142 N y15.s) .z fun r26 h=>?_;cbv;obtain⟨hw,rfl⟩:=J4 h
       rw[←hw]at hO
       exact⟨_,.inl ⟨rfl,rfl,hO⟩,.e2 (.e4 (.e4 .z)),rfl⟩
      cbv;obtain⟨hw,rfl⟩:=J4 h
      rw[←hw]at hO
      exact⟨_,.inl ⟨rfl,rfl,hO⟩,.e2 (.e4 (.e4 .z)),rfl⟩
     clear hx;rintro e l H hX
     rcases hX with hX|hX
     ·obtain⟨rfl,rfl,hO⟩:=hX;cbv;refine B0 hE h (c141 N aH y15.s) .z fun r27 h=>?_;cbv;refine C4 hE h (fun hc h=>?_) (fun hc h=>?_)
      ·cbv;obtain⟨hw,rfl⟩:=J4 h
       rw[←hw]at hO
       exact⟨_,rfl,hO⟩
      cbv;refine AD0 hE (f:=eBg6) J8 h fun l28 h=>?_;cbv;refine Oo (f:=eBg6) hE J8 (by decide) (l:=l28) (m:=[y15.d]) .z (.lstc (.eq (eBg8 y15.d) .z) (.lst0)) h fun l29 h=>?_;cbv;refine E5 hE (g:=fun r30=>sr eBg4 r30) h (c140 N aH y15.s) .z fun r30 h=>?_;cbv;obtain⟨l31,hl,h⟩:=bind_some h;obtain⟨w32,h,he⟩:=BZ h
      rw[he,E6]at hO
      clear he
      rw[O3,E6]at hO
      refine Wn hE hI hD hy (ih158 aF aA aI s23 l29 r30 l31 hl) hO .z (fun v H hb hO=>?_) (fun v H hb hO=>?_)
      ·cases hb;clear hl;cbv;apply Tf hE (nt_eq _);cbv;obtain⟨hw,rfl⟩:=J4 h
       rw[←hw]at hO
       exact⟨_,rfl,hO⟩
      cases hb;clear h hl;cbv;apply Te hE (nt_eq _);cbv;refine C1 hE hO 0 rfl rfl fun H hO=>?_;cbv
      first|exact .inr ⟨rfl,rfl,hO⟩|exact .inr (hO)
     exact hX.elim
    ·rintro d33 _ H rfl hd hO;have hO:C5 (I (List.map (fun(x:A7)=>[(C6 x)]) (w19++[])++tl)) F [cb b1 [.bool false],.blk d33 DB] H:=C5.dblk hd hO;clear hd hx;cbv;refine C1 hE hO 0 rfl rfl fun H hO=>?_;cbv;refine JP hE hO 1 rfl fun H hO=>?_;cbv;apply C0 hE hO 0 rfl;cbv;obtain⟨hc,h⟩:=HS h;obtain⟨hw,_⟩:=J4 h
     rw[←hw]at hO
     exact hK _ _ _ hO (J6 V.bool hc)
    ·rintro _ _ _ _ _ _ h;exact h.elim
    rintro d33 e H hd ⟨rfl,hO⟩;have hO:C5 D F [cb b1 [.bool false],.blk d33 DB] H:=C5.dblk hd hO;clear hd hx h;cbv;refine JP hE hO 1 rfl fun H hO=>?_;cbv;apply C0 hE hO 0 rfl;cbv;exact hKD _ _ _ hO rfl
   exact hX.elim
  obtain⟨rfl,rfl,hO⟩:=hX;cbv;apply C0 hE hO 0 rfl;cbv;obtain⟨hc,h⟩:=HS h;obtain⟨hw,_⟩:=J4 h
  rw[←hw]at hO
  exact hK _ _ _ hO (J6 V.bool hc)
 obtain⟨rfl,rfl,hO⟩:=hX;clear h;cbv;apply C0 hE hO 0 rfl;cbv;exact hKD _ _ _ hO rfl
theorem RE (N:Nat):∀n,K57 N n∧Bb9 N n∧Bb8 N n∧AT8 N n:=by
 intro n
 induction n with
 |zero=>exact⟨(by intro aF aA aI aL r h;unfold E9 at h;cases h),(by intro aQ bE bW bX r h;unfold U0 at h;cases h),(by intro aF aA aI aL r h;unfold L8 at h;cases h),(by intro aF aA aI aL bG aH r h;unfold E7 at h;cases h)⟩
 |succ n ih=>
  obtain⟨ih57,ih121,ih122,ih158⟩:=ih;exact⟨k57 N n ih121,k121 N n ih122,k122 N n ih57 ih158,k158 N n ih57 ih158⟩
theorem c57 (N n aF aA aI aL r)(h:E9 N n aF aA aI aL=some r):MK prog 57 [.eref (D7 aF) 0,(C8 aA),sr eBg4 aI,vi aL] (fun v=>Uh prog v (r.map fun(x:A7)=>[(C6 x)])):=(RE N n).1 aF aA aI aL r h
theorem c58 {cmp:A3→A3→Option Int}{g:Nat}{C:List V}(eg:∀vals w,(callFunc g vals).run prog w= .ok (.enter g vals) w)(hc:∀y1 y2 r,cmp y1 y2=some r→B9 prog g ([(G0 y1),(G0 y2)]++C) (vi r)){l r:List A3}(h:LU cmp l=some r):
 WX prog 58 (.func (.func g) [] C) 5 (lst eBg6 l) (lst eBg6 r):=Rx Go.Proofs.Tryz.sorts58 call58 (va:=fun x=>(U6 x)) eBg8 (fun _=>rfl) eg hc h
def cf15:Cf:=⟨[9,5000009],[(3000011,0),(3000011,1),(3000011,2),(3000011,3)],[],[2000011],[],[]⟩
set_option maxHeartbeats 2000000 in
theorem c15 (N aA aH r) (h:Di N aA aH=some r):B9 prog 15 [(C8 aA),sr eBg5 aH] (.tup [sr eBg6 r.1,vi r.2]):=by
 refine TW (T:=TT) cf15 O7 func15 (by rfl) (by kernel_rfl) call15 ntmps15 (by rfl) (by rfl) ?_;intro E H0 K hE hK hF;have hO:C5 Eq H0 [] H0:=.start M5 rfl
 repeat' (cbv;first|apply C4 hE h<;>intro _ h|refine B0 hE h (c55 _ _) .z fun _ h=>?_|refine B0 hE h (c56 _ _) .z fun _ h=>?_|refine Jg hE h (c57 _ _ _ _ _ _) (.r (.r (.cons (.lit _ (E4)) .z))) fun _ _ hv6 h=>?_|(cases h;exact hK _ _ _ hO (.tup (.cons (.lit _ (E4)) .z)))|refine Yv hE (f0:=eBg6) hO fun q4 b3 H hq4 hO=>?_)
 cbv;obtain⟨o12,hx,h⟩:=bind_some h;refine Pq cf15 hE O7 (ι:=Unit) (enc:=fun(x:A7)=>[(C6 x)]) (fun(s8:(List A3)) F H=>∃g:OG,(BD g (Ar.len s8))∧C5 Eq F [cb b3 [.own g.id g.lo g.n],ob g 5 eBg6 s8] H) (fun(r:Unit) e F H=>False) (fun i s8 y7=>[(9,.v (.ref b3 0)),(10,.v (.eref (U9 y7) 0))]) (fun i s8 y7 F H=>∃g:OG,(BD g (Ar.len s8))∧C5 Eq F [cb b3 [.own g.id g.lo g.n],ob g 5 eBg6 s8] H) (fun _=>G7.ex fun _=>C5.stable M5 _) (fun _ _=>⟨fun h=>h.elim,fun _ _ h=>h.elim⟩) (fun _ _ _=>G7.ex fun _=>C5.stable M5 _) hv6 hx (⟨q4,hq4,hO⟩) (by decide) (fun _=>rfl) (by kernel_rfl) (by kernel_rfl) ?_ ?_ ?_ ?_
 ·rintro E i10 y7 s8 F9 H hE ⟨q11,hq11,hO⟩;clear hx h;cbv;exact⟨(),⟨q11,hq11,hO⟩,.e2 .z,rfl⟩
 ·rintro E i10 _ y7 s8 F9 H o hE hF h ⟨q11,hq11,hO⟩;cbv;obtain⟨s13,hx,h⟩:=bind_some h;refine N2 cf15 hE O7 (fun e l H1=>∃u1:OG,BD u1 (Ar.len s13)∧e= .normal∧l=[]∧C5 Eq F9 [cb b3 [.own u1.id u1.lo u1.n],ob u1 5 eBg6 s13] H1) (by kernel_rfl) ?_ ?_
  ·clear h;have h:=hx;cbv;obtain⟨l215,el215,h⟩:=bind_some h;obtain⟨u253_0,eu253_0,h⟩:=bind_some h;obtain⟨l295,el295,h⟩:=bind_some h
   repeat' first|refine And.intro ?_ ?_|(refine C0 hE hO 0 rfl ?_;cbv)|(refine Td hE hq11 ?_;cbv)|(refine Wl (f:=eBg6) hE J8 (by decide) hO hq11 1 rfl (m:=[(⟨(⟨0,0,0⟩:Q4),0,[]⟩:A3)]) (Qe (f:=eBg6) hE J8 (.lstc (.eq (eBg8 (⟨(⟨0,0,0⟩:Q4),0,[]⟩:A3)) (.agg (.r (.r (.r (.r (.cons (.lit _ (E4)) .z))))))) (.lst0))) (P9 el215) fun l215 q214 H hq214 hO hh=>?_;obtain rfl:=F2 hh;cbv)|(refine Dd hE hO hq214 1 rfl (P9 eu253_0) fun hh=>?_;clear hh;cbv)|(refine HN hE (f:=eBg6) (esz:=5) (tz:=5) (off:=0) (u:=(fun x294:A3=>y7.d)) (fun _=>⟨_,.eq (eBg8 _) .z,(by rw[eBg8];rfl),J8 _,rfl⟩) (by decide) hO hq214 1 rfl (P9 el295) fun l295 H hq214 hh hO=>?_;obtain rfl:=F2 hh;cbv)|(refine C1 hE hO 0 rfl rfl fun H hO=>?_;cbv)|(have h:=F2 h;subst h;exact⟨_,⟨q214,hq214,rfl,rfl,hO⟩,.z,rfl⟩)
  clear hx;rintro e l H ⟨q414,hq414,rfl,rfl,hO⟩;cbv;cases h;exact⟨_,rfl,⟨q414,hq414,hO⟩⟩
 ·rintro d415 s418 H rfl hd ⟨q419,hq419,hO⟩;have hO:C5 Eq H0 [cb b3 [.own q419.id q419.lo q419.n],ob q419 5 eBg6 s418,.blk d415 DB] H:=C5.dblk hd hO;clear hd;cbv;apply C4 hE h<;>intro _ h
  ·cbv;refine JP hE hO 2 rfl fun H hO=>?_;cbv;cases h;exact hK _ _ _ hO (.tup (.cons (.lit _ (E4)) .z))
  cbv;apply C0 hE hO 0 rfl;cbv;apply Td hE hq419;cbv;obtain⟨s421,hx,h⟩:=bind_some h;refine H9 cf15 hE O7 (fun s420=>[(9,.v (.ref b3 0)),(42,.v (.own q419.id q419.lo q419.n)),fi 43 (Ar.len s418),fi 44 s420]) (fun s420 H1=>C5 Eq H0 [cb b3 [.own q419.id q419.lo q419.n],ob q419 5 eBg6 s418,.blk d415 DB] H1) (fun x e l H1=>match(generalizing:=false) x with| .inl y=>e= .exit 2∧l=[(9,.v (.ref b3 0))]∧C5 Eq H0 [cb b3 [.own q419.id q419.lo q419.n],ob q419 5 eBg6 s418,.blk d415 DB] H1| .inr y=>e= .ret∧l=[(4,.v (.sl [] .nil)),fi 5 5]∧C5 Eq H0 [cb b3 [.own q419.id q419.lo q419.n],ob q419 5 eBg6 s418,.blk d415 DB] H1) (by kernel_rfl) ?_ hx ?_ hO ?_
  ·intro s420 H o hO h
   repeat' (cbv;first|apply C4 hE h<;>intro _ h|refine B0 hE h (c29 _ _ _) .z fun _ h=>?_|(cases h;exact⟨_,_,rfl,⟨rfl,rfl,hO⟩,.e2 .z,rfl⟩)|(cases h;exact⟨_,rfl,.e4 .z,rfl,hO⟩)|(cases h;exact⟨_,_,rfl,⟨rfl,rfl,hO⟩,.e rfl .z,rfl⟩)|refine Dd hE hO hq419 1 rfl h fun h=>?_|refine EM hE eBg8 hO hq419 1 rfl h fun _ h=>?_)
  ·exact .e4 .z
  clear hx
  rcases s421 with y424|y426
  ·rintro e l H ⟨rfl,rfl,hO⟩
   repeat' (cbv;first|refine Yw hE hO hq419 1 rfl h (fun l425 hx=>c58 (g:=21) (C:=[]) call21 (fun y1 y2 r hx=>c21 N N y1 y2 r hx) hx) fun _ H hq419 hO h=>?_|apply C0 hE hO 0 rfl|(cases h;exact hF _ (Ej.tup [.bad,vi 0] 0 (by simp)) q419 _ _ 1 _ _ hO rfl (Hl hE hq419) (.tup .z))|refine JP hE hO 2 rfl fun H hO=>?_)
  rintro e l H ⟨rfl,rfl,hO⟩;cbv;refine JP hE hO 2 rfl fun H hO=>?_;cbv;cases h;exact hK _ _ _ hO (.tup (.cons (.lit _ (E4)) .z))
 rintro d r e H rfl hd hO;exact hO.elim
def cf69:=cfB [] [(1,14)]
theorem c69 (N aC aD r)(h:Tm N aC aD=some r):B9 prog 69 [(Dy aC),(Dy aD)] (vi r):=by
 refine O0 cf69 func69 call69 ntmps69 ?_;intro E H0 K hE hK hO
 repeat' (cbv;first|refine B0 hE h (c70 _ _ _) .z fun _ h=>?_|refine B0 hE h (c68 _ _) (.cons (.lit _ (G8 (rfl) (G8 (rfl) (G8 (rfl) (E4))))) .z) fun _ h=>?_|refine E5 hE (g:=fun r1=>vi r1) h (c70 _ _ _) .z fun r1 h=>?_|refine E5 hE (g:=fun r2=>vi r2) h (c70 _ _ _) .z fun r2 h=>?_|(cases h;exact hK hO .z))
theorem c146 (N aG r) (h:MW N aG=some r):B9 prog 146 [sr eBh3 aG] (.bool r):=by
 refine O0 cf0 func146 call146 ntmps146 ?_;intro E H0 K hE hK hO;cbv;obtain⟨s2,hx,h⟩:=bind_some h;refine H9 cf0 hE O7 (fun s1=>[(0,.v (sr eBh3 aG)),fi 3 s1]) (fun s1 H1=>C5 Eq H0 [] H1) (fun x e l H1=>match(generalizing:=false) x with| .inl y=>e= .exit 0∧l=[(0,.v (sr eBh3 aG))]∧C5 Eq H0 [] H1| .inr y=>e= .ret∧l=[(2,.b false)]∧C5 Eq H0 [] H1) (by kernel_rfl) ?_ hx ?_ hO ?_
 ·intro s1 H o hO h
  repeat' (cbv;first|apply C4 hE h<;>intro _ h|apply I8 hE|refine D9 hE eBh7 h fun _ h=>?_|(cases h;exact⟨_,_,rfl,⟨rfl,rfl,hO⟩,.b rfl (.z),rfl⟩)|(cases h;exact⟨_,rfl,.e2 .z,rfl,hO⟩)|(cases h;exact⟨_,_,rfl,⟨rfl,rfl,hO⟩,.e rfl .z,rfl⟩))
 ·exact .e2 .z
 clear hx
 rcases s2 with y4|y5
 ·rintro e l H ⟨rfl,rfl,hO⟩;cbv;apply I8 hE;cbv;cases h;exact hK hO .z
 rintro e l H ⟨rfl,rfl,hO⟩;cbv;cases h;exact hK hO .z
theorem c94 (N aB r)(h:Ql N aB=some r):B9 prog 94 [(W4 aB)] (.bool r):=by
 refine O0 cf0 func94 call94 ntmps94 ?_;intro E H0 K hE hK hO;cbv;refine B0 hE h (c146 N aB.Values) .z fun r1 h=>?_;cbv;cases h;exact hK hO .z
theorem c36 (N aG r) (h:Hj N aG=some r):B9 prog 36 [sr eBg5 aG] (.bool r):=by
 refine O0 cf0 func36 call36 ntmps36 ?_;intro E H0 K hE hK hO;cbv;obtain⟨s2,hx,h⟩:=bind_some h;refine H9 cf0 hE O7 (fun s1=>[(0,.v (sr eBg5 aG)),fi 3 s1]) (fun s1 H1=>C5 Eq H0 [] H1) (fun x e l H1=>match(generalizing:=false) x with| .inl y=>e= .exit 0∧l=[(0,.v (sr eBg5 aG))]∧C5 Eq H0 [] H1| .inr y=>e= .ret∧l=[(2,.b false)]∧C5 Eq H0 [] H1) (by kernel_rfl) ?_ hx ?_ hO ?_
 ·intro s1 H o hO h
  repeat' (cbv;first|apply C4 hE h<;>intro _ h|apply I8 hE|refine B0 hE h (c94 _ _) .z fun _ h=>?_|refine D9 hE eBh4 h fun _ h=>?_|(cases h;exact⟨_,_,rfl,⟨rfl,rfl,hO⟩,.b rfl (.z),rfl⟩)|(cases h;exact⟨_,rfl,.e2 .z,rfl,hO⟩)|(cases h;exact⟨_,_,rfl,⟨rfl,rfl,hO⟩,.e rfl .z,rfl⟩))
 ·exact .e2 .z
 clear hx
 rcases s2 with y5|y6
 ·rintro e l H ⟨rfl,rfl,hO⟩;cbv;apply I8 hE;cbv;cases h;exact hK hO .z
 rintro e l H ⟨rfl,rfl,hO⟩;cbv;cases h;exact hK hO .z
theorem c100 (N:Nat):∀n aA r,Au N n aA=some r→B9 prog 100 [(C8 aA)] (sr eBh0 r):=by
 intro n
 induction n with
 |zero=>intro aA r h;cases h
 |succ n ih=>
 intro aA r h
 unfold Au at h
 refine O0 cf0 func100 call100 ntmps100 ?_;intro E H0 K hE hK hO;cbv;replace hO:=hO.tl0 (t:=.full) rfl;obtain⟨s3,hx,h⟩:=bind_some h;refine P6 cf0 hE O7 (γ:=G6) (fun s1 g=>[(1,.v (.eref (D2 aA) 0)),(3,.v (.sl (lst eBh0 s1.1) g)),fi 4 s1.2]) (fun s1 g H1=>T3 g∧C5 Eq H0 [.tl g] H1) (fun x e l H1=>∃u1:G6,T3 u1∧e= .exit 0∧l=[(3,.v (.sl (lst eBh0 x) u1))]∧C5 Eq H0 [.tl u1] H1) (by kernel_rfl) ?_ .full hx ?_ ?_ ?_
 ·rintro s1 t2 H o ⟨ht2,hO⟩ h
  repeat' (cbv;first|apply C4 hE h<;>intro _ h|apply I8 hE|refine B0 hE h (ih _) .z fun r5 h=>?_|refine D9 hE eBh2 h fun _ h=>?_|(cases h;exact⟨_,t6,rfl,.e rfl (.e2 .z),rfl,ht6,hO⟩)|(cases h;exact⟨_,_,rfl,⟨t2,ht2,rfl,rfl,hO⟩,.e rfl .z,rfl⟩)|refine S7 (f:=eBh0) hE LS (by decide) hO 0 rfl ht2 (l:=s1.1) (m:=r5) .z .z h fun _ t6 H hO ht6 h=>?_)
 ·exact .e rfl (.v (.slt _ (.lstc (.eq (eBh2 aA) .z) (.lst0))) (.e rfl (.z)))
 ·exact⟨trivial,hO⟩
 clear hx;rintro e l H ⟨t8,ht8,rfl,rfl,hO⟩;cbv;cases h;exact hK hO (.ro _ _)
theorem c132 (N:Nat):∀n aA bF r,AU N n aA bF=some r→B9 prog 132 [(C8 aA),vi bF] (vi r):=by
 intro n
 induction n with
 |zero=>intro aA bF r h;cases h
 |succ n ih=>
 intro aA bF r h
 unfold AU at h
 refine O0 cf0 func132 call132 ntmps132 ?_;intro E H0 K hE hK hO;cbv;obtain⟨s2,hx,h⟩:=bind_some h;refine H9 cf0 hE O7 (fun s1=>[fi 1 bF,(2,.v (.eref (D2 aA) 0)),fi 5 s1.1,fi 6 s1.2]) (fun s1 H1=>C5 Eq H0 [] H1) (fun x e l H1=>e= .exit 0∧l=[fi 5 x]∧C5 Eq H0 [] H1) (by kernel_rfl) ?_ hx ?_ hO ?_
 ·intro s1 H o hO h
  repeat' (cbv;first|apply C4 hE h<;>intro _ h|apply I8 hE|refine B0 hE h (ih _ _) .z fun _ h=>?_|refine D9 hE eBh2 h fun _ h=>?_|(cases h;exact⟨_,rfl,.e4 .z,rfl,hO⟩)|(cases h;exact⟨_,_,rfl,⟨rfl,rfl,hO⟩,.e rfl .z,rfl⟩))
 ·exact .e4 .z
 clear hx;rintro e l H ⟨rfl,rfl,hO⟩;cbv;cases h;exact hK hO .z
theorem c133 (N:Nat):∀n aA r,Av N n aA=some r→B9 prog 133 [(C8 aA)] (vi r):=by
 intro n
 induction n with
 |zero=>intro aA r h;cases h
 |succ n ih=>
 intro aA r h
 unfold Av at h
 refine O0 cf0 func133 call133 ntmps133 ?_;intro E H0 K hE hK hO;cbv;obtain⟨s2,hx,h⟩:=bind_some h;refine H9 cf0 hE O7 (fun s1=>[(1,.v (.eref (D2 aA) 0)),fi 3 s1.1,fi 4 s1.2]) (fun s1 H1=>C5 Eq H0 [] H1) (fun x e l H1=>e= .exit 0∧l=[fi 3 x]∧C5 Eq H0 [] H1) (by kernel_rfl) ?_ hx ?_ hO ?_
 ·intro s1 H o hO h;cbv;apply I8 hE;cbv;apply C4 hE h<;>intro _ h
  ·cbv;refine D9 hE eBh2 h fun x3 h=>?_;cbv;refine B0 hE h (ih x3) .z fun r4 h=>?_;cbv;cases h;exact⟨_,rfl,.e rfl (.e2 .z),rfl,hO⟩
  cbv;cases h;exact⟨_,_,rfl,⟨rfl,rfl,hO⟩,.e rfl .z,rfl⟩
 ·exact .e rfl (.e2 .z)
 clear hx;rintro e l H ⟨rfl,rfl,hO⟩;cbv;cases h;exact hK hO .z
theorem c174 (N:Nat):∀n aB bF r,AW N n aB bF=some r→B9 prog 174 [(Y9 aB),vi bF] (vi r):=by
 intro n
 induction n with
 |zero=>intro aB bF r h;cases h
 |succ n ih=>
 intro aB bF r h
 unfold AW at h
 refine O0 cf0 func174 call174 ntmps174 ?_;intro E H0 K hE hK hO;cbv;obtain⟨s2,hx,h⟩:=bind_some h;refine H9 cf0 hE O7 (fun s1=>[fi 1 bF,(2,.v (.eref (BT aB) 0)),fi 5 s1.1,fi 6 s1.2]) (fun s1 H1=>C5 Eq H0 [] H1) (fun x e l H1=>e= .exit 0∧l=[fi 5 x]∧C5 Eq H0 [] H1) (by kernel_rfl) ?_ hx ?_ hO ?_
 ·intro s1 H o hO h
  repeat' (cbv;first|apply C4 hE h<;>intro _ h|apply I8 hE|refine B0 hE h (ih _ _) .z fun _ h=>?_|refine D9 hE eBi2 h fun _ h=>?_|(cases h;exact⟨_,rfl,.e4 .z,rfl,hO⟩)|(cases h;exact⟨_,_,rfl,⟨rfl,rfl,hO⟩,.e rfl .z,rfl⟩))
 ·exact .e4 .z
 clear hx;rintro e l H ⟨rfl,rfl,hO⟩;cbv;cases h;exact hK hO .z
theorem c175 (N:Nat):∀n aB r,Aw N n aB=some r→B9 prog 175 [(Y9 aB)] (vi r):=by
 intro n
 induction n with
 |zero=>intro aB r h;cases h
 |succ n ih=>
 intro aB r h
 unfold Aw at h
 refine O0 cf0 func175 call175 ntmps175 ?_;intro E H0 K hE hK hO;cbv;obtain⟨s2,hx,h⟩:=bind_some h;refine H9 cf0 hE O7 (fun s1=>[(1,.v (.eref (BT aB) 0)),fi 3 s1.1,fi 4 s1.2]) (fun s1 H1=>C5 Eq H0 [] H1) (fun x e l H1=>e= .exit 0∧l=[fi 3 x]∧C5 Eq H0 [] H1) (by kernel_rfl) ?_ hx ?_ hO ?_
 ·intro s1 H o hO h;cbv;apply I8 hE;cbv;apply C4 hE h<;>intro _ h
  ·cbv;refine D9 hE eBi2 h fun x3 h=>?_;cbv;refine B0 hE h (ih x3) .z fun r4 h=>?_;cbv;cases h;exact⟨_,rfl,.e rfl (.e2 .z),rfl,hO⟩
  cbv;cases h;exact⟨_,_,rfl,⟨rfl,rfl,hO⟩,.e rfl .z,rfl⟩
 ·exact .e rfl (.e2 .z)
 clear hx;rintro e l H ⟨rfl,rfl,hO⟩;cbv;cases h;exact hK hO .z
theorem c134 (N aB r)(h:Hq N aB=some r):B9 prog 134 [(Y9 aB)] (.bool r):=by
 refine O0 cf0 func134 call134 ntmps134 ?_;intro E H0 K hE hK hO
 repeat' (cbv;first|apply C4 hE h<;>intro _ h|refine B0 hE h (c174 _ _ _ _) .z fun _ h=>?_|refine B0 hE h (c175 _ _ _) .z fun _ h=>?_|(cases h;exact hK hO .z))
end Go.Ab
