/- . -/
import Derived.Test.YtjhobbohibnioaaGreatDoorG11
set_option linter.all false
open Go.Ab.Ar (ar lst nt_eq)
namespace Go.Ab
open Go.RowKit Go.Proofs Go.Proofs.Tryz R0
variable [Ar][R0]
set_option maxRecDepth 100000
def cf335:Cf:=⟨[4],[],[],[],[],[]⟩
def c335 (N aC aW r)(h:EC N aC aW=some r):C2 prog 335 [(BO aC),vi aW] (.tup [(H5 r.1),vi r.2]):=by
 refine Q9 cf335 func335 call335 ntmps335 ?_;intro E H0 K hE hK hO
 repeat' (cbv;first|apply C7 hE h<;>intro _ h|apply K9 hE|refine F6 hE eBp4 h fun _ h=>?_|apply C6 hE hO 0 rfl|refine D1 hE hO 0 rfl rfl fun H hO=>?_|refine F2 hE hO fun _ H hO=>?_|(cases h;exact hK hO .z))
def c376 (N aM r)(h:CA N aM=some r):C2 prog 376 [vi aM] (.bool r):=by
 refine Q9 cf0 func376 call376 ntmps376 ?_;intro E H0 K hE hK hO;cbv;cases h;exact hK hO .z
def c390 (N aM aK r)(h:Bm N aM aK=some r):C2 prog 390 [vi aM,(H5 aK)] (.bool r):=by
 refine Q9 cf0 func390 call390 ntmps390 ?_;intro E H0 K hE hK hO;cbv;cases h;exact hK hO .z
def c377 (N aM aK r)(h:Az N aM aK=some r):C2 prog 377 [vi aM,(H5 aK)] (vi r):=by
 refine Q9 cf0 func377 call377 ntmps377 ?_;intro E H0 K hE hK hO
 repeat' (cbv;first|apply C7 hE h<;>intro _ h|refine B3 hE h (c336 _ _) .z fun _ h=>?_|refine B3 hE h (c390 _ _ _) .z fun _ h=>?_|(cases h;exact hK hO .z))
def cf378:Cf:=⟨[3,6],[],[],[],[],[]⟩
def c378 (N:Nat) (cH:D3) (aH:List A9) (cO:V) (cI:D3→A9→Option D3) (cP:∀y1 y2 q,cI y1 y2=some q→AA prog cO [(Q8 y1),(H5 y2)] ((Q8 q))) (r:D3) (h:Q0 N cH aH cI=some r):C2 prog 378 [(Q8 cH),sr eBo9 aH,cO] ((Q8 r)):=by
 refine Q9 cf378 func378 call378 ntmps378 ?_;intro E H0 K hE hK hO;cbv;refine F2 hE hO fun b1 H hO=>?_;cbv;refine F2 hE hO fun b2 H hO=>?_;cbv;apply K9 hE;cbv;obtain⟨s4,hx,h⟩:=bind_some h;refine I7 cf378 hE S3 (fun s3=>[(2,.v (cO)),(3,.v (.ref b1 0)),(6,.v (.ref b2 0)),(9,.v (sr eBo9 aH)),fi 10 (Ar.len aH),fi 11 s3.1]) (fun(s3:Int×D3) H1=>C8 Eq H0 [cb b2 [vi 0,vi 0,vi 0,vi 0,.str (⟨#[]⟩)],cb b1 (Kb s3.2)] H1) (fun x e l H1=>e= .exit 0∧l=[(3,.v (.ref b1 0)),(6,.v (.ref b2 0))]∧C8 Eq H0 [cb b2 [vi 0,vi 0,vi 0,vi 0,.str (⟨#[]⟩)],cb b1 (Kb x)] H1) (by kernel_rfl) ?_ hx ?_ hO ?_
 ·intro s3 H o hO h
  repeat' (cbv;first|apply C7 hE h<;>intro _ h|refine BR hE (g:=fun r6=>(Q8 r6)) h (fun r6 hx=>cP s3.2 x5 r6 hx) .z fun r6 h=>?_|refine F6 hE eBp4 h fun x5 h=>?_|apply C6 hE hO 1 rfl|refine D1 hE hO 1 rfl rfl fun H hO=>?_|(cases h;exact⟨_,rfl,.e2 (.e4 .z),rfl,hO⟩)|(cases h;exact⟨_,_,rfl,⟨rfl,rfl,hO⟩,.e2 .z,rfl⟩))
 ·exact .e2 (.e4 .z)
 clear hx;rintro e l H ⟨rfl,rfl,hO⟩;cbv;apply C6 hE hO 1 rfl;cbv;refine D1 hE hO 0 rfl rfl fun H hO=>?_;cbv;apply C6 hE hO 0 rfl;cbv;cases h;exact hK hO .z
def cf397:Cf:=⟨[0],[],[],[],[],[]⟩
def c397 (N r)(h:HD N=some r):C2 prog 397 [] ((H5 r)):=by
 refine Q9 cf397 func397 call397 ntmps397 ?_;intro E H0 K hE hK hO;cbv;refine F2 hE hO fun b1 H hO=>?_;cbv;refine D1 hE hO 0 rfl rfl fun H hO=>?_;cbv;apply C6 hE hO 0 rfl;cbv;cases h;exact hK hO .z
def cf398:Cf:=⟨[2],[],[],[],[],[]⟩
def c398 (N aZ aO r)(h:HC N aZ aO=some r):C2 prog 398 [.eref (Y3 aZ) 0,.eref (Y3 aO) 0] ((H5 r)):=by
 refine Q9 cf398 func398 call398 ntmps398 ?_;intro E H0 K hE hK hO;cbv;refine F2 hE hO fun b1 H hO=>?_;cbv;refine D1 hE hO 0 rfl rfl fun H hO=>?_;cbv;apply C6 hE hO 0 rfl;cbv;cases h;exact hK hO .z
def cf399:Cf:=⟨[2],[],[],[],[],[]⟩
def c399 (N aZ aO r)(h:HB N aZ aO=some r):C2 prog 399 [.eref (Y3 aZ) 0,.eref (Y3 aO) 0] ((H5 r)):=by
 refine Q9 cf399 func399 call399 ntmps399 ?_;intro E H0 K hE hK hO;cbv;refine F2 hE hO fun b1 H hO=>?_;cbv;refine D1 hE hO 0 rfl rfl fun H hO=>?_;cbv;apply C6 hE hO 0 rfl;cbv;cases h;exact hK hO .z
def cf400:Cf:=⟨[2],[],[],[],[],[]⟩
def c400 (N aZ aO r)(h:HA N aZ aO=some r):C2 prog 400 [.eref (Y3 aZ) 0,.eref (Y3 aO) 0] ((H5 r)):=by
 refine Q9 cf400 func400 call400 ntmps400 ?_;intro E H0 K hE hK hO;cbv;refine F2 hE hO fun b1 H hO=>?_;cbv;refine D1 hE hO 0 rfl rfl fun H hO=>?_;cbv;apply C6 hE hO 0 rfl;cbv;cases h;exact hK hO .z
def cf401:Cf:=⟨[1],[],[],[],[],[]⟩
def c401 (N aZ r)(h:Hz N aZ=some r):C2 prog 401 [.eref (Y3 aZ) 0] ((H5 r)):=by
 refine Q9 cf401 func401 call401 ntmps401 ?_;intro E H0 K hE hK hO;cbv;refine F2 hE hO fun b1 H hO=>?_;cbv;refine D1 hE hO 0 rfl rfl fun H hO=>?_;cbv;apply C6 hE hO 0 rfl;cbv;cases h;exact hK hO .z
def cf402:Cf:=⟨[1],[],[],[],[],[]⟩
def c402 (N aZ r)(h:Hy N aZ=some r):C2 prog 402 [.eref (Y3 aZ) 0] ((H5 r)):=by
 refine Q9 cf402 func402 call402 ntmps402 ?_;intro E H0 K hE hK hO;cbv;refine F2 hE hO fun b1 H hO=>?_;cbv;refine D1 hE hO 0 rfl rfl fun H hO=>?_;cbv;apply C6 hE hO 0 rfl;cbv;cases h;exact hK hO .z
def cf391:Cf:=⟨[6],[],[],[],[],[]⟩
def c391 (N aM aB aF r)(h:CU N aM aB aF=some r):C2 prog 391 [vi aM,(H5 aB),(H5 aF)] ((H5 r)):=by
 refine Q9 cf391 func391 call391 ntmps391 ?_;intro E H0 K hE hK hO
 repeat' (cbv;first|apply C7 hE h<;>intro _ h|refine B3 hE h (c397 _) .z fun _ h=>?_|refine BR hE (g:=fun r3=>(H5 r3)) h (fun r3 hx=>C2.value (F:=[]) (C:=[.eref (Y3 aB) 0,.eref (Y3 aF) 0]) (c398 N aB aF r3 hx)) .z fun r3 h=>?_|refine BR hE (g:=fun r4=>(H5 r4)) h (fun r4 hx=>C2.value (F:=[]) (C:=[.eref (Y3 aB) 0,.eref (Y3 aF) 0]) (c399 N aB aF r4 hx)) .z fun r4 h=>?_|refine BR hE (g:=fun r5=>(H5 r5)) h (fun r5 hx=>C2.value (F:=[]) (C:=[.eref (Y3 aB) 0,.eref (Y3 aF) 0]) (c400 N aB aF r5 hx)) .z fun r5 h=>?_|refine BR hE (g:=fun r6=>(H5 r6)) h (fun r6 hx=>C2.value (F:=[]) (C:=[.eref (Y3 aB) 0]) (c401 N aB r6 hx)) .z fun r6 h=>?_|refine BR hE (g:=fun r7=>(H5 r7)) h (fun r7 hx=>C2.value (F:=[]) (C:=[.eref (Y3 aF) 0]) (c402 N aF r7 hx)) .z fun r7 h=>?_|apply C6 hE hO 0 rfl|refine D1 hE hO 0 rfl rfl fun H hO=>?_|refine F2 hE hO fun _ H hO=>?_|(cases h;exact hK hO .z)|(cases h;done)|refine AW3 hE [0,1,2,3,4,5] (by rfl) ?_)
def cf380:Cf:=⟨[4],[(5,14)],[],[],[],[]⟩
def c380 (N aB aF r)(h:Gm N aB aF=some r):C2 prog 380 [(Q8 aB),(Q8 aF)] ((Q8 r)):=by
 refine Q9 cf380 func380 call380 ntmps380 ?_;intro E H0 K hE hK hO
 repeat' (cbv;first|apply C7 hE h<;>intro _ h|apply C6 hE hO 0 rfl|refine D1 hE hO 0 rfl rfl fun H hO=>?_|refine E9 hE (g:=fun r2=>(H5 r2)) h (c391 _ _ _ _) .z fun r2 h=>?_|refine F2 hE hO fun _ H hO=>?_|(cases h;exact hK hO .z))
def cf381:Cf:=⟨[4],[],[],[],[],[]⟩
def c381 (N aM aK r)(h:DT N aM aK=some r):C2 prog 381 [vi aM,(H5 aK)] ((H5 r)):=by
 refine Q9 cf381 func381 call381 ntmps381 ?_;intro E H0 K hE hK hO
 repeat' (cbv;first|apply C7 hE h<;>intro _ h|apply C6 hE hO 0 rfl|refine D1 hE hO 0 rfl rfl fun H hO=>?_|refine F2 hE hO fun _ H hO=>?_|(cases h;exact hK hO .z))
def cf379:Cf:=⟨[5],[(1,6)],[],[],[],[]⟩
def c379 (N aB aK aU r)(h:X9 N aB aK aU=some r):C2 prog 379 [(Q8 aB),(H5 aK),.eref [vi aU] 0] ((Q8 r)):=by
 refine Q9 cf379 func379 call379 ntmps379 ?_;intro E H0 K hE hK hO
 repeat' (cbv;first|refine B3 hE h (c380 _ _ _) .z fun _ h=>?_|apply C6 hE hO 0 rfl|refine D1 hE hO 0 rfl rfl fun H hO=>?_|refine E9 hE (g:=fun r2=>(H5 r2)) h (c381 _ _ _) .z fun r2 h=>?_|refine F2 hE hO fun _ H hO=>?_|(cases h;exact hK hO .z))
def c392 (N aB r)(h:Ej N aB=some r):C2 prog 392 [(Q8 aB)] (vi r):=by
 refine Q9 cf0 func392 call392 ntmps392 ?_;intro E H0 K hE hK hO
 repeat' (cbv;first|apply C7 hE h<;>intro _ h|refine B3 hE h (c376 _ _) .z fun _ h=>?_|refine B3 hE h (c336 _ _) .z fun _ h=>?_|refine B3 hE h (c390 _ _ _) .z fun _ h=>?_|(cases h;exact hK hO .z))
def cf382:Cf:=⟨[4],[],[],[],[],[]⟩
def c382 (N aB bH r)(h:Gn N aB bH=some r):C2 prog 382 [(Q8 aB),(H5 bH)] (.tup [(H5 r.1),vi r.2]):=by
 refine Q9 cf382 func382 call382 ntmps382 ?_;intro E H0 K hE hK hO
 repeat' (cbv;first|apply C7 hE h<;>intro _ h|refine B3 hE h (c392 _ _) .z fun _ h=>?_|refine B3 hE h (c377 _ _ _) .z fun _ h=>?_|apply C6 hE hO 0 rfl|refine D1 hE hO 0 rfl rfl fun H hO=>?_|refine F2 hE hO fun _ H hO=>?_|(cases h;exact hK hO .z))
def cf357:Cf:=⟨[6],[],[],[],[],[]⟩
def c357 (N aM aH bH r) (h:HM N aM aH bH=some r):C2 prog 357 [vi aM,sr eBo9 aH,(H5 bH)] (.tup [(H5 r.1),vi r.2]):=by
 refine Q9 cf357 func357 call357 ntmps357 ?_;intro E H0 K hE hK hO
 repeat' (cbv;first|apply C7 hE h<;>intro _ h|apply K9 hE|refine B3 hE h (c376 _ _) .z fun _ h=>?_|apply C6 hE hO 0 rfl|refine D1 hE hO 0 rfl rfl fun H hO=>?_|refine F2 hE hO fun b1 H hO=>?_|(cases h;exact hK hO .z))
 cbv;obtain⟨s4,hx,h⟩:=bind_some h;refine I7 cf357 hE S3 (fun s3=>[(1,.v (sr eBo9 aH)),(3,.v (.eref [vi aM] 0)),(5,.v (.eref (Y3 bH) 0)),(6,.v (.ref b1 0)),(22,.v (sr eBo9 aH)),fi 23 (Ar.len aH),fi 24 s3]) (fun s3 H1=>C8 Eq H0 [cb b1 [vi 0,vi 0,.str (⟨#[]⟩)]] H1) (fun x e l H1=>match(generalizing:=false) x with| .inl y=>e= .exit 1∧l=[(1,.v (sr eBo9 aH)),(3,.v (.eref [vi aM] 0)),(5,.v (.eref (Y3 bH) 0)),(6,.v (.ref b1 0))]∧C8 Eq H0 [cb b1 [vi 0,vi 0,.str (⟨#[]⟩)]] H1| .inr y=>e= .ret∧l=[(6,.v (.ref b1 0)),fi 7 y]∧C8 Eq H0 [cb b1 [vi 0,vi 0,.str (⟨#[]⟩)]] H1) (by kernel_rfl) ?_ hx ?_ hO ?_
 ·intro s3 H o hO h
  repeat' (cbv;first|apply C7 hE h<;>intro _ h|refine B3 hE h (c377 _ _ _) .z fun _ h=>?_|refine F6 hE eBp4 h fun _ h=>?_|refine D1 hE hO 0 rfl rfl fun H hO=>?_|(cases h;exact⟨_,_,rfl,⟨rfl,rfl,hO⟩,.e2 .z,rfl⟩)|(cases h;exact⟨_,rfl,.e rfl (.e2 (.e4 .z)),rfl,hO⟩)|(cases h;exact⟨_,_,rfl,⟨rfl,rfl,hO⟩,.e4 .z,rfl⟩))
 ·exact .e rfl (.e2 (.e4 .z))
 clear hx
 rcases s4 with y7|y10
 ·rintro e l H ⟨rfl,rfl,hO⟩;cbv;refine B3 hE (g:=fun r8=>(Q8 r8)) h (fun r8 hx=>c378 N (⟨aM,0,(⟨0,0,⟨#[]⟩⟩:A9)⟩:D3) aH (.func (.func 379) [] [.eref [vi aM] 0]) (fun y1 y2=>X9 N y1 y2 aM) (fun y1 y2 r hx=>C2.value (F:=[]) (C:=[.eref [vi aM] 0]) (c379 N y1 y2 aM r hx)) r8 hx) .z fun r8 h=>?_;cbv;refine B3 hE h (c382 N r8 bH) .z fun r9 h=>?_;cbv;refine D1 hE hO 0 rfl rfl fun H hO=>?_;cbv;apply C6 hE hO 0 rfl;cbv;cases h;exact hK hO .z
 rintro e l H ⟨rfl,rfl,hO⟩;cbv;apply C6 hE hO 0 rfl;cbv;cases h;exact hK hO .z
def cf334:Cf:=⟨[4],[],[],[],[],[]⟩
def c334 (N aG aC r) (h:Bu N aG aC=some r):C2 prog 334 [(DH aG),(Bk aC)] (.tup [(H5 r.1),vi r.2]):=by
 refine Q9 cf334 func334 call334 ntmps334 ?_;intro E H0 K hE hK hO;cbv;refine F2 hE hO fun b1 H hO=>?_;cbv;refine B3 hE h (c333 N aG aC.Var) .z fun r2 h=>?_;cbv;apply K9 hE;cbv;replace hO:=hO.tl0 (t:=.nil) rfl;obtain⟨s5,hx,h⟩:=bind_some h;refine Bd cf334 hE S3 (γ:=K1) (fun s3 g=>[(3,.v (.eref (EF aC) 0)),(4,.v (.ref b1 0)),(6,.v (.sl (lst eBo9 s3.1) g)),(14,.v (sr eBo2 r2)),fi 15 (Ar.len r2),fi 16 s3.2]) (fun s3 g H1=>FI g∧C8 Eq H0 [.tl g,cb b1 [vi 0,vi 0,.str (⟨#[]⟩)]] H1) (fun x e l H1=>match(generalizing:=false) x with| .inl y=>∃u1:K1,FI u1∧e= .exit 0∧l=[(3,.v (.eref (EF aC) 0)),(4,.v (.ref b1 0)),(6,.v (.sl (lst eBo9 y) u1))]∧C8 Eq H0 [.tl u1,cb b1 [vi 0,vi 0,.str (⟨#[]⟩)]] H1| .inr y=>∃u1:K1,FI u1∧e= .ret∧l=[(4,.v (.ref b1 0)),fi 5 y]∧C8 Eq H0 [.tl u1,cb b1 [vi 0,vi 0,.str (⟨#[]⟩)]] H1) (by kernel_rfl) ?_ .nil hx ?_ ?_ ?_
 ·rintro s3 t4 H o ⟨ht4,hO⟩ h
  repeat' (cbv;first|apply C7 hE h<;>intro _ h|refine B3 hE h (c335 _ _ _) .z fun r7 h=>?_|refine F6 hE eBo8 h fun _ h=>?_|refine D1 hE hO 1 rfl rfl fun H hO=>?_|(cases h;exact⟨_,_,rfl,⟨t4,ht4,rfl,rfl,hO⟩,.e2 .z,rfl⟩)|(cases h;exact⟨_,t8,rfl,.e2 (.e4 .z),rfl,ht8,hO⟩)|(cases h;exact⟨_,_,rfl,⟨t4,ht4,rfl,rfl,hO⟩,.e rfl (.e2 .z),rfl⟩)|refine JX (f:=eBo9) hE Vu (by decide) hO 0 rfl ht4 (l:=s3.1) (m:=[r7.1]) .z (.lstc (.eq (eBp4 r7.1) .z) (.lst0)) h fun _ t8 H hO ht8 h=>?_)
 ·exact .e2 (.v (.slt _ (.lst0)) (.e rfl (.e rfl (.e rfl (.z)))))
 ·exact⟨trivial,hO⟩
 clear hx
 rcases s5 with y10|y13
 ·rintro e l H ⟨t11,ht11,rfl,rfl,hO⟩;cbv;refine B3 hE h (c357 N aC.Kind y10 aC.Value) (.r (.cons (.ro _ _) .z)) fun r12 h=>?_;cbv;refine D1 hE hO 1 rfl rfl fun H hO=>?_;cbv;apply C6 hE hO 1 rfl;cbv;cases h;exact hK hO .z
 rintro e l H ⟨t14,ht14,rfl,rfl,hO⟩;cbv;apply C6 hE hO 1 rfl;cbv;cases h;exact hK hO .z
def cf308:Cf:=⟨[4,7],[],[(38,12),(63,19)],[],[],[]⟩
def c308 (N aG aC r) (h:BS N aG aC=some r):C2 prog 308 [(DH aG),(Bk aC)] (.tup [(H5 r.1),vi r.2]):=by
 refine Q9 cf308 func308 call308 ntmps308 ?_;intro E H0 K hE hK hO;cbv;refine F2 hE hO fun b1 H hO=>?_
 repeat' (cbv;first|apply C7 hE h<;>intro _ h|apply K9 hE|refine B3 hE h (c333 _ _ _) .z fun _ h=>?_|refine B3 hE h (c334 _ _ _) .z fun _ h=>?_|apply C6 hE hO 0 rfl|refine D1 hE hO 0 rfl rfl fun H hO=>?_|refine F2 hE hO fun b4 H hO=>?_|(cases h;exact hK hO .z))
 cbv;obtain⟨s5,hx,h⟩:=bind_some h;refine R8 cf308 hE S3 (fun e l H1=>match(generalizing:=false) s5 with| .inl y=>e= .normal∧l=[(3,.v (.eref (EF aC) 0)),(4,.v (.ref b1 0)),(7,.v (.ref b4 0))]∧C8 Eq H0 [cb b4 (SK y),cb b1 [vi 0,vi 0,.str (⟨#[]⟩)]] H1| .inr y=>e= .ret∧l=[(4,.v (.ref b1 0)),fi 5 10]∧C8 Eq H0 [cb b4 (SK aG.event),cb b1 [vi 0,vi 0,.str (⟨#[]⟩)]] H1) (by kernel_rfl) ?_ ?_
 ·clear h;have h:=hx
  repeat' (cbv;first|apply C7 hE h<;>intro _ h|apply K9 hE|refine F6 hE eBo8 h fun _ h=>?_|refine D1 hE hO 1 rfl rfl fun H hO=>?_|refine D1 hE hO 0 rfl rfl fun H hO=>?_|(cases h;exact⟨_,⟨rfl,rfl,hO⟩,.e2 .z,rfl⟩)|(cases h;exact⟨_,⟨rfl,rfl,hO⟩,.e rfl (.e2 .z),rfl⟩))
 clear hx
 rcases s5 with y7|y11
 ·rintro e l H ⟨rfl,rfl,hO⟩
  repeat' (cbv;first|apply C7 hE h<;>intro _ h|refine B3 hE h (c335 _ _ _) .z fun r8 h=>?_|apply C6 hE hO 0 rfl|apply C6 hE hO 1 rfl|refine D1 hE hO 1 rfl rfl fun H hO=>?_|(cases h;exact hK hO .z))
  cbv;obtain⟨s9,hx,h⟩:=bind_some h;refine R8 cf308 hE S3 (fun e l H1=>e= .normal∧l=[(4,.v (.ref b1 0)),(8,.v (.eref (Y3 r8.1) 0)),fi 9 s9]∧C8 Eq H0 [cb b4 (SK y7),cb b1 [vi 0,vi 0,.str (⟨#[]⟩)]] H1) (by kernel_rfl) ?_ ?_
  ·clear h;have h:=hx
   repeat' (cbv;first|apply C7 hE h<;>intro _ h|refine B3 hE h (c336 _ _) .z fun _ h=>?_|(cases h;exact⟨_,⟨rfl,rfl,hO⟩,.e rfl (.e2 .z),rfl⟩))
  clear hx;rintro e l H ⟨rfl,rfl,hO⟩
  repeat' (cbv;first|apply C7 hE h<;>intro _ h|apply C6 hE hO 1 rfl|refine D1 hE hO 1 rfl rfl fun H hO=>?_|(cases h;exact hK hO .z))
 rintro e l H ⟨rfl,rfl,hO⟩;cbv;apply C6 hE hO 1 rfl;cbv;cases h;exact hK hO .z
def cf309:Cf:=⟨[],[],[(15,8),(22,13)],[],[],[]⟩
def c309 (N aL bB r) (h:Gw N aL bB=some r):C2 prog 309 [vi aL,sr (V.int .i64) bB] (vi r):=by
 refine Q9 cf309 func309 call309 ntmps309 ?_;intro E H0 K hE hK hO;cbv;apply K9 hE;cbv;obtain⟨s2,hx,h⟩:=bind_some h;refine I7 cf309 hE S3 (fun s1=>[fi 0 aL,(1,.v (sr (V.int .i64) bB)),(8,.v (sr (V.int .i64) bB)),fi 9 (Ar.len bB),fi 10 s1]) (fun s1 H1=>C8 Eq H0 [] H1) (fun x e l H1=>match(generalizing:=false) x with| .inl y=>e= .exit 0∧l=[]∧C8 Eq H0 [] H1| .inr y=>e= .ret∧l=[fi 4 9]∧C8 Eq H0 [] H1) (by kernel_rfl) ?_ hx ?_ hO ?_
 ·intro s1 H o hO h;cbv;apply C7 hE h<;>intro _ h
  ·cbv;refine F6 hE (fun _=>rfl) h fun x3 h=>?_;cbv;obtain⟨s4,hx,h⟩:=bind_some h;refine R8 cf309 hE S3 (fun e l H1=>e= .normal∧l=[fi 0 aL,(1,.v (sr (V.int .i64) bB)),fi 6 x3,(7,.b true),(8,.v (sr (V.int .i64) bB)),fi 9 (Ar.len bB),fi 10 s1,fi 14 aL,(15,.v (.bool s4))]∧C8 Eq H0 [] H1) (by kernel_rfl) ?_ ?_
   ·clear h;have h:=hx
    repeat' (cbv;first|apply C7 hE h<;>intro _ h|(cases h;exact⟨_,⟨rfl,rfl,hO⟩,.e rfl (.e2 (.b rfl (.e rfl (.e rfl (.e rfl (.e rfl (.e rfl (.z)))))))),rfl⟩))
   clear hx;rintro e l H ⟨rfl,rfl,hO⟩
   repeat' (cbv;first|apply C7 hE h<;>intro _ h|(cases h;exact⟨_,_,rfl,⟨rfl,rfl,hO⟩,.e rfl .z,rfl⟩)|(cases h;exact⟨_,rfl,.e rfl (.e4 .z),rfl,hO⟩))
   cbv;obtain⟨s5,hx,h⟩:=bind_some h;refine R8 cf309 hE S3 (fun e l H1=>e= .normal∧l=[fi 0 aL,(1,.v (sr (V.int .i64) bB)),fi 6 x3,(7,.b true),(8,.v (sr (V.int .i64) bB)),fi 9 (Ar.len bB),fi 10 s1,fi 14 aL,(22,.v (.bool s5))]∧C8 Eq H0 [] H1) (by kernel_rfl) ?_ ?_
   ·clear h;have h:=hx
    repeat' (cbv;first|apply C7 hE h<;>intro _ h|(cases h;exact⟨_,⟨rfl,rfl,hO⟩,.e rfl (.e2 (.b rfl (.e rfl (.e rfl (.e rfl (.e rfl (.e rfl (.z)))))))),rfl⟩))
   clear hx;rintro e l H ⟨rfl,rfl,hO⟩
   repeat' (cbv;first|apply C7 hE h<;>intro _ h|refine F6 hE (fun _=>rfl) h fun _ h=>?_|(cases h;exact⟨_,_,rfl,⟨rfl,rfl,hO⟩,.e rfl .z,rfl⟩)|(cases h;exact⟨_,rfl,.e rfl (.e4 .z),rfl,hO⟩))
  cbv;cases h;exact⟨_,_,rfl,⟨rfl,rfl,hO⟩,.z,rfl⟩
 ·exact .e rfl (.e4 .z)
 clear hx
 rcases s2 with y7|y8
 ·rintro e l H ⟨rfl,rfl,hO⟩;cbv;cases h;exact hK hO .z
 rintro e l H ⟨rfl,rfl,hO⟩;cbv;cases h;exact hK hO .z
def cf268:Cf:=⟨[4,3000042,8000042,9000042],[(11,8),(17,6),(18,16)],[],[],[],[]⟩
def c268 (N:Nat):∀n aG aC r,R4 N n aG aC=some r→C2 prog 268 [(DH aG),(Bk aC)] (.tup [(H5 r.1),vi r.2]):=by
 intro n
 induction n with
 |zero=>intro aG aC r h;cases h
 |succ n ih=>
 intro aG aC r h
 unfold R4 at h
 refine Q9 cf268 func268 call268 ntmps268 ?_;intro E H0 K hE hK hO
 repeat' (cbv;first|apply C7 hE h<;>intro _ h|apply K9 hE|refine B3 hE h (c308 _ _ _) .z fun _ h=>?_|apply C6 hE hO 0 rfl|refine D1 hE hO 0 rfl rfl fun H hO=>?_|refine F2 hE hO fun b1 H hO=>?_|(cases h;exact hK hO .z))
 cbv;replace hO:=hO.tl0 (t:=.nil) rfl;replace hO:=hO.tl0 (t:=.nil) rfl;obtain⟨s6,hx,h⟩:=bind_some h;refine Bd cf268 hE S3 (γ:=K1×K1) (fun s3 g=>[(2,.v (.eref (Gj aG) 0)),(3,.v (.eref (EF aC) 0)),(4,.v (.ref b1 0)),(6,.v (.sl (lst eBo9 s3.1) g.2)),(7,.v (.sl (lst (V.int .i64) s3.2.1) g.1)),(23,.v (sr eBp5 aC.cQ)),fi 24 (Ar.len aC.cQ),fi 25 s3.2.2]) (fun s3 g H1=>FI g.1∧FI g.2∧C8 Eq H0 [.tl g.1,.tl g.2,cb b1 [vi 0,vi 0,.str (⟨#[]⟩)]] H1) (fun x e l H1=>match(generalizing:=false) x with| .inl y=>∃u1:K1,FI u1∧∃u2:K1,FI u2∧e= .exit 0∧l=[(2,.v (.eref (Gj aG) 0)),(3,.v (.eref (EF aC) 0)),(4,.v (.ref b1 0)),(6,.v (.sl (lst eBo9 y.1) u2)),(7,.v (.sl (lst (V.int .i64) y.2) u1))]∧C8 Eq H0 [.tl u1,.tl u2,cb b1 [vi 0,vi 0,.str (⟨#[]⟩)]] H1| .inr y=>∃u1:K1,FI u1∧∃u2:K1,FI u2∧e= .ret∧l=[(4,.v (.ref b1 0)),fi 5 y]∧C8 Eq H0 [.tl u1,.tl u2,cb b1 [vi 0,vi 0,.str (⟨#[]⟩)]] H1) (by kernel_rfl) ?_ (⟨.nil,.nil⟩) hx ?_ ?_ ?_
 ·rintro s3 ⟨t4,t5⟩ H o ⟨ht4,ht5,hO⟩ h
  repeat' (cbv;first|apply C7 hE h<;>intro _ h|refine B3 hE h (ih _ _) .z fun r8 h=>?_|refine F6 hE eBp7 h fun _ h=>?_|refine D1 hE hO 2 rfl rfl fun H hO=>?_|(cases h;exact⟨_,_,rfl,⟨t4,ht4,t5,ht5,rfl,rfl,hO⟩,.e2 .z,rfl⟩)|(cases h;exact⟨_,⟨t11,t10⟩,rfl,.e4 (.e4 .z),rfl,ht11,ht10,hO⟩)|(cases h;exact⟨_,_,rfl,⟨t4,ht4,t5,ht5,rfl,rfl,hO⟩,.e rfl (.e4 .z),rfl⟩)|refine Aq2 hE hO 1 rfl ht5 fun H hO=>?_|apply TN hE trivial|refine Ai8 (f:=eBo9) hE Vu (by decide) (l:=s3.1) (m:=[r8.1]) .z (.lstc (.eq (eBp4 r8.1) .z) (.lst0)) h fun _ h=>?_|refine Aq6 hE hO 1 rfl fun t10 H hO ht10=>?_|refine JX (f:=(V.int .i64)) hE (fun _=>rfl) (by decide) hO 0 rfl ht4 (l:=s3.2.1) (m:=[r8.1.Kind]) .z (.lstc .z (.lst0)) h fun _ t11 H hO ht11 h=>?_)
 ·exact .e rfl (.e2 (.v (.slt _ (.lst0)) (.v (.slt _ (.lst0)) (.e rfl (.e rfl (.e rfl (.z)))))))
 ·exact⟨trivial,trivial,hO⟩
 clear hx
 rcases s6 with y13|y43
 ·rintro e l H ⟨t14,ht14,t15,ht15,rfl,rfl,hO⟩;cbv;refine B3 hE h (c309 N aC.Op y13.2) (.r (.cons (.ro _ _) .z)) fun r16 h=>?_;cbv;apply C7 hE h<;>intro _ h
  ·cbv;refine D1 hE hO 2 rfl rfl fun H hO=>?_;cbv;apply C6 hE hO 2 rfl;cbv;cases h;exact hK hO .z
  cbv;apply C7 hE h<;>intro _ h
  ·repeat' (cbv;first|refine B3 hE h (c229 _ _) .z fun _ h=>?_|refine F6 hE eBp4 h fun _ h=>?_|apply C6 hE hO 2 rfl|refine D1 hE hO 2 rfl rfl fun H hO=>?_|(cases h;exact hK hO .z))
  cbv;refine Bg3 hE (kt:=3) (et:=338) (z:=.nilf) (by kernel_rfl) (by kernel_rfl) (by kernel_rfl) rfl ?_;cbv;apply C7 hE h<;>intro _ h
  ·cbv;refine F6 hE eBp4 h fun x20 h=>?_;cbv;apply K9 hE;cbv;refine F6 hE eBp4 h fun x21 h=>?_;cbv;refine BR hE (g:=fun r22=>(H5 r22)) h (fun r22 hx=>C2.value (F:=[]) (C:=[.eref [.func (.func 300) [] []] 0]) (c301 N x20.Num x21.Num (.func (.func 300) [] []) (fun y1=>Am N y1) (fun y1 r hx=>C2.value (F:=[]) (C:=[]) (c300 N y1 r hx)) r22 hx)) .z fun r22 h=>?_;cbv;refine D1 hE hO 2 rfl rfl fun H hO=>?_;cbv;apply C6 hE hO 2 rfl;cbv;cases h;exact hK hO .z
  cbv;apply C7 hE h<;>intro _ h
  ·cbv;refine F6 hE eBp4 h fun x23 h=>?_;cbv;apply K9 hE;cbv;refine F6 hE eBp4 h fun x24 h=>?_;cbv;refine BR hE (g:=fun r25=>(H5 r25)) h (fun r25 hx=>C2.value (F:=[]) (C:=[.eref [.func (.func 300) [] []] 0]) (c302 N x23.Num x24.Num (.func (.func 300) [] []) (fun y1=>Am N y1) (fun y1 r hx=>C2.value (F:=[]) (C:=[]) (c300 N y1 r hx)) r25 hx)) .z fun r25 h=>?_;cbv;refine D1 hE hO 2 rfl rfl fun H hO=>?_;cbv;apply C6 hE hO 2 rfl;cbv;cases h;exact hK hO .z
  repeat' (cbv;first|apply C7 hE h<;>intro _ h|apply K9 hE|refine B3 hE h (c303 _ _ _) .z fun _ h=>?_|refine B3 hE h (c304 _ _ _) .z fun _ h=>?_|refine B3 hE h (c305 _ _ _) .z fun _ h=>?_|refine B3 hE h (c306 _ _ _) .z fun _ h=>?_|refine B3 hE h (c307 _ _ _) .z fun _ h=>?_|refine F6 hE eBp4 h fun _ h=>?_|apply C6 hE hO 2 rfl|refine D1 hE hO 2 rfl rfl fun H hO=>?_|(cases h;exact hK hO .z)|(cases h;done))
 rintro e l H ⟨t44,ht44,t45,ht45,rfl,rfl,hO⟩;cbv;apply C6 hE hO 2 rfl;cbv;cases h;exact hK hO .z
def cf228:Cf:=⟨[8],[(3000004,0),(3000004,1),(3000004,2),(3000004,4),(3000004,5),(3000004,7),(3000004,8),(3000004,10)],[],[2000004],[],[]⟩
def c228 (N aC aX bD bE r)(h:NB N aC aX bD bE=some r):C2 prog 228 [(Bk aC),(Yo aX),vi bD,(BO bE)] (.tup [(H5 r.1),vi r.2]):=by
 refine Q9 cf228 func228 call228 ntmps228 ?_;intro E H0 K hE hK hO
 repeat' (cbv;first|apply C7 hE h<;>intro _ h|refine B3 hE h (c260 _ _) .z fun _ h=>?_|apply C6 hE hO 0 rfl|refine D1 hE hO 0 rfl rfl fun H hO=>?_|refine F2 hE hO fun b1 H hO=>?_|(cases h;exact hK hO .z))
 cbv;obtain⟨s3,hx,h⟩:=bind_some h;refine R8 cf228 hE S3 (fun e l H1=>e= .normal∧l=[(8,.v (.ref b1 0)),fi 9 s3.1]∧C8 Eq H0 [cb b1 (Y3 s3.2)] H1) (by kernel_rfl) ?_ ?_
 ·clear h;have h:=hx;cbv;obtain⟨r244,er244,h⟩:=bind_some h;refine AK9 hE (c267 N () rfl) .z hO fun m125 H hO=>?_;cbv;refine AW2 hE (g:=fun r244=>.tup [(H5 r244.1),vi r244.2]) (Bj er244) (c268 N N (⟨aX,bD,bE,()⟩:T3) aC) (fun _=>.tup2 (.agg rfl) (.int _ _)) (.agg (.le .z (.le .z (.le .z (.le .z (.le .z (.le .z (.le .z (.fm (hO.get 0 rfl) (.nil))))))))) (.le .z (.nil))) fun r244 hh=>?_;obtain rfl:=M1 hh;cbv;refine D1 hE hO 1 rfl rfl fun H hO=>?_;cbv;cases h;exact⟨_,⟨rfl,rfl,hO.tail⟩,.e2 .z,rfl⟩
 clear hx;rintro e l H ⟨rfl,rfl,hO⟩;cbv;apply C6 hE hO 0 rfl;cbv;cases h;exact hK hO .z
def cf177:Cf:=⟨[],[(2,5)],[],[],[],[]⟩
def c177 (N aC aX bD bE r)(h:Iv N aC aX bD bE=some r):C2 prog 177 [(Bk aC),(Yo aX),vi bD,(BO bE)] (.bool r):=by
 refine Q9 cf177 func177 call177 ntmps177 ?_;intro E H0 K hE hK hO
 repeat' (cbv;first|apply C7 hE h<;>intro _ h|refine B3 hE h (c228 _ _ _ _ _) .z fun _ h=>?_|refine E9 hE (g:=fun r2=>(H5 r2)) h (c229 _ _) .z fun r2 h=>?_|(cases h;exact hK hO .z))
def cf178:Cf:=⟨[6,7,3000041,8000041,9000041],[(6,20)],[],[],[(44,1000007)],[]⟩
def c178 (N aG aH cD r) (h:Y6 N aG aH cD=some r):C2 prog 178 [.eref (D8 aG) 0,sr eBo1 aH,vi cD] ((Yo r)):=by
 refine Q9 cf178 func178 call178 ntmps178 ?_;intro E H0 K hE hK hO;cbv;refine F2 hE hO fun b1 H hO=>?_;cbv;refine Bl3 hE (f:=eBo2) (by decide) hO 1 h fun l3 w2 H hw2 h hO=>?_;have hO:C8 Eq H0 (.blk w2.q.id (.arr 1 (w2.q.pre++lst (Hu eBo2) w2.row++w2.q.rest))::cb b1 [.sl [] .nil]::(NK w2++[])) H:=hO;cbv;refine F2 hE hO fun b4 H hO=>?_;cbv;refine D1 hE hO 0 rfl rfl fun H hO=>?_;cbv;apply K9 hE;cbv;obtain⟨s7,hx,h⟩:=bind_some h;refine Bd cf178 hE S3 (γ:=Rw A8) (fun s5 g=>[(0,.v (.eref (D8 aG) 0)),fi 2 cD,(6,.v (.ref b1 0)),(7,.v (.ref b4 0)),(12,.v (sr eBo1 aH)),fi 13 (Ar.len aH),fi 14 s5.1]) (fun s5 g H1=>Gp g s5.2∧C8 Eq H0 (cb b4 [.own g.q.id g.q.lo g.q.n]:: .blk g.q.id (.arr 1 (g.q.pre++lst (Hu eBo2) g.row++g.q.rest))::cb b1 [.sl [] .nil]::(NK g++[])) H1) (fun x e l H1=>∃u1:Rw A8,Gp u1 x∧e= .exit 0∧l=[(6,.v (.ref b1 0)),(7,.v (.ref b4 0))]∧C8 Eq H0 (cb b4 [.own u1.q.id u1.q.lo u1.q.n]:: .blk u1.q.id (.arr 1 (u1.q.pre++lst (Hu eBo2) u1.row++u1.q.rest))::cb b1 [.sl [] .nil]::(NK u1++[])) H1) (by kernel_rfl) ?_ w2 hx ?_ ?_ ?_
 ·rintro s5 w6 H o ⟨hw6,hO⟩ h
  repeat' (cbv;first|apply C7 hE h<;>intro _ h|refine F6 hE eBp0 h fun x8 h=>?_|(cases h;exact⟨_,w6,rfl,.e rfl (.e2 (.e4 .z)),rfl,hw6,hO⟩)|(cases h;exact⟨_,_,rfl,⟨w6,hw6,rfl,rfl,hO⟩,.e2 .z,rfl⟩))
  cbv;obtain⟨x9,hxx9,h⟩:=bind_some h
  obtain⟨hjx9,t10,hrx9,hax9⟩:=hw6.at hxx9
  obtain⟨Rx9,hO,hbx9⟩:=hO.rtake (w:=w6) (T1:=[]) (T2:=[]) 3 rfl hrx9;refine Aq2 hE hO 0 rfl hax9 fun H hO=>?_
  repeat' (cbv;apply C6 hE hO 1 rfl)
  cbv;refine AO1 hE (f:=Hu eBo2) hO hw6.ok 2 rfl hjx9 ?_;cbv;refine AY7 hE (f:=Hu eBo2) (fun _=>rfl) hO hw6.ok 2 rfl hjx9.1 hrx9 ?_;cbv;refine F6 hE eBo8 h fun x14 h=>?_;cbv;apply TN hE trivial;cbv;refine Ai8 (f:=eBo2) hE Nj (by decide) (l:=x9) (m:=[x14]) .z (.lstc (.eq (eBo8 x14) .z) (.lst0)) h fun l15 h=>?_;cbv;refine Aq6 hE hO 0 rfl fun t11 H hO htt11=>?_;cbv;refine AO1 hE (f:=Hu eBo2) hO hw6.ok 2 rfl hjx9 ?_;cbv;refine AO0 hE (f:=Hu eBo2) (tz:=1) (x':=(l15,t11)) (fun _=>⟨.sl (lst eBo2 l15) t11,.refl _,rfl,rfl,rfl⟩) (by decide) hO hw6.ok 2 rfl hjx9 fun H hO=>?_;cbv;obtain⟨l13,hu,h⟩:=bind_some h;obtain⟨w12,hqw12,hw12,hO⟩:∃w0:Rw A8,w0.q=w6.q∧Gp w0 l13∧C8 Eq H0 (cb b4 [.own w0.q.id w0.q.lo w0.q.n]:: .blk w0.q.id (.arr 1 (w0.q.pre++lst (Hu eBo2) w0.row++w0.q.rest))::cb b1 [.sl [] .nil]::(NK w0++[])) H:=⟨(⟨w6.q,w6.row.set (x8.v).toNat (l15,t11)⟩:Rw A8),rfl,by rw[AF1 hu];exact hw6.put _ htt11,(by have e:=hbx9 (l15,t11) H [cb b4 [.own w6.q.id w6.q.lo w6.q.n],.blk w6.q.id (.arr 1 (w6.q.pre++lst (Hu eBo2) (w6.row.set (x8.v).toNat (l15,t11))++w6.q.rest)),cb b1 [.sl [] .nil]] hO;simp only[Y8,I5,G4]at e ⊢;exact e)⟩
  try rw[←hqw12]
  cases h;exact⟨_,w12,rfl,.e rfl (.e2 (.e4 .z)),rfl,hw12,hO⟩
 ·exact .e rfl (.e2 (.e4 .z))
 ·exact⟨hw2,hO⟩
 clear hx;rintro e l H ⟨w16,hw16,rfl,rfl,hO⟩;cbv;refine AJ9 hE (e:=eBp9) eBr2 hO hw16 0 1 rfl rfl rfl (by decide) fun H hO=>?_;have hO:C8 Eq H0 [cb b4 [sr eBp9 s7],cb b1 [.sl [] .nil]] H:=hO.rdrop (w:=w16) (T1:=[]) (T2:=[]) 2 rfl;cbv;apply C6 hE hO 0 rfl;cbv;refine D1 hE hO 1 rfl rfl fun H hO=>?_;cbv;apply C6 hE hO 1 rfl;cbv;cases h;exact hK hO .z
def cf139:Cf:=⟨[],[(2,15)],[],[],[],[]⟩
def c139 (N aG aA aI bL r)(h:P1 N aG aA aI bL=some r):C2 prog 139 [.eref (D8 aG) 0,(D5 aA),sr eBo1 aI,vi bL] (.bool r):=by
 refine Q9 cf139 func139 call139 ntmps139 ?_;intro E H0 K hE hK hO
 repeat' (cbv;first|apply C7 hE h<;>intro _ h|refine B3 hE h (c177 _ _ _ _ _) .z fun _ h=>?_|refine F6 hE eBo8 h fun _ h=>?_|refine E9 hE (g:=fun r2=>(Yo r2)) h (c178 _ _ _ _) .z fun r2 h=>?_|(cases h;exact hK hO .z))
def cf230:Cf:=⟨[22],[],[],[],[],[]⟩
def c230 (N aD aP r) (h:AF N aD aP=some r):US prog 230 [.sl [] .nil,vi aP] 2 (lst eBo1 r):=by
 obtain⟨h1,h2,hr⟩:=AL7 (f:=eBo1) h;rw[hr];clear hr h;intro H0
 have hneg:∀b,Ar.cmp .lss aP 0=b→b=false:=fun b h=>by rw[Ar.cmp_eq]at h;subst h;simp[Pi];omega
 have hsub:ar .sub .i64 aP (ar .sub .i64 0 0)=aP:=by rw[Ar.ar_eq,Ar.ar_eq];simp only[arI];rw[show(0:Int)-0=0 from rfl,wrap_small 0 (by omega) (by omega),Int.sub_zero];exact wrap_small _ (by omega) (by omega)
 have hgt:∀b,Ar.cmp .gtr (ar .sub .i64 aP (ar .sub .i64 0 0)) 0=b→(b=false→aP=0):=fun b h=>by rw[hsub,Ar.cmp_eq]at h;subst h;simp[Pi];omega
 have hbn:aP.toNat*16≤140737488355328:=by have:=AW6 (a:=aP.toNat) (b:=0) (by_:=16) (by omega) (by decide);simpa using this
 have hl0:(0:Int)=(([]:List V).length:Nat):=rfl;refine KD (T:=TT) cf230 S3 func230 (by rfl) (by kernel_rfl) call230 ntmps230 (by rfl) (by rfl) ?_;intro E K hE hK hN;cbv;refine Bf6 hE (fun hc=>absurd (hneg _ hc) (by decide)) (fun hc=>?_);cbv;refine r_ln hE hl0 ?_;cbv;refine Bf6 hE (fun hc2=>?_) (fun hc2=>?_)
 ·cbv;refine AU4 hE ?_;cbv;refine AI1 hE aP hsub (.inl rfl) h1 hbn fun t m row j ht hm hrow=>?_;obtain⟨RL,hRL,hR0⟩:∃RL:Int,RL=(row.length:Nat)∧0≤RL:=⟨_,rfl,by omega⟩;cbv;refine r_ln hE hl0 ?_;cbv;refine PK hE (F5 _ _ _) hRL 0 0 rfl rfl (Ch _) (Ch _) hR0 fun l' n' q1 q2=>?_;cbv
  have e1:0=l':=by omega
  have e2:0=n':=by omega
  subst e1 e2;exact hK ⟨t,0,0,[],row⟩ [] _ ⟨rfl,rfl⟩ ((C8.start M2 rfl).push ht rfl)
 cbv;exact hN rfl [] H0 (.start M2 rfl)
def c180 {cmp:A6→A6→Option Int}{g:Nat}{C:List V}(eg:∀vals w,(callFunc g vals).run prog w= .ok (.enter g vals) w)(hc:∀y1 y2 r,cmp y1 y2=some r→C2 prog g ([(R9 y1),(R9 y2)]++C) (vi r)){l r:List A6}(h:Mp cmp l=some r):
 XV prog 180 (.func (.func g) [] C) 2 (lst eBo1 l) (lst eBo1 r):=RY Go.Proofs.Tryz.sorts180 call180 (va:=fun x=>(Bx x)) eBp0 (fun _=>rfl) eg hc h
def c181 (N aB aF r)(h:ED N aB aF=some r):C2 prog 181 [(R9 aB),(R9 aF)] (vi r):=by
 refine Q9 cf0 func181 call181 ntmps181 ?_;intro E H0 K hE hK hO;cbv;cases h;exact hK hO .z
def cfo179:Cf:=⟨[6000002],[],[],[],[],[]⟩
def o179 (N bM r) (h:Z7 N bM=some r):US prog 179 [sr eBq1 bM] 2 (lst eBo1 r):=by
 intro H0;refine KD (T:=TT) (F:=H0) cfo179 S3 func179 (by rfl) (by kernel_rfl) call179 ntmps179 (by rfl) (by rfl) ?_;intro E K hE hK hN;have hO:C8 Eq H0 [] H0:=.start M2 rfl;cbv;refine Ai5 hE (f:=eBo1) hO fun q1 H hq1 hO=>?_;cbv;apply K9 hE;cbv;obtain⟨s3,hx,h⟩:=bind_some h;refine I7 cfo179 hE S3 (fun s2=>[(0,.v (sr eBq1 bM)),fi 3 s2.1,(9,.v (sr eBq1 bM)),fi 10 (Ar.len bM),fi 11 s2.2]) (fun s2 H1=>C8 Eq H0 [ob q1 2 eBo1 ([]:List A6)] H1) (fun x e l H1=>e= .exit 0∧l=[(0,.v (sr eBq1 bM)),fi 3 x]∧C8 Eq H0 [ob q1 2 eBo1 ([]:List A6)] H1) (by kernel_rfl) ?_ hx ?_ hO ?_
 ·intro s2 H o hO h
  repeat' (cbv;first|apply C7 hE h<;>intro _ h|apply K9 hE|refine F6 hE eBq4 h fun _ h=>?_|(cases h;done)|(cases h;exact⟨_,rfl,.e rfl (.e4 .z),rfl,hO⟩)|(cases h;exact⟨_,_,rfl,⟨rfl,rfl,hO⟩,.e2 .z,rfl⟩))
 ·exact .e rfl (.e4 .z)
 clear hx;rintro e l H ⟨rfl,rfl,hO⟩;cbv;refine Nv hE (f:=eBo1) h (c230 N [] s3) (.r (.r .nil)) hO fun l5 q6 H hq6 hO h=>?_;cbv;apply K9 hE;cbv;obtain⟨s9,hx,h⟩:=bind_some h;refine Bd cfo179 hE S3 (γ:=OG) (fun s7 g=>[(6,.v (.own g.id g.lo g.n)),(25,.v (sr eBq1 bM)),fi 26 (Ar.len bM),fi 27 s7.1]) (fun s7 g H1=>Cd g (Ar.len s7.2)∧C8 Eq H0 [ob g 2 eBo1 s7.2,ob q1 2 eBo1 ([]:List A6)] H1) (fun x e l H1=>∃u1:OG,Cd u1 (Ar.len x)∧e= .exit 2∧l=[(6,.v (.own u1.id u1.lo u1.n))]∧C8 Eq H0 [ob u1 2 eBo1 x,ob q1 2 eBo1 ([]:List A6)] H1) (by kernel_rfl) ?_ q6 hx ?_ ?_ ?_
 ·rintro s7 q8 H o ⟨hq8,hO⟩ h;cbv;apply C7 hE h<;>intro _ h
  ·cbv;refine F6 hE eBq4 h fun x10 h=>?_;cbv;refine Xi (f:=eBo1) hE Y1 (by decide) hO hq8 0 rfl (m:=x10) (Ow (f:=eBo1) hE Y1 .z) h fun l12 q11 H hq11 hO h=>?_;cbv;cases h;exact⟨_,q11,rfl,.e4 .z,rfl,hq11,hO⟩
  cbv;cases h;exact⟨_,_,rfl,⟨q8,hq8,rfl,rfl,hO⟩,.e rfl .z,rfl⟩
 ·exact .e4 .z
 ·exact⟨hq6,hO⟩
 clear hx;rintro e l H ⟨q13,hq13,rfl,rfl,hO⟩;cbv;cases h;exact hK q13 _ _ (Fi hE hq13) (hO)
def c140 (N aB aF r)(h:H9 N aB aF=some r):C2 prog 140 [sr eBo1 aB,sr eBo1 aF] (sr eBo1 r):=by
 refine FE (T:=TT) cf0 S3 func140 (by rfl) (by kernel_rfl) call140 ntmps140 (by rfl) (by rfl) ?_;intro E H0 K hE hK hF;have hO:C8 Eq H0 [] H0:=.start M2 rfl;cbv;refine Nv hE (f:=eBo1) h (o179 N ([aB,aF])) (.cons (.lit _ (H8 ((eBq4 aB).symm) (H8 ((eBq4 aF).symm) (F3)))) .z) hO fun l1 q2 H hq2 hO h=>?_;cbv;refine Zz hE hO hq2 0 rfl h (fun l3 hx=>c180 (g:=181) (C:=[]) call181 (fun y1 y2 r hx=>c181 N y1 y2 r hx) hx) fun l3 H hq2 hO h=>?_;cbv;cases h;exact hF q2 _ _ 0 _ _ hO rfl (Fi hE hq2) .z
def c232 (N:Nat) (aD:List A6) (bC:V) (aT:A6→Option Bool) (bQ:∀y1 q,aT y1=some q→AA prog bC [(R9 y1)] (.bool q)) (r:Int) (h:AE N aD aT=some r):C2 prog 232 [sr eBo1 aD,bC] (vi r):=by
 refine Q9 cf0 func232 call232 ntmps232 ?_;intro E H0 K hE hK hO;cbv;apply K9 hE;cbv;obtain⟨s2,hx,h⟩:=bind_some h;refine I7 cf0 hE S3 (fun s1=>[(0,.v (sr eBo1 aD)),(1,.v (bC)),fi 7 (Ar.len aD),fi 8 s1]) (fun s1 H1=>C8 Eq H0 [] H1) (fun x e l H1=>match(generalizing:=false) x with| .inl y=>e= .exit 0∧l=[]∧C8 Eq H0 [] H1| .inr y=>e= .ret∧l=[fi 4 y]∧C8 Eq H0 [] H1) (by kernel_rfl) ?_ hx ?_ hO ?_
 ·intro s1 H o hO h
  repeat' (cbv;first|apply C7 hE h<;>intro _ h|refine BR hE (g:=fun r4=>.bool r4) h (fun r4 hx=>bQ x3 r4 hx) .z fun r4 h=>?_|refine F6 hE eBp0 h fun x3 h=>?_|(cases h;exact⟨_,_,rfl,⟨rfl,rfl,hO⟩,.e rfl .z,rfl⟩)|(cases h;exact⟨_,rfl,.e4 .z,rfl,hO⟩)|(cases h;exact⟨_,_,rfl,⟨rfl,rfl,hO⟩,.z,rfl⟩))
 ·exact .e4 .z
 clear hx
 rcases s2 with y5|y6
 ·rintro e l H ⟨rfl,rfl,hO⟩;cbv;cases h;exact hK hO .z
 rintro e l H ⟨rfl,rfl,hO⟩;cbv;cases h;exact hK hO .z
def c182 (N:Nat)(aD:List A6)(bC:V)(aT:A6→Option Bool)(bQ:∀y1 q,aT y1=some q→AA prog bC [(R9 y1)] (.bool q))(r:Bool)(h:K8 N aD aT=some r):C2 prog 182 [sr eBo1 aD,bC] (.bool r):=by
 refine Q9 cf0 func182 call182 ntmps182 ?_;intro E H0 K hE hK hO;cbv;refine B3 hE h (c232 N aD bC aT bQ) .z fun r1 h=>?_;cbv;cases h;exact hK hO .z
def c185 (N aS aO r)(h:S8 N aS aO=some r):C2 prog 185 [(R9 aS),.eref [vi aO] 0] (.bool r):=by
 refine Q9 cf0 func185 call185 ntmps185 ?_;intro E H0 K hE hK hO;cbv;cases h;exact hK hO .z
def cf143:Cf:=⟨[12],[(1,12),(5,19),(7,11)],[],[],[(73,12)],[]⟩
def c143 (N aG aA aI aD r) (h:V4 N aG aA aI aD=some r):C2 prog 143 [.eref (D8 aG) 0,(D5 aA),sr eBo1 aI,sr eBo1 aD] (.bool r):=by
 refine Q9 cf143 func143 call143 ntmps143 ?_;intro E H0 K hE hK hO;cbv;refine F6 hE eBp0 h fun x1 h=>?_
 repeat' (cbv;first|apply C7 hE h<;>intro _ h|apply K9 hE|refine B3 hE h (c140 _ _ _) .z fun r3 h=>?_|refine B3 hE h (c177 _ _ _ _ _) (.r (.r (.r (.cons (.agg (.r (.r (.r (.r (.cons (.lit _ (F3)) .z)))))) .z)))) fun _ h=>?_|refine F6 hE eBp0 h fun x2 h=>?_|refine F6 hE eBo8 h fun _ h=>?_|refine D1 hE hO 0 rfl rfl fun H hO=>?_|refine E9 hE (g:=fun r6=>(Yo r6)) h (c178 _ _ _ _) .z fun r6 h=>?_|refine F2 hE hO fun b8 H hO=>?_|(cases h;exact hK hO .z))
 cbv;obtain⟨s11,hx,h⟩:=bind_some h;refine Bd cf143 hE S3 (γ:=Nat) (fun s9 g=>[(0,.v (.eref (D8 aG) 0)),(3,.v (sr eBo1 aD)),(5,.v (.eref (E0 aA) 0)),fi 10 x2.at_,(11,.v (sr eBo1 r3)),(12,.v (.ref g 0))]) (fun s9 g H1=>True∧C8 Eq H0 [cb g [vi s9]] H1) (fun x e l H1=>match(generalizing:=false) x with| .inl y=>e= .exit 1∧l=[]∧C8 Eq H0 [] H1| .inr y=>e= .ret∧l=[(8,.b false)]∧C8 Eq H0 [] H1) (by kernel_rfl) ?_ b8 hx ?_ ?_ ?_
 ·rintro s9 b10 H o ⟨hb10,hO⟩ h;cbv;apply C6 hE hO 0 rfl;cbv;apply C7 hE h<;>intro _ h
  ·cbv;refine Bl5 hE hO 0 rfl fun H hO=>?_;cbv;refine B3 hE (g:=fun r12=>.bool r12) h (fun r12 hx=>c182 N aD (.func (.func 185) [] [.eref [vi s9] 0]) (fun y1=>S8 N y1 s9) (fun y1 r hx=>C2.value (F:=[]) (C:=[.eref [vi s9] 0]) (c185 N y1 s9 r hx)) r12 hx) .z fun r12 h=>?_;cbv;apply C7 hE h<;>intro _ h
   ·repeat' (cbv;first|apply C7 hE h<;>intro _ h|refine B3 hE h (c139 _ _ _ _ _) .z fun _ h=>?_|apply C6 hE hO 0 rfl|refine D1 hE hO 0 rfl rfl fun H hO=>?_|refine F2 hE hO fun b14 H hO=>?_|(cases h;exact⟨_,_,rfl,⟨rfl,rfl,hO⟩,.b rfl (.z),rfl⟩)|(cases h;exact⟨_,b14,rfl,.e2 (.e4 .z),rfl,trivial,hO⟩))
   repeat' (cbv;first|apply C6 hE hO 0 rfl|refine D1 hE hO 0 rfl rfl fun H hO=>?_|refine F2 hE hO fun b15 H hO=>?_|(cases h;exact⟨_,b15,rfl,.e2 (.e4 .z),rfl,trivial,hO⟩))
  cbv;cases h;exact⟨_,_,rfl,⟨rfl,rfl,hO.tail⟩,.z,rfl⟩
 ·exact .e2 (.e4 .z)
 ·exact⟨trivial,hO⟩
 clear hx
 rcases s11 with y16|y17
 ·rintro e l H ⟨rfl,rfl,hO⟩;cbv;cases h;exact hK hO .z
 rintro e l H ⟨rfl,rfl,hO⟩;cbv;cases h;exact hK hO .z
def c184 (N bN aO r)(h:An N bN aO=some r):C2 prog 184 [(R9 bN),.eref (Bx aO) 0] (.bool r):=by
 refine Q9 cf0 func184 call184 ntmps184 ?_;intro E H0 K hE hK hO;cbv;cases h;exact hK hO .z
def c183 (N aS aO r)(h:Bg N aS aO=some r):C2 prog 183 [(R9 aS),.eref [sr eBo1 aO] 0] (.bool r):=by
 refine Q9 cf0 func183 call183 ntmps183 ?_;intro E H0 K hE hK hO;cbv;refine B3 hE (g:=fun r1=>.bool r1) h (fun r1 hx=>c182 N aO (.func (.func 184) [] [.eref (Bx aS) 0]) (fun y1=>An N y1 aS) (fun y1 r hx=>C2.value (F:=[]) (C:=[.eref (Bx aS) 0]) (c184 N y1 aS r hx)) r1 hx) .z fun r1 h=>?_;cbv;cases h;exact hK hO .z
def c141 (N aB aF r)(h:AC N aB aF=some r):C2 prog 141 [sr eBo1 aB,sr eBo1 aF] (.bool r):=by
 refine Q9 cf0 func141 call141 ntmps141 ?_;intro E H0 K hE hK hO;cbv;refine B3 hE (g:=fun r1=>.bool r1) h (fun r1 hx=>c182 N aB (.func (.func 183) [] [.eref [sr eBo1 aF] 0]) (fun y1=>Bg N y1 aF) (fun y1 r hx=>C2.value (F:=[]) (C:=[.eref [sr eBo1 aF] 0]) (c183 N y1 aF r hx)) r1 hx) .z fun r1 h=>?_;cbv;cases h;exact hK hO .z
def c142 (N aD r)(h:S0 N aD=some r):C2 prog 142 [sr eBo1 aD] (vi r):=by
 refine Q9 cf0 func142 call142 ntmps142 ?_;intro E H0 K hE hK hO;cbv;apply K9 hE;cbv;refine F6 hE eBp0 h fun x1 h=>?_;cbv;cases h;exact hK hO .z
def cf218:Cf:=⟨[7],[],[],[],[],[]⟩
def c218 (N aD r)(h:P2 N aD=some r):US prog 218 [sr eBo3 aD] 5 (lst eBo3 r):=by
 intro H0;refine KD (T:=TT) cf218 S3 func218 (by rfl) (by kernel_rfl) call218 ntmps218 (by rfl) (by rfl) ?_;intro E K hE hK hN;have hO:C8 Eq H0 [] H0:=.start M2 rfl;cbv;refine AK3 hE rfl (fun hx=>?_) ?_
 ·cbv;exact hN (Ad0 hx h) [] H0 hO
 cbv;refine Aq4 (f:=eBo3) hE V0 (by decide) hO (.inr rfl) (m:=aD) (Ow (f:=eBo3) hE V0 .z) h fun l q H hq hO h=>?_;cbv;cases h;exact hK q _ _ (Fi hE hq) hO
def K57 (N n:Nat):Prop:=∀(aG:E6) (aA:A2) (aI:List A6) (aN:Int) (r:(List A7)),E8 N n aG aA aI aN=some r→Nb prog 57 [.eref (D8 aG) 0,(D5 aA),sr eBo1 aI,vi aN] (fun v=>UR prog v (r.map fun(x:A7)=>[(C3 x)]))
def cf123:Cf:=⟨[],[],[(9,4)],[],[],[]⟩
def cf121:Cf:=⟨[6,1000005],[],[],[],[],[]⟩
def Bj4 (N n:Nat):Prop:=∀(aO:E6) (aU:A2) (bX:List A6) (bY:Int) (r:(List A7)),V3 N n aO aU bX bY=some r→Qv prog 121 (fun yv=>[yv,.eref [.eref (D8 aO) 0] 0,.eref (E0 aU) 0,.eref [sr eBo1 bX] 0,.eref [vi bY] 0]) (List.map (fun(x:A7)=>[(C3 x)]) r) rbN
def cf122:Cf:=⟨[10,12,13,1000009],[(6,22),(23,7)],[(88,21)],[],[],[]⟩
def Bj3 (N n:Nat):Prop:=∀(aG:E6) (aA:A2) (aI:List A6) (aN:Int) (r:(List A7)),L7 N n aG aA aI aN=some r→Qv prog 122 (fun yv=>[.eref (D8 aG) 0,(D5 aA),sr eBo1 aI,vi aN,yv]) (List.map (fun(x:A7)=>[(C3 x)]) r) rbB
def cf158:Cf:=⟨[14,1000013],[(3,6),(10,12),(16,17)],[(39,4),(54,10),(75,15)],[],[],[]⟩
def Bb2 (N n:Nat):Prop:=∀(aG:E6) (aA:A2) (aI:List A6) (aN:Int) (bF:List A4) (aD:List A6) (r:(List A7)),E5 N n aG aA aI aN bF aD=some r→Qv prog 158 (fun yv=>[.eref (D8 aG) 0,(D5 aA),sr eBo1 aI,vi aN,sr eBo3 bF,sr eBo1 aD,yv]) (List.map (fun(x:A7)=>[(C3 x)]) r) rbB
def k57 (N n:Nat)(ih121:Bj4 N n):K57 N (n+1):=by
 intro aG aA aI aN r h
 unfold E8 at h
 refine Og cf0 S3 func57 (by rfl) (by kernel_rfl) call57 ntmps57 (by rfl) (by rfl) ?_;intro E H0 K hE hK;have hO:C8 Eq H0 [] H0:=.start M2 rfl;cbv;exact hK _ _ _ hO (Ob call121 (ih121 aG aA aI aN r h))
def k121 (N n:Nat) (ih122:Bj3 N n):Bj4 N (n+1):=by
 intro aO aU bX bY r h
 unfold V3 at h
 obtain⟨⟨w0,u0⟩,h1,hr⟩:=bind_some h;clear h;have hr:=M1 hr;subst hr;have h:=h1;clear h1;refine Ed cf121 S3 func121 (by rfl) (by kernel_rfl) call121 ntmps121 (by rfl) (fun _=>rfl) ?_;intro yv I D hI hD hy tl F E H K hE hO hK hKD
 have hO:C8 (I (List.map (fun(x:A7)=>[(C3 x)]) (w0++[])++tl)) F [] H:=by rw[G4];exact hO
 cbv;refine TN hE hy.1 ?_;cbv;refine F2 hE hO fun b1 H hO=>?_;cbv;refine D1 hE hO 0 rfl rfl fun H hO=>?_;cbv;obtain⟨l2,hl,h⟩:=bind_some h;obtain⟨w3,w4,o9,hx,h1,he⟩:=Z1 h;clear h;have h:=h1;clear h1
 rw[he,E7]at hO
 clear he
 rcases o9 with s10|u
 ·refine AW0 (Ls:=fun s7=>[cb b1 [vi s7]]) (w':=w4++[]) (cv:=.func (.func 123) [] [.ref b1 0,.eref [.eref (D8 aO) 0] 0,.eref [yv] 0]) hE hI hD ⟨rfl,rfl⟩ (ih122 aO aU bX bY l2 hl) hx hO (.refl _) ?_ ?_ ?_
  ·rintro s7 y8 w5 w6 F H o h hO;clear hx hl;refine M8.value (F:=[]) (C:=[.ref b1 0,.eref [.eref (D8 aO) 0] 0,.eref [yv] 0]) (Aa6 cf123 S3 func123 (by rfl) (by kernel_rfl) call123 ntmps123 (by rfl) (by rfl) ?_);intro E K hE hK hKD;cbv;refine C6 hE hO 0 rfl ?_;cbv;refine D1 hE hO 0 rfl rfl fun H hO=>?_;cbv;refine C6 hE hO 0 rfl ?_;cbv;obtain⟨w12,w13,s11,hx,h1,he⟩:=Z1 h;clear h;have h:=h1;clear h1
   rw[he,E7]at hO
   clear he;refine R8 cf123 hE S3 (fun e l H1=>(e= .normal∧l=[(2,.v (.eref [.eref (D8 aO) 0] 0)),(3,.v (.eref [yv] 0)),(4,.v (.eref (W4 y8) 0))]∧C8 (I (List.map (fun(x:A7)=>[(C3 x)]) (w13++w6)++tl)) F [cb b1 [vi (ar .add .i64 s7 1)]] H1)∨(False)) (by kernel_rfl) ?_ ?_
   ·clear h;have h:=hx;clear hx;cbv;refine C7 hE h (fun _ h=>?_) fun _ h=>?_
    ·cbv;refine C6 hE hO 0 rfl ?_;cbv;cases h
    cbv;obtain⟨hw,rfl⟩:=J5 h
    rw[←hw]at hO
    exact⟨_,.inl ⟨rfl,rfl,hO⟩,.e rfl (.e2 .z),rfl⟩
   clear hx;rintro e l H hX
   rcases hX with hX|hX
   ·obtain⟨rfl,rfl,hO⟩:=hX;cbv;refine C7 hE h (fun _ h=>?_) fun _ h=>?_
    ·cbv;obtain⟨w14,h1,he⟩:=CB h;clear h;have h:=h1;clear h1
     rw[he,E7]at hO
     clear he;have hO:C8 (I ([(C3 y8)]::(List.map (fun(x:A7)=>[(C3 x)]) (w14++w6)++tl))) F [cb b1 [vi (ar .add .i64 s7 1)]] _:=hO;refine Nu hE hI hD hy hO (.refl _) (fun H hO=>?_) (fun H hO=>?_)
     ·cbv;obtain⟨hw,rfl⟩:=J5 h
      rw[←hw]at hO
      exact hK _ _ ⟨_,rfl,hO⟩ rfl
     clear h;cbv;exact hKD _ _ _ hO rfl
    cbv;cases h
   exact hX.elim
  ·rintro v H hb hO;cases hb;clear hl hx;cbv;obtain⟨hw,_⟩:=J5 h
   rw[←hw]at hO
   exact hK _ _ _ hO trivial
  rintro v L H hb hO;cases hb;clear h hl hx;cbv;exact hKD _ _ _ hO trivial
 cases h
set_option maxHeartbeats 2000000 in
def k122 (N n:Nat) (ih57:K57 N n) (ih158:Bb2 N n):Bj3 N (n+1):=by
 intro aG aA aI aN r h
 unfold L7 at h
 obtain⟨⟨w0,u0⟩,h1,hr⟩:=bind_some h;clear h;have hr:=M1 hr;subst hr;have h:=h1;clear h1;refine Ed cf122 S3 func122 (by rfl) (by kernel_rfl) call122 ntmps122 (by rfl) (fun _=>rfl) ?_;intro yv I D hI hD hy tl F E H K hE hO hK hKD
 have hO:C8 (I (List.map (fun(x:A7)=>[(C3 x)]) (w0++[])++tl)) F [] H:=by rw[G4];exact hO
 cbv;refine TN hE hy.1 ?_;cbv;refine F2 hE hO fun b1 H hO=>?_;cbv;refine C7 hE h (fun hc h=>?_) (fun hc h=>?_)
 ·cbv;obtain⟨w3,w4,s7,hx,h1,he⟩:=Z1 h;clear h;have h:=h1;clear h1
  rw[he,E7]at hO
  clear he;refine Aq7 cf122 hE S3 (γ:=Unit) (fun s2 g=>[(5,.v (.eref [.eref (D8 aG) 0] 0)),(6,.v (.eref (E0 aA) 0)),(7,.v (.eref [sr eBo1 aI] 0)),(9,.v (.eref [yv] 0)),(10,.v (.ref b1 0)),fi 11 s2]) (fun s2 g w H1=>C8 (I (List.map (fun(x:A7)=>[(C3 x)]) w++tl)) F [cb b1 [.bool false]] H1) (fun x e l w H1=>e= .exit 1∧l=[(10,.v (.ref b1 0))]∧C8 (I (List.map (fun(x:A7)=>[(C3 x)]) w++tl)) F [cb b1 [.bool false]] H1) (fun e l H1=>(e= .ret∧l=[(10,.v (.ref b1 0))]∧C8 D F [cb b1 [.bool false]] H1)) (by kernel_rfl) ?_ (w':=w4++[]) () hx ?_ ?_ ?_ ?_
  ·rintro s2 _ w5 w6 H o hO h;clear hx
   skip
   cbv;refine K9 hE ?_;cbv;refine C7 hE h (fun hc h=>?_) (fun hc h=>?_)
   ·cbv;refine E9 hE (g:=fun r8=>.bool r8) h (c139 N aG aA aI s2) (.refl _) fun r8 h=>?_;cbv;refine C7 hE h (fun hc h=>?_) (fun hc h=>?_)
    ·cbv;refine F6 hE eBo8 h fun x9 h=>?_;cbv;refine E9 hE (g:=fun r10=>(DU r10)) h (c116 N x9) (.refl _) fun r10 h=>?_;cbv;obtain⟨w11,h1,he⟩:=CB h;clear h;have h:=h1;clear h1
     rw[he,E7]at hO
     clear he;have hO:C8 (I ([.agg [vi r10.Time,vi r10.Source,vi r10.Seq,vi 0,sr eBo3 ([]),sr eBo1 ([(⟨aA.Var,s2⟩:A6)])]]::(List.map (fun(x:A7)=>[(C3 x)]) (w11++w6)++tl))) F [cb b1 [.bool false]] _:=hO;refine Nu hE hI hD hy hO (.cons (.agg (.cons (.refl _) (.cons (.refl _) (.cons (.refl _) (.cons (.refl _) (.cons (.lit _ (F3)) (.cons (.lit _ (H8 ((eBp0 (⟨aA.Var,s2⟩:A6)).symm) (F3))) (.refl _)))))))) (.refl _)) (fun H hO=>?_) (fun H hO=>?_)
     ·cbv;refine TP hE (nt_eq _) ?_;cbv;obtain⟨hw,rfl⟩:=J5 h
      rw[←hw]at hO
      exact⟨_,(),rfl,.e2 (.e4 .z),rfl,hO⟩
     clear h;cbv;refine TO hE (nt_eq _) ?_;cbv;refine D1 hE hO 0 rfl rfl fun H hO=>?_;cbv;exact .inr ⟨_,⟨rfl,rfl,hO⟩,.e rfl .z,rfl⟩
    cbv;obtain⟨hw,rfl⟩:=J5 h
    rw[←hw]at hO
    exact⟨_,(),rfl,.e2 (.e4 .z),rfl,hO⟩
   cbv;obtain⟨hw,rfl⟩:=J5 h
   rw[←hw]at hO
   exact .inl ⟨_,_,rfl,⟨rfl,rfl,hO⟩,.e rfl .z,rfl⟩
  ·exact .e2 (.e4 .z)
  ·exact hO
  ·rintro e l H ⟨rfl,rfl,hO⟩;clear hx;cbv;refine D1 hE hO 0 rfl rfl fun H hO=>?_;cbv;refine C6 hE hO 0 rfl ?_;cbv;obtain⟨hw,_⟩:=J5 h
   rw[←hw]at hO
   exact hK _ _ _ hO rfl
  rintro e l H hX;obtain⟨rfl,rfl,hO⟩:=hX;clear h;cbv;refine C6 hE hO 0 rfl ?_;cbv;exact hKD _ _ _ hO rfl
 cbv;refine C7 hE h (fun hc h=>?_) (fun hc h=>?_)
 ·cbv;refine K9 hE ?_;cbv;obtain⟨w14,w15,s18,hx,h1,he⟩:=Z1 h;clear h;have h:=h1;clear h1
  rw[he,E7]at hO
  clear he;refine AK6 cf122 hE S3 (γ:=Unit) (fun s13 g=>[fi 3 aN,(5,.v (.eref [.eref (D8 aG) 0] 0)),(6,.v (.eref (E0 aA) 0)),(7,.v (.eref [sr eBo1 aI] 0)),(9,.v (.eref [yv] 0)),(10,.v (.ref b1 0)),(58,.v (sr eBo6 aA.cQ)),fi 59 (Ar.len aA.cQ),fi 60 s13]) (fun s13 g ds12 w H1=>C8 (I (List.map (fun(x:A7)=>[(C3 x)]) w++tl)) F (cb b1 [.bool false]::Vi ds12) H1) (fun x e l ds12 w H1=>e= .exit 3∧l=[(5,.v (.eref [.eref (D8 aG) 0] 0)),(10,.v (.ref b1 0))]∧C8 (I (List.map (fun(x:A7)=>[(C3 x)]) w++tl)) F (cb b1 [.bool false]::Vi ds12) H1) (fun e l ds12 H1=>(e= .ret∧l=[(10,.v (.ref b1 0))]∧C8 D F (cb b1 [.bool false]::Vi ds12) H1)) (by kernel_rfl) ?_ (w':=w15++[]) () hx rfl ?_ ?_ ?_ ?_
  ·rintro s13 _ ds12 w16 w17 H o hO h;clear hx
   skip
   cbv;refine C7 hE h (fun hc h=>?_) (fun hc h=>?_)
   ·cbv;refine F6 hE eBo7 h fun x19 h=>?_;cbv;refine F2 hE hO fun b20 H hO=>?_;cbv;refine F2 hE hO fun b21 H hO=>?_;cbv;refine D1 hE hO 1 rfl rfl fun H hO=>?_;cbv;refine D1 hE hO 0 rfl rfl fun H hO=>?_;cbv;refine C6 hE hO 0 rfl ?_;cbv;refine JC hE h (ih57 aG x19 aI aN) (.refl _) fun r22 v23 hv23 h=>?_;cbv;obtain⟨w27,w28,o31,hx,h1,he⟩:=Z1 h;clear h;have h:=h1;clear h1
    rw[he,E7]at hO
    clear he;refine TK cf122 hE S3 (ι:=Unit) (σ:=Unit) (R:=Unit) (enc:=fun(x:A7)=>[(C3 x)]) (fun _ w F1 H=>C8 (I (List.map (fun(x:A7)=>[(C3 x)]) w++tl)) F1 (cb b21 (E0 x19)::cb b20 [vi s13]::cb b1 [.bool false]::Vi ds12) H) (fun _ e w F1 H=>False) (fun e F1 H=>e= .ret∧C8 D F1 (cb b21 (E0 x19)::cb b20 [vi s13]::cb b1 [.bool false]::Vi ds12) H) (fun i _ y24=>[(9,.v (.eref [yv] 0)),(10,.v (.ref b1 0)),(12,.v (.ref b20 0)),(14,.v (.eref (W4 y24) 0))]) (fun i _ y24 w F1 H=>C8 (I (List.map (fun(x:A7)=>[(C3 x)]) w++tl)) F1 (cb b21 (E0 x19)::cb b20 [vi s13]::cb b1 [.bool false]::Vi ds12) H) (fun _ _=>C8.stable (hI _) _) (fun _ _ _=>⟨fun h=>h.elim,fun _ _ h=>h.elim⟩) (fun _=>G5.con (C8.stable hD _)) (fun _ _ _ _=>C8.stable (hI _) _) hv23 hx (w':=w28++w17) hO (by decide) (fun _=>rfl) (by kernel_rfl) (by kernel_rfl) ?_ ?_ ?_ ?_ ?_
    ·rintro E i26 y24 _ w F25 H hE hO;clear hx h;cbv;exact⟨(),hO,.e4 .z,rfl⟩
    ·rintro E i26 _ y24 _ w29 w30 F25 H o hE hF h hO;clear hx;cbv;refine C6 hE hO 1 rfl ?_;cbv;obtain⟨w32,h1,he⟩:=CB h;clear h;have h:=h1;clear h1
     rw[he,E7]at hO
     clear he;have hO:C8 (I ([.agg [vi 0,vi 0,vi 0,vi s13,sr eBo3 ([y24.d]),sr eBo1 y24.s]]::(List.map (fun(x:A7)=>[(C3 x)]) (w32++w30)++tl))) F25 (cb b21 (E0 x19)::cb b20 [vi s13]::cb b1 [.bool false]::Vi ds12) _:=hO;refine Nu hE hI hD hy hO (.cons (.agg (.cons (.refl _) (.cons (.refl _) (.cons (.refl _) (.cons (.refl _) (.cons (.lit _ (H8 ((eBo4 y24.d).symm) (F3))) (.refl _))))))) (.refl _)) (fun H hO=>?_) (fun H hO=>?_)
     ·cbv;refine TP hE (nt_eq _) ?_;cbv;obtain⟨hw,rfl⟩:=J5 h
      rw[←hw]at hO
      exact⟨_,rfl,hO⟩
     clear h;cbv;refine TO hE (nt_eq _) ?_;cbv;refine D1 hE hO 2 rfl rfl fun H hO=>?_;cbv
     first|exact .inr ⟨rfl,rfl,hO⟩|exact .inr (hO)
    ·rintro d33 _ H rfl hd hO;have hO:C8 (I (List.map (fun(x:A7)=>[(C3 x)]) (w28++w17)++tl)) F (cb b21 (E0 x19)::cb b20 [vi s13]::cb b1 [.bool false]::Vi (d33::ds12)) H:=C8.dbs1 (A:=[_,_,_]) (ds:=ds12) (C8.dblk hd hO);clear hd hx;cbv;obtain⟨hw,rfl⟩:=J5 h
     rw[←hw]at hO
     exact⟨_,(),_,rfl,.e rfl (.e4 (.e4 .z)),rfl,hO.tail.tail⟩
    ·rintro _ _ _ _ _ _ h;exact h.elim
    rintro d33 e H hd ⟨rfl,hO⟩;have hO:C8 D F (cb b21 (E0 x19)::cb b20 [vi s13]::cb b1 [.bool false]::Vi (d33::ds12)) H:=C8.dbs1 (A:=[_,_,_]) (ds:=ds12) (C8.dblk hd hO);clear hd hx h;cbv;exact .inr ⟨_,_,⟨rfl,rfl,hO.tail.tail⟩,.e rfl .z,rfl⟩
   cbv;obtain⟨hw,rfl⟩:=J5 h
   rw[←hw]at hO
   exact .inl ⟨_,_,_,rfl,⟨rfl,rfl,hO⟩,.e2 .z,rfl⟩
  ·exact .e rfl (.e4 (.e4 .z))
  ·exact hO
  ·rintro e l ds12 H ⟨rfl,rfl,hO⟩;clear hx;cbv;refine D1 hE hO 0 rfl rfl fun H hO=>?_;cbv
   rcases ds12 with _|⟨d0,ds12⟩
   ·cbv;have hO:C8 _ _ [cb b1 [.bool (Ar.cmp .eql aG.count 0)]] H:=hO;refine C6 hE hO 0 rfl ?_;cbv;obtain⟨hc,h⟩:=Io h;obtain⟨hw,_⟩:=J5 h
    rw[←hw]at hO
    exact hK _ _ _ hO (I4 V.bool hc)
   cbv;refine AK7 (A:=[_]) (ds:=d0::ds12) hE hO fun H hO=>?_;cbv;refine C6 hE hO 0 rfl ?_;cbv;obtain⟨hc,h⟩:=Io h;obtain⟨hw,_⟩:=J5 h
   rw[←hw]at hO
   exact hK _ _ _ hO (I4 V.bool hc)
  rintro e l ds12 H hX;obtain⟨rfl,rfl,hO⟩:=hX;clear h;cbv
  rcases ds12 with _|⟨d0,ds12⟩
  ·cbv;have hO:C8 _ _ [cb b1 [.bool false]] H:=hO;refine C6 hE hO 0 rfl ?_;cbv;exact hKD _ _ _ hO rfl
  cbv;refine AK7 (A:=[_]) (ds:=d0::ds12) hE hO fun H hO=>?_;cbv;refine C6 hE hO 0 rfl ?_;cbv;exact hKD _ _ _ hO rfl
 cbv;obtain⟨w35,w36,s34,hx,h1,he⟩:=Z1 h;clear h;have h:=h1;clear h1
 rw[he,E7]at hO
 clear he;refine R8 cf122 hE S3 (fun e l H1=>(e= .normal∧l=[fi 3 aN,(5,.v (.eref [.eref (D8 aG) 0] 0)),(6,.v (.eref (E0 aA) 0)),(7,.v (.eref [sr eBo1 aI] 0)),(9,.v (.eref [yv] 0)),(10,.v (.ref b1 0)),(88,.v (.bool s34))]∧C8 (I (List.map (fun(x:A7)=>[(C3 x)]) (w36++[])++tl)) F [cb b1 [.bool false]] H1)∨(False)) (by kernel_rfl) ?_ ?_
 ·clear h;have h:=hx;clear hx;cbv;refine C7 hE h (fun hc h=>?_) (fun hc h=>?_)
  ·cbv;obtain⟨hw,rfl⟩:=J5 h
   rw[←hw]at hO
   exact⟨_,.inl ⟨rfl,rfl,hO⟩,.e rfl (.e2 (.e4 .z)),rfl⟩
  cbv;refine C7 hE h (fun hc h=>?_) (fun hc h=>?_)
  ·cbv;obtain⟨hw,rfl⟩:=J5 h
   rw[←hw]at hO
   exact⟨_,.inl ⟨rfl,rfl,hO⟩,.e rfl (.e2 (.e4 .z)),rfl⟩
  cbv;obtain⟨hw,rfl⟩:=J5 h
  rw[←hw]at hO
  exact⟨_,.inl ⟨rfl,rfl,hO⟩,.e rfl (.e2 (.e4 .z)),rfl⟩
 clear hx;rintro e l H hX
 rcases hX with hX|hX
 ·obtain⟨rfl,rfl,hO⟩:=hX;cbv;refine C7 hE h (fun hc h=>?_) (fun hc h=>?_)
  ·cbv;obtain⟨l37,hl,h⟩:=bind_some h;obtain⟨w38,h1,he⟩:=CB h;clear h;have h:=h1;clear h1
   rw[he,E7]at hO
   clear he
   rw[N1,E7]at hO
   refine Xk hE hI hD hy (ih158 aG aA aI aN ([]) ([]) l37 hl) hO (.cons (.refl _) (.cons (.refl _) (.cons (.refl _) (.cons (.refl _) (.cons (.lit _ (F3)) (.cons (.lit _ (F3)) (.refl _))))))) (fun v H hb hO=>?_) (fun v H hb hO=>?_)
   ·cases hb;clear hl;cbv;refine D1 hE hO 0 rfl rfl fun H hO=>?_;cbv;refine C6 hE hO 0 rfl ?_;cbv;obtain⟨hw,_⟩:=J5 h
    rw[←hw]at hO
    exact hK _ _ _ hO rfl
   cases hb;clear h hl;cbv;refine D1 hE hO 0 rfl rfl fun H hO=>?_;cbv;refine C6 hE hO 0 rfl ?_;cbv;exact hKD _ _ _ hO rfl
  cbv;refine F6 hE eBo7 h fun x39 h=>?_;cbv;refine JC hE h (ih57 aG x39 aI aN) (.refl _) fun r40 v41 hv41 h=>?_;cbv;obtain⟨w45,w46,o49,hx,h1,he⟩:=Z1 h;clear h;have h:=h1;clear h1
  rw[he,E7]at hO
  clear he;refine TK cf122 hE S3 (ι:=Unit) (σ:=Unit) (R:=Unit) (enc:=fun(x:A7)=>[(C3 x)]) (fun _ w F1 H=>C8 (I (List.map (fun(x:A7)=>[(C3 x)]) w++tl)) F1 [cb b1 [.bool false]] H) (fun _ e w F1 H=>False) (fun e F1 H=>e= .ret∧C8 D F1 [cb b1 [.bool false]] H) (fun i _ y42=>[(5,.v (.eref [.eref (D8 aG) 0] 0)),(6,.v (.eref (E0 aA) 0)),(7,.v (.eref [sr eBo1 aI] 0)),(9,.v (.eref [yv] 0)),(10,.v (.ref b1 0)),(15,.v (.eref (W4 y42) 0))]) (fun i _ y42 w F1 H=>C8 (I (List.map (fun(x:A7)=>[(C3 x)]) w++tl)) F1 [cb b1 [.bool false]] H) (fun _ _=>C8.stable (hI _) _) (fun _ _ _=>⟨fun h=>h.elim,fun _ _ h=>h.elim⟩) (fun _=>G5.con (C8.stable hD _)) (fun _ _ _ _=>C8.stable (hI _) _) hv41 hx (w':=w46++[]) hO (by decide) (fun _=>rfl) (by kernel_rfl) (by kernel_rfl) ?_ ?_ ?_ ?_ ?_
  ·rintro E i44 y42 _ w F43 H hE hO;clear hx h;cbv;exact⟨(),hO,.e2 (.e4 .z),rfl⟩
  ·rintro E i44 _ y42 _ w47 w48 F43 H o hE hF h hO;clear hx;cbv;refine B3 hE h (c143 N aG aA aI y42.s) (.refl _) fun r50 h=>?_;cbv;refine C7 hE h (fun hc h=>?_) (fun hc h=>?_)
   ·cbv;obtain⟨w51,h1,he⟩:=CB h;clear h;have h:=h1;clear h1
    rw[he,E7]at hO
    clear he;have hO:C8 (I ([.agg [vi 0,vi 0,vi 0,vi 0,sr eBo3 ([y42.d]),sr eBo1 y42.s]]::(List.map (fun(x:A7)=>[(C3 x)]) (w51++w48)++tl))) F43 [cb b1 [.bool false]] _:=hO;refine Nu hE hI hD hy hO (.cons (.agg (.cons (.refl _) (.cons (.refl _) (.cons (.refl _) (.cons (.refl _) (.cons (.lit _ (H8 ((eBo4 y42.d).symm) (F3))) (.refl _))))))) (.refl _)) (fun H hO=>?_) (fun H hO=>?_)
    ·cbv;refine TP hE (nt_eq _) ?_;cbv;obtain⟨hw,rfl⟩:=J5 h
     rw[←hw]at hO
     exact⟨_,rfl,hO⟩
    clear h;cbv;refine TO hE (nt_eq _) ?_;cbv;refine D1 hE hO 0 rfl rfl fun H hO=>?_;cbv
    first|exact .inr ⟨rfl,rfl,hO⟩|exact .inr (hO)
   cbv;obtain⟨hw,rfl⟩:=J5 h
   rw[←hw]at hO
   exact⟨_,rfl,hO⟩
  ·rintro d52 _ H rfl hd hO;have hO:C8 (I (List.map (fun(x:A7)=>[(C3 x)]) (w46++[])++tl)) F [cb b1 [.bool false],.blk d52 DB] H:=C8.dblk hd hO;clear hd hx;cbv;refine D1 hE hO 0 rfl rfl fun H hO=>?_;cbv;refine Kr hE hO 1 rfl fun H hO=>?_;cbv;refine C6 hE hO 0 rfl ?_;cbv;obtain⟨hc,h⟩:=Io h;obtain⟨hw,_⟩:=J5 h
   rw[←hw]at hO
   exact hK _ _ _ hO (I4 V.bool hc)
  ·rintro _ _ _ _ _ _ h;exact h.elim
  rintro d52 e H hd ⟨rfl,hO⟩;have hO:C8 D F [cb b1 [.bool false],.blk d52 DB] H:=C8.dblk hd hO;clear hd hx h;cbv;refine Kr hE hO 1 rfl fun H hO=>?_;cbv;refine C6 hE hO 0 rfl ?_;cbv;exact hKD _ _ _ hO rfl
 exact hX.elim
def k158 (N n:Nat) (ih57:K57 N n) (ih158:Bb2 N n):Bb2 N (n+1):=by
 intro aG aA aI aN bF aD r h
 unfold E5 at h
 obtain⟨⟨w0,u0⟩,h1,hr⟩:=bind_some h;clear h;have hr:=M1 hr;subst hr;have h:=h1;clear h1;refine Ed cf158 S3 func158 (by rfl) (by kernel_rfl) call158 ntmps158 (by rfl) (fun _=>rfl) ?_;intro yv I D hI hD hy tl F E H K hE hO hK hKD
 have hO:C8 (I (List.map (fun(x:A7)=>[(C3 x)]) (w0++[])++tl)) F [] H:=by rw[G4];exact hO
 cbv;refine TN hE hy.1 ?_;cbv;refine F2 hE hO fun b1 H hO=>?_;cbv;refine K9 hE ?_;cbv;refine K9 hE ?_;cbv;obtain⟨w3,w4,s2,hx,h1,he⟩:=Z1 h;clear h;have h:=h1;clear h1
 rw[he,E7]at hO
 clear he;refine R8 cf158 hE S3 (fun e l H1=>(match(generalizing:=false) s2 with| .inl y=>e= .normal∧l=[(7,.v (.eref [.eref (D8 aG) 0] 0)),(8,.v (.eref (E0 aA) 0)),(9,.v (.eref [sr eBo1 aI] 0)),(10,.v (.eref [vi aN] 0)),(11,.v (.eref [sr eBo3 bF] 0)),(12,.v (.eref [sr eBo1 aD] 0)),(13,.v (.eref [yv] 0)),(14,.v (.ref b1 0)),(15,.v (.eref [vi (Ar.len bF)] 0))]∧C8 (I (List.map (fun(x:A7)=>[(C3 x)]) (w4++[])++tl)) F [cb b1 [.bool false]] H1| .inr y=>e= .ret∧l=[(14,.v (.ref b1 0))]∧C8 (I (List.map (fun(x:A7)=>[(C3 x)]) (w4++[])++tl)) F [cb b1 [.bool y]] H1)∨((e= .ret∧l=[(14,.v (.ref b1 0))]∧C8 D F [cb b1 [.bool false]] H1))) (by kernel_rfl) ?_ ?_
 ·clear h;have h:=hx;clear hx;cbv;refine C7 hE h (fun hc h=>?_) (fun hc h=>?_)
  ·cbv;refine E9 hE (g:=fun r5=>sr eBo3 r5) h (fun r5 hx=>UI (c218 N bF r5 hx)) (.refl _) fun r5 h=>?_;cbv;obtain⟨w6,h1,he⟩:=CB h;clear h;have h:=h1;clear h1
   rw[he,E7]at hO
   clear he;have hO:C8 (I ([.agg [vi 0,vi 0,vi 0,vi 0,sr eBo3 r5,sr eBo1 aD]]::(List.map (fun(x:A7)=>[(C3 x)]) (w6++(w4++[]))++tl))) F [cb b1 [.bool false]] _:=hO;refine Nu hE hI hD hy hO (.refl _) (fun H hO=>?_) (fun H hO=>?_)
   ·cbv;refine TP hE (nt_eq _) ?_;cbv;refine C7 hE h (fun hc h=>?_) (fun hc h=>?_)
    ·cbv;refine D1 hE hO 0 rfl rfl fun H hO=>?_;cbv;obtain⟨hw,rfl⟩:=J5 h
     rw[←hw]at hO
     exact⟨_,.inl ⟨rfl,rfl,hO⟩,.e rfl .z,rfl⟩
    cbv;obtain⟨hw,rfl⟩:=J5 h
    rw[←hw]at hO
    exact⟨_,.inl ⟨rfl,rfl,hO⟩,.e rfl (.e4 (.e4 .z)),rfl⟩
   clear h;cbv;refine TO hE (nt_eq _) ?_;cbv;refine D1 hE hO 0 rfl rfl fun H hO=>?_;cbv;exact⟨_,.inr (⟨rfl,rfl,hO⟩),.e rfl .z,rfl⟩
  cbv;obtain⟨hw,rfl⟩:=J5 h
  rw[←hw]at hO
  exact⟨_,.inl ⟨rfl,rfl,hO⟩,.e rfl (.e4 (.e4 .z)),rfl⟩
 clear hx;rintro e l H hX
 rcases hX with hX|hX
 ·rcases s2 with y7|y34
  ·obtain⟨rfl,rfl,hO⟩:=hX;cbv;obtain⟨w9,w10,s8,hx,h1,he⟩:=Z1 h;clear h;have h:=h1;clear h1
   rw[he,E7]at hO
   clear he;refine R8 cf158 hE S3 (fun e l H1=>(e= .normal∧l=[(7,.v (.eref [.eref (D8 aG) 0] 0)),(8,.v (.eref (E0 aA) 0)),(9,.v (.eref [sr eBo1 aI] 0)),(10,.v (.eref [vi aN] 0)),(11,.v (.eref [sr eBo3 bF] 0)),(12,.v (.eref [sr eBo1 aD] 0)),(13,.v (.eref [yv] 0)),(14,.v (.ref b1 0)),(15,.v (.eref [vi (Ar.len bF)] 0)),(16,.v (sr eBo1 s8))]∧C8 (I (List.map (fun(x:A7)=>[(C3 x)]) (w10++[])++tl)) F [cb b1 [.bool false]] H1)∨(False)) (by kernel_rfl) ?_ ?_
   ·clear h;have h:=hx;clear hx;cbv;refine C7 hE h (fun hc h=>?_) (fun hc h=>?_)
    ·cbv;refine B3 hE h (c140 N aI aD) (.refl _) fun r11 h=>?_;cbv;obtain⟨hw,rfl⟩:=J5 h
     rw[←hw]at hO
     exact⟨_,.inl ⟨rfl,rfl,hO⟩,.e2 (.e4 (.e4 .z)),rfl⟩
    cbv;obtain⟨hw,rfl⟩:=J5 h
    rw[←hw]at hO
    exact⟨_,.inl ⟨rfl,rfl,hO⟩,.e2 (.e4 (.e4 .z)),rfl⟩
   clear hx;rintro e l H hX
   rcases hX with hX|hX
   ·obtain⟨rfl,rfl,hO⟩:=hX;cbv;refine K9 hE ?_;cbv;refine PS hE h fun h=>?_;cbv;refine F6 hE eBo7 h fun x12 h=>?_;cbv;refine JC hE h (ih57 aG x12 s8 aN) (.refl _) fun r13 v14 hv14 h=>?_;cbv;obtain⟨w18,w19,o22,hx,h1,he⟩:=Z1 h;clear h;have h:=h1;clear h1
    rw[he,E7]at hO
    clear he;refine TK cf158 hE S3 (ι:=Unit) (σ:=Unit) (R:=Unit) (enc:=fun(x:A7)=>[(C3 x)]) (fun _ w F1 H=>C8 (I (List.map (fun(x:A7)=>[(C3 x)]) w++tl)) F1 [cb b1 [.bool false]] H) (fun _ e w F1 H=>False) (fun e F1 H=>e= .ret∧C8 D F1 [cb b1 [.bool false]] H) (fun i _ y15=>[(7,.v (.eref [.eref (D8 aG) 0] 0)),(8,.v (.eref (E0 aA) 0)),(9,.v (.eref [sr eBo1 aI] 0)),(10,.v (.eref [vi aN] 0)),(11,.v (.eref [sr eBo3 bF] 0)),(12,.v (.eref [sr eBo1 aD] 0)),(13,.v (.eref [yv] 0)),(14,.v (.ref b1 0)),(15,.v (.eref [vi (Ar.len bF)] 0)),(17,.v (.eref (W4 y15) 0))]) (fun i _ y15 w F1 H=>C8 (I (List.map (fun(x:A7)=>[(C3 x)]) w++tl)) F1 [cb b1 [.bool false]] H) (fun _ _=>C8.stable (hI _) _) (fun _ _ _=>⟨fun h=>h.elim,fun _ _ h=>h.elim⟩) (fun _=>G5.con (C8.stable hD _)) (fun _ _ _ _=>C8.stable (hI _) _) hv14 hx (w':=w19++[]) hO (by decide) (fun _=>rfl) (by kernel_rfl) (by kernel_rfl) ?_ ?_ ?_ ?_ ?_
    ·rintro E i17 y15 _ w F16 H hE hO;clear hx h;cbv;exact⟨(),hO,.e2 (.e4 (.e4 .z)),rfl⟩
    ·rintro E i17 _ y15 _ w20 w21 F16 H o hE hF h hO;clear hx;cbv;obtain⟨w24,w25,s23,hx,h1,he⟩:=Z1 h;clear h;have h:=h1;clear h1
     rw[he,E7]at hO
     clear he;refine R8 cf158 hE S3 (fun e l H1=>(e= .normal∧l=[(7,.v (.eref [.eref (D8 aG) 0] 0)),(8,.v (.eref (E0 aA) 0)),(9,.v (.eref [sr eBo1 aI] 0)),(11,.v (.eref [sr eBo3 bF] 0)),(12,.v (.eref [sr eBo1 aD] 0)),(13,.v (.eref [yv] 0)),(14,.v (.ref b1 0)),(15,.v (.eref [vi (Ar.len bF)] 0)),(17,.v (.eref (W4 y15) 0)),fi 18 s23]∧C8 (I (List.map (fun(x:A7)=>[(C3 x)]) (w25++w21)++tl)) F16 [cb b1 [.bool false]] H1)∨(False)) (by kernel_rfl) ?_ ?_
     ·clear h;have h:=hx;clear hx;cbv;refine C7 hE h (fun hc h=>?_) (fun hc h=>?_)
      ·cbv;refine B3 hE h (c142 N y15.s) (.refl _) fun r26 h=>?_;cbv;obtain⟨hw,rfl⟩:=J5 h
       rw[←hw]at hO
       exact⟨_,.inl ⟨rfl,rfl,hO⟩,.e2 (.e4 (.e4 .z)),rfl⟩
      cbv;obtain⟨hw,rfl⟩:=J5 h
      rw[←hw]at hO
      exact⟨_,.inl ⟨rfl,rfl,hO⟩,.e2 (.e4 (.e4 .z)),rfl⟩
     clear hx;rintro e l H hX
     rcases hX with hX|hX
     ·obtain⟨rfl,rfl,hO⟩:=hX;cbv;refine B3 hE h (c141 N aD y15.s) (.refl _) fun r27 h=>?_;cbv;refine C7 hE h (fun hc h=>?_) (fun hc h=>?_)
      ·cbv;obtain⟨hw,rfl⟩:=J5 h
       rw[←hw]at hO
       exact⟨_,rfl,hO⟩
      cbv;refine AJ8 hE (f:=eBo3) V0 h fun l28 h=>?_;cbv;refine Ai8 (f:=eBo3) hE V0 (by decide) (l:=l28) (m:=[y15.d]) (.refl _) (.lstc (.eq (eBo4 y15.d) (.refl _)) (.lst0)) h fun l29 h=>?_;cbv;refine E9 hE (g:=fun r30=>sr eBo1 r30) h (c140 N aD y15.s) (.refl _) fun r30 h=>?_;cbv;obtain⟨l31,hl,h⟩:=bind_some h;obtain⟨w32,h1,he⟩:=CB h;clear h;have h:=h1;clear h1
      rw[he,E7]at hO
      clear he
      rw[N1,E7]at hO
      refine Xk hE hI hD hy (ih158 aG aA aI s23 l29 r30 l31 hl) hO (.refl _) (fun v H hb hO=>?_) (fun v H hb hO=>?_)
      ·cases hb;clear hl;cbv;refine TP hE (nt_eq _) ?_;cbv;obtain⟨hw,rfl⟩:=J5 h
       rw[←hw]at hO
       exact⟨_,rfl,hO⟩
      cases hb;clear h hl;cbv;refine TO hE (nt_eq _) ?_;cbv;refine D1 hE hO 0 rfl rfl fun H hO=>?_;cbv
      first|exact .inr ⟨rfl,rfl,hO⟩|exact .inr (hO)
     exact hX.elim
    ·rintro d33 _ H rfl hd hO;have hO:C8 (I (List.map (fun(x:A7)=>[(C3 x)]) (w19++[])++tl)) F [cb b1 [.bool false],.blk d33 DB] H:=C8.dblk hd hO;clear hd hx;cbv;refine D1 hE hO 0 rfl rfl fun H hO=>?_;cbv;refine Kr hE hO 1 rfl fun H hO=>?_;cbv;refine C6 hE hO 0 rfl ?_;cbv;obtain⟨hc,h⟩:=Io h;obtain⟨hw,_⟩:=J5 h
     rw[←hw]at hO
     exact hK _ _ _ hO (I4 V.bool hc)
    ·rintro _ _ _ _ _ _ h;exact h.elim
    rintro d33 e H hd ⟨rfl,hO⟩;have hO:C8 D F [cb b1 [.bool false],.blk d33 DB] H:=C8.dblk hd hO;clear hd hx h;cbv;refine Kr hE hO 1 rfl fun H hO=>?_;cbv;refine C6 hE hO 0 rfl ?_;cbv;exact hKD _ _ _ hO rfl
   exact hX.elim
  obtain⟨rfl,rfl,hO⟩:=hX;cbv;refine C6 hE hO 0 rfl ?_;cbv;obtain⟨hc,h⟩:=Io h;obtain⟨hw,_⟩:=J5 h
  rw[←hw]at hO
  exact hK _ _ _ hO (I4 V.bool hc)
 obtain⟨rfl,rfl,hO⟩:=hX;clear h;cbv;refine C6 hE hO 0 rfl ?_;cbv;exact hKD _ _ _ hO rfl
def Sf (N:Nat):∀n,K57 N n∧Bj4 N n∧Bj3 N n∧Bb2 N n:=by
 intro n
 induction n with
 |zero=>exact⟨(by intro aG aA aI aN r h;unfold E8 at h;cases h),(by intro aO aU bX bY r h;unfold V3 at h;cases h),(by intro aG aA aI aN r h;unfold L7 at h;cases h),(by intro aG aA aI aN bF aD r h;unfold E5 at h;cases h)⟩
 |succ n ih=>
  obtain⟨ih57,ih121,ih122,ih158⟩:=ih;exact⟨k57 N n ih121,k121 N n ih122,k122 N n ih57 ih158,k158 N n ih57 ih158⟩
def c57 (N n aG aA aI aN r)(h:E8 N n aG aA aI aN=some r):Nb prog 57 [.eref (D8 aG) 0,(D5 aA),sr eBo1 aI,vi aN] (fun v=>UR prog v (r.map fun(x:A7)=>[(C3 x)])):=(Sf N n).1 aG aA aI aN r h
def c58 {cmp:A4→A4→Option Int}{g:Nat}{C:List V}(eg:∀vals w,(callFunc g vals).run prog w= .ok (.enter g vals) w)(hc:∀y1 y2 r,cmp y1 y2=some r→C2 prog g ([(G2 y1),(G2 y2)]++C) (vi r)){l r:List A4}(h:Mp cmp l=some r):
 XV prog 58 (.func (.func g) [] C) 5 (lst eBo3 l) (lst eBo3 r):=RY Go.Proofs.Tryz.sorts58 call58 (va:=fun x=>(Ae x)) eBo4 (fun _=>rfl) eg hc h
def cf15:Cf:=⟨[9,5000009],[(3000011,0),(3000011,1),(3000011,2),(3000011,3)],[],[2000011],[],[]⟩
set_option maxHeartbeats 2000000 in
def c15 (N aA aD r) (h:DD N aA aD=some r):C2 prog 15 [(D5 aA),sr eBo2 aD] (.tup [sr eBo3 r.1,vi r.2]):=by
 refine UH (T:=TT) cf15 S3 func15 (by rfl) (by kernel_rfl) call15 ntmps15 (by rfl) (by rfl) ?_;intro E H0 K hE hK hF;have hO:C8 Eq H0 [] H0:=.start M2 rfl
 repeat' (cbv;first|apply C7 hE h<;>intro _ h|refine B3 hE h (c55 _ _) .z fun _ h=>?_|refine B3 hE h (c56 _ _) .z fun _ h=>?_|refine JC hE h (c57 _ _ _ _ _ _) (.r (.r (.cons (.lit _ (F3)) .z))) fun _ _ hv6 h=>?_|(cases h;exact hK _ _ _ hO (.tup (.cons (.lit _ (F3)) .z)))|refine Zy hE (f0:=eBo3) hO fun q4 b3 H hq4 hO=>?_)
 cbv;obtain⟨o12,hx,h⟩:=bind_some h;refine PQ cf15 hE S3 (ι:=Unit) (enc:=fun(x:A7)=>[(C3 x)]) (fun(s8:(List A4)) F H=>∃g:OG,(Cd g (Ar.len s8))∧C8 Eq F [cb b3 [.own g.id g.lo g.n],ob g 5 eBo3 s8] H) (fun(r:Unit) e F H=>False) (fun i s8 y7=>[(9,.v (.ref b3 0)),(10,.v (.eref (W4 y7) 0))]) (fun i s8 y7 F H=>∃g:OG,(Cd g (Ar.len s8))∧C8 Eq F [cb b3 [.own g.id g.lo g.n],ob g 5 eBo3 s8] H) (fun _=>G5.ex fun _=>C8.stable M2 _) (fun _ _=>⟨fun h=>h.elim,fun _ _ h=>h.elim⟩) (fun _ _ _=>G5.ex fun _=>C8.stable M2 _) hv6 hx (⟨q4,hq4,hO⟩) (by decide) (fun _=>rfl) (by kernel_rfl) (by kernel_rfl) ?_ ?_ ?_ ?_
 ·rintro E i10 y7 s8 F9 H hE ⟨q11,hq11,hO⟩;clear hx h;cbv;exact⟨(),⟨q11,hq11,hO⟩,.e2 .z,rfl⟩
 ·rintro E i10 _ y7 s8 F9 H o hE hF h ⟨q11,hq11,hO⟩;cbv;obtain⟨s13,hx,h⟩:=bind_some h;refine R8 cf15 hE S3 (fun e l H1=>∃u1:OG,Cd u1 (Ar.len s13)∧e= .normal∧l=[]∧C8 Eq F9 [cb b3 [.own u1.id u1.lo u1.n],ob u1 5 eBo3 s13] H1) (by kernel_rfl) ?_ ?_
  ·clear h;have h:=hx;cbv;obtain⟨l215,el215,h⟩:=bind_some h;obtain⟨u253_0,eu253_0,h⟩:=bind_some h;obtain⟨l295,el295,h⟩:=bind_some h
   repeat' first|refine And.intro ?_ ?_|(refine C6 hE hO 0 rfl ?_;cbv)|(refine TM hE hq11 ?_;cbv)|(refine Xi (f:=eBo3) hE V0 (by decide) hO hq11 1 rfl (m:=[(⟨(⟨0,0,0⟩:T4),0,[]⟩:A4)]) (Ow (f:=eBo3) hE V0 (.lstc (.eq (eBo4 (⟨(⟨0,0,0⟩:T4),0,[]⟩:A4)) (.agg (.r (.r (.r (.r (.cons (.lit _ (F3)) .z))))))) (.lst0))) (Bj el215) fun l215 q214 H hq214 hO hh=>?_;obtain rfl:=M1 hh;cbv)|(refine BK hE hO hq214 1 rfl (Bj eu253_0) fun hh=>?_;clear hh;cbv)|(refine Hb hE (f:=eBo3) (esz:=5) (tz:=5) (off:=0) (u:=(fun x294:A4=>y7.d)) (fun _=>⟨_,.eq (eBo4 _) .z,(by rw[eBo4];rfl),V0 _,rfl⟩) (by decide) hO hq214 1 rfl (Bj el295) fun l295 H hq214 hh hO=>?_;obtain rfl:=M1 hh;cbv)|(refine D1 hE hO 0 rfl rfl fun H hO=>?_;cbv)|(have h:=M1 h;subst h;exact⟨_,⟨q214,hq214,rfl,rfl,hO⟩,.z,rfl⟩)
  clear hx;rintro e l H ⟨q414,hq414,rfl,rfl,hO⟩;cbv;cases h;exact⟨_,rfl,⟨q414,hq414,hO⟩⟩
 ·rintro d415 s418 H rfl hd ⟨q419,hq419,hO⟩;have hO:C8 Eq H0 [cb b3 [.own q419.id q419.lo q419.n],ob q419 5 eBo3 s418,.blk d415 DB] H:=C8.dblk hd hO;clear hd;cbv;apply C7 hE h<;>intro _ h
  ·cbv;refine Kr hE hO 2 rfl fun H hO=>?_;cbv;cases h;exact hK _ _ _ hO (.tup (.cons (.lit _ (F3)) .z))
  cbv;apply C6 hE hO 0 rfl;cbv;apply TM hE hq419;cbv;obtain⟨s421,hx,h⟩:=bind_some h;refine I7 cf15 hE S3 (fun s420=>[(9,.v (.ref b3 0)),(42,.v (.own q419.id q419.lo q419.n)),fi 43 (Ar.len s418),fi 44 s420]) (fun s420 H1=>C8 Eq H0 [cb b3 [.own q419.id q419.lo q419.n],ob q419 5 eBo3 s418,.blk d415 DB] H1) (fun x e l H1=>match(generalizing:=false) x with| .inl y=>e= .exit 2∧l=[(9,.v (.ref b3 0))]∧C8 Eq H0 [cb b3 [.own q419.id q419.lo q419.n],ob q419 5 eBo3 s418,.blk d415 DB] H1| .inr y=>e= .ret∧l=[(4,.v (.sl [] .nil)),fi 5 5]∧C8 Eq H0 [cb b3 [.own q419.id q419.lo q419.n],ob q419 5 eBo3 s418,.blk d415 DB] H1) (by kernel_rfl) ?_ hx ?_ hO ?_
  ·intro s420 H o hO h
   repeat' (cbv;first|apply C7 hE h<;>intro _ h|refine B3 hE h (c29 _ _ _) .z fun _ h=>?_|(cases h;exact⟨_,_,rfl,⟨rfl,rfl,hO⟩,.e2 .z,rfl⟩)|(cases h;exact⟨_,rfl,.e4 .z,rfl,hO⟩)|(cases h;exact⟨_,_,rfl,⟨rfl,rfl,hO⟩,.e rfl .z,rfl⟩)|refine BK hE hO hq419 1 rfl h fun h=>?_|refine CT hE eBo4 hO hq419 1 rfl h fun _ h=>?_)
  ·exact .e4 .z
  clear hx
  rcases s421 with y424|y426
  ·rintro e l H ⟨rfl,rfl,hO⟩
   repeat' (cbv;first|refine Zz hE hO hq419 1 rfl h (fun l425 hx=>c58 (g:=21) (C:=[]) call21 (fun y1 y2 r hx=>c21 N N y1 y2 r hx) hx) fun _ H hq419 hO h=>?_|apply C6 hE hO 0 rfl|(cases h;exact hF _ (EG.tup [.bad,vi 0] 0 (by simp)) q419 _ _ 1 _ _ hO rfl (Fi hE hq419) (.tup .z))|refine Kr hE hO 2 rfl fun H hO=>?_)
  rintro e l H ⟨rfl,rfl,hO⟩;cbv;refine Kr hE hO 2 rfl fun H hO=>?_;cbv;cases h;exact hK _ _ _ hO (.tup (.cons (.lit _ (F3)) .z))
 rintro d r e H rfl hd hO;exact hO.elim
def cf69:Cf:=⟨[],[(1,14)],[],[],[],[]⟩
def c69 (N aB aF r)(h:Ij N aB aF=some r):C2 prog 69 [(DU aB),(DU aF)] (vi r):=by
 refine Q9 cf69 func69 call69 ntmps69 ?_;intro E H0 K hE hK hO
 repeat' (cbv;first|refine B3 hE h (c70 _ _ _) .z fun _ h=>?_|refine B3 hE h (c68 _ _) (.cons (.lit _ (H8 (rfl) (H8 (rfl) (H8 (rfl) (F3))))) .z) fun _ h=>?_|refine E9 hE (g:=fun r1=>vi r1) h (c70 _ _ _) .z fun r1 h=>?_|refine E9 hE (g:=fun r2=>vi r2) h (c70 _ _ _) .z fun r2 h=>?_|(cases h;exact hK hO .z))
def c146 (N aH r) (h:Nq N aH=some r):C2 prog 146 [sr eBo9 aH] (.bool r):=by
 refine Q9 cf0 func146 call146 ntmps146 ?_;intro E H0 K hE hK hO;cbv;obtain⟨s2,hx,h⟩:=bind_some h;refine I7 cf0 hE S3 (fun s1=>[(0,.v (sr eBo9 aH)),fi 3 s1]) (fun s1 H1=>C8 Eq H0 [] H1) (fun x e l H1=>match(generalizing:=false) x with| .inl y=>e= .exit 0∧l=[(0,.v (sr eBo9 aH))]∧C8 Eq H0 [] H1| .inr y=>e= .ret∧l=[(2,.b false)]∧C8 Eq H0 [] H1) (by kernel_rfl) ?_ hx ?_ hO ?_
 ·intro s1 H o hO h
  repeat' (cbv;first|apply C7 hE h<;>intro _ h|apply K9 hE|refine F6 hE eBp4 h fun _ h=>?_|(cases h;exact⟨_,_,rfl,⟨rfl,rfl,hO⟩,.b rfl (.z),rfl⟩)|(cases h;exact⟨_,rfl,.e2 .z,rfl,hO⟩)|(cases h;exact⟨_,_,rfl,⟨rfl,rfl,hO⟩,.e rfl .z,rfl⟩))
 ·exact .e2 .z
 clear hx
 rcases s2 with y4|y5
 ·rintro e l H ⟨rfl,rfl,hO⟩;cbv;apply K9 hE;cbv;cases h;exact hK hO .z
 rintro e l H ⟨rfl,rfl,hO⟩;cbv;cases h;exact hK hO .z
def c94 (N aC r)(h:QG N aC=some r):C2 prog 94 [(BO aC)] (.bool r):=by
 refine Q9 cf0 func94 call94 ntmps94 ?_;intro E H0 K hE hK hO;cbv;refine B3 hE h (c146 N aC.Values) .z fun r1 h=>?_;cbv;cases h;exact hK hO .z
def c36 (N aH r) (h:HI N aH=some r):C2 prog 36 [sr eBo2 aH] (.bool r):=by
 refine Q9 cf0 func36 call36 ntmps36 ?_;intro E H0 K hE hK hO;cbv;obtain⟨s2,hx,h⟩:=bind_some h;refine I7 cf0 hE S3 (fun s1=>[(0,.v (sr eBo2 aH)),fi 3 s1]) (fun s1 H1=>C8 Eq H0 [] H1) (fun x e l H1=>match(generalizing:=false) x with| .inl y=>e= .exit 0∧l=[(0,.v (sr eBo2 aH))]∧C8 Eq H0 [] H1| .inr y=>e= .ret∧l=[(2,.b false)]∧C8 Eq H0 [] H1) (by kernel_rfl) ?_ hx ?_ hO ?_
 ·intro s1 H o hO h
  repeat' (cbv;first|apply C7 hE h<;>intro _ h|apply K9 hE|refine B3 hE h (c94 _ _) .z fun _ h=>?_|refine F6 hE eBo8 h fun _ h=>?_|(cases h;exact⟨_,_,rfl,⟨rfl,rfl,hO⟩,.b rfl (.z),rfl⟩)|(cases h;exact⟨_,rfl,.e2 .z,rfl,hO⟩)|(cases h;exact⟨_,_,rfl,⟨rfl,rfl,hO⟩,.e rfl .z,rfl⟩))
 ·exact .e2 .z
 clear hx
 rcases s2 with y5|y6
 ·rintro e l H ⟨rfl,rfl,hO⟩;cbv;apply K9 hE;cbv;cases h;exact hK hO .z
 rintro e l H ⟨rfl,rfl,hO⟩;cbv;cases h;exact hK hO .z
def c100 (N:Nat):∀n aA r,AK N n aA=some r→C2 prog 100 [(D5 aA)] (sr eBo6 r):=by
 intro n
 induction n with
 |zero=>intro aA r h;cases h
 |succ n ih=>
 intro aA r h
 unfold AK at h
 refine Q9 cf0 func100 call100 ntmps100 ?_;intro E H0 K hE hK hO;cbv;replace hO:=hO.tl0 (t:=.full) rfl;obtain⟨s3,hx,h⟩:=bind_some h;refine Bd cf0 hE S3 (γ:=K1) (fun s1 g=>[(1,.v (.eref (E0 aA) 0)),(3,.v (.sl (lst eBo6 s1.1) g)),fi 4 s1.2]) (fun s1 g H1=>FI g∧C8 Eq H0 [.tl g] H1) (fun x e l H1=>∃u1:K1,FI u1∧e= .exit 0∧l=[(3,.v (.sl (lst eBo6 x) u1))]∧C8 Eq H0 [.tl u1] H1) (by kernel_rfl) ?_ .full hx ?_ ?_ ?_
 ·rintro s1 t2 H o ⟨ht2,hO⟩ h
  repeat' (cbv;first|apply C7 hE h<;>intro _ h|apply K9 hE|refine B3 hE h (ih _) .z fun r5 h=>?_|refine F6 hE eBo7 h fun _ h=>?_|(cases h;exact⟨_,t6,rfl,.e rfl (.e2 .z),rfl,ht6,hO⟩)|(cases h;exact⟨_,_,rfl,⟨t2,ht2,rfl,rfl,hO⟩,.e rfl .z,rfl⟩)|refine JX (f:=eBo6) hE Mo (by decide) hO 0 rfl ht2 (l:=s1.1) (m:=r5) .z .z h fun _ t6 H hO ht6 h=>?_)
 ·exact .e rfl (.v (.slt _ (.lstc (.eq (eBo7 aA) .z) (.lst0))) (.e rfl (.z)))
 ·exact⟨trivial,hO⟩
 clear hx;rintro e l H ⟨t8,ht8,rfl,rfl,hO⟩;cbv;cases h;exact hK hO (.ro _ _)
def c132 (N:Nat):∀n aA bA r,Bp N n aA bA=some r→C2 prog 132 [(D5 aA),vi bA] (vi r):=by
 intro n
 induction n with
 |zero=>intro aA bA r h;cases h
 |succ n ih=>
 intro aA bA r h
 unfold Bp at h
 refine Q9 cf0 func132 call132 ntmps132 ?_;intro E H0 K hE hK hO;cbv;obtain⟨s2,hx,h⟩:=bind_some h;refine I7 cf0 hE S3 (fun s1=>[fi 1 bA,(2,.v (.eref (E0 aA) 0)),fi 5 s1.1,fi 6 s1.2]) (fun s1 H1=>C8 Eq H0 [] H1) (fun x e l H1=>e= .exit 0∧l=[fi 5 x]∧C8 Eq H0 [] H1) (by kernel_rfl) ?_ hx ?_ hO ?_
 ·intro s1 H o hO h
  repeat' (cbv;first|apply C7 hE h<;>intro _ h|apply K9 hE|refine B3 hE h (ih _ _) .z fun _ h=>?_|refine F6 hE eBo7 h fun _ h=>?_|(cases h;exact⟨_,rfl,.e4 .z,rfl,hO⟩)|(cases h;exact⟨_,_,rfl,⟨rfl,rfl,hO⟩,.e rfl .z,rfl⟩))
 ·exact .e4 .z
 clear hx;rintro e l H ⟨rfl,rfl,hO⟩;cbv;cases h;exact hK hO .z
def c133 (N:Nat):∀n aA r,AL N n aA=some r→C2 prog 133 [(D5 aA)] (vi r):=by
 intro n
 induction n with
 |zero=>intro aA r h;cases h
 |succ n ih=>
 intro aA r h
 unfold AL at h
 refine Q9 cf0 func133 call133 ntmps133 ?_;intro E H0 K hE hK hO;cbv;obtain⟨s2,hx,h⟩:=bind_some h;refine I7 cf0 hE S3 (fun s1=>[(1,.v (.eref (E0 aA) 0)),fi 3 s1.1,fi 4 s1.2]) (fun s1 H1=>C8 Eq H0 [] H1) (fun x e l H1=>e= .exit 0∧l=[fi 3 x]∧C8 Eq H0 [] H1) (by kernel_rfl) ?_ hx ?_ hO ?_
 ·intro s1 H o hO h;cbv;apply K9 hE;cbv;apply C7 hE h<;>intro _ h
  ·cbv;refine F6 hE eBo7 h fun x3 h=>?_;cbv;refine B3 hE h (ih x3) .z fun r4 h=>?_;cbv;cases h;exact⟨_,rfl,.e rfl (.e2 .z),rfl,hO⟩
  cbv;cases h;exact⟨_,_,rfl,⟨rfl,rfl,hO⟩,.e rfl .z,rfl⟩
 ·exact .e rfl (.e2 .z)
 clear hx;rintro e l H ⟨rfl,rfl,hO⟩;cbv;cases h;exact hK hO .z
def c174 (N:Nat):∀n aC bA r,Br N n aC bA=some r→C2 prog 174 [(Bk aC),vi bA] (vi r):=by
 intro n
 induction n with
 |zero=>intro aC bA r h;cases h
 |succ n ih=>
 intro aC bA r h
 unfold Br at h
 refine Q9 cf0 func174 call174 ntmps174 ?_;intro E H0 K hE hK hO;cbv;obtain⟨s2,hx,h⟩:=bind_some h;refine I7 cf0 hE S3 (fun s1=>[fi 1 bA,(2,.v (.eref (EF aC) 0)),fi 5 s1.1,fi 6 s1.2]) (fun s1 H1=>C8 Eq H0 [] H1) (fun x e l H1=>e= .exit 0∧l=[fi 5 x]∧C8 Eq H0 [] H1) (by kernel_rfl) ?_ hx ?_ hO ?_
 ·intro s1 H o hO h
  repeat' (cbv;first|apply C7 hE h<;>intro _ h|apply K9 hE|refine B3 hE h (ih _ _) .z fun _ h=>?_|refine F6 hE eBp7 h fun _ h=>?_|(cases h;exact⟨_,rfl,.e4 .z,rfl,hO⟩)|(cases h;exact⟨_,_,rfl,⟨rfl,rfl,hO⟩,.e rfl .z,rfl⟩))
 ·exact .e4 .z
 clear hx;rintro e l H ⟨rfl,rfl,hO⟩;cbv;cases h;exact hK hO .z
def c175 (N:Nat):∀n aC r,AM N n aC=some r→C2 prog 175 [(Bk aC)] (vi r):=by
 intro n
 induction n with
 |zero=>intro aC r h;cases h
 |succ n ih=>
 intro aC r h
 unfold AM at h
 refine Q9 cf0 func175 call175 ntmps175 ?_;intro E H0 K hE hK hO;cbv;obtain⟨s2,hx,h⟩:=bind_some h;refine I7 cf0 hE S3 (fun s1=>[(1,.v (.eref (EF aC) 0)),fi 3 s1.1,fi 4 s1.2]) (fun s1 H1=>C8 Eq H0 [] H1) (fun x e l H1=>e= .exit 0∧l=[fi 3 x]∧C8 Eq H0 [] H1) (by kernel_rfl) ?_ hx ?_ hO ?_
 ·intro s1 H o hO h;cbv;apply K9 hE;cbv;apply C7 hE h<;>intro _ h
  ·cbv;refine F6 hE eBp7 h fun x3 h=>?_;cbv;refine B3 hE h (ih x3) .z fun r4 h=>?_;cbv;cases h;exact⟨_,rfl,.e rfl (.e2 .z),rfl,hO⟩
  cbv;cases h;exact⟨_,_,rfl,⟨rfl,rfl,hO⟩,.e rfl .z,rfl⟩
 ·exact .e rfl (.e2 .z)
 clear hx;rintro e l H ⟨rfl,rfl,hO⟩;cbv;cases h;exact hK hO .z
def c134 (N aC r)(h:HP N aC=some r):C2 prog 134 [(Bk aC)] (.bool r):=by
 refine Q9 cf0 func134 call134 ntmps134 ?_;intro E H0 K hE hK hO
 repeat' (cbv;first|apply C7 hE h<;>intro _ h|refine B3 hE h (c174 _ _ _ _) .z fun _ h=>?_|refine B3 hE h (c175 _ _ _) .z fun _ h=>?_|(cases h;exact hK hO .z))
end Go.Ab
