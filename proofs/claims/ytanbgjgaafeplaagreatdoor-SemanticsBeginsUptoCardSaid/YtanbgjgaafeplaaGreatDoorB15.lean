/- GTCo6 GTCo7 GTSq GTCo8 -/
import Derived.Test.YtanbgjgaafeplaaGreatDoorB14
set_option linter.all false
open Go.Ab.Ar (cmp)
namespace Go.Ab
open Go.RowKit Go.Proofs Go.Proofs.Tryz J7
variable [Ar][J7]
set_option maxRecDepth 100000
end Go.Ab
namespace Go.Ab
open Go.RowKit Go.Proofs Go.Proofs.Tryz J7
variable [Ar][J7]
set_option maxRecDepth 100000
def cf16 :Cf:=⟨[],[(6,8)],[],[],[],[]⟩
theorem c16 (N aC aD r) (h:CC N aC aD=some r):B2 prog 16 [sr eAs2 aC,sr eAs2 aD] (.bool r):=by
 unfold CC at h
 refine K5 cf16 func16 call16 ntmps16 ?_;intro E H0 K hE hK hO;cbv;refine E5 hE ?_;cbv;refine E5 hE ?_;cbv;refine A9 hE h (fun _ h=>?_) fun _ h=>?_
 ·cbv;cases h;exact hK hO (.refl _)
 cbv;obtain⟨s2,hx,h⟩:=bind_some h;refine G6 cf16 hE Q4 (fun s1=>[(0,.v (sr eAs2 aC)),(1,.v (sr eAs2 aD)),fi 5 s1]) (fun s1 H1=>B7 Eq H0 [] H1) (fun x e l H1=>match(generalizing:=false) x with| .inl y=>e= .exit 0∧l=[]∧B7 Eq H0 [] H1| .inr y=>e= .ret∧l=[(4,.b false)]∧B7 Eq H0 [] H1) (by kernel_rfl) ?_ hx ?_ hO ?_
 ·intro s1 H o hO h;clear hx;cbv;refine E5 hE ?_;cbv;refine A9 hE h (fun _ h=>?_) fun _ h=>?_
  ·cbv;refine C5 hE eAt3 h fun x3 h=>?_;cbv;refine C5 hE eAt3 h fun x4 h=>?_;cbv;refine A5 hE h (c33 N x3 x4) (.refl _) fun r5 h=>?_;cbv;refine A9 hE h (fun _ h=>?_) fun _ h=>?_
   ·cbv;cases h;exact⟨_,_,rfl,⟨rfl,rfl,hO⟩,.b rfl (.z),rfl⟩
   cbv;cases h;exact⟨_,rfl,.e rfl (.e2 .z),rfl,hO⟩
  cbv;cases h;exact⟨_,_,rfl,⟨rfl,rfl,hO⟩,.z,rfl⟩
 ·exact .e rfl (.e2 .z)
 clear hx
 rcases s2 with y6|y7
 ·rintro e l H ⟨rfl,rfl,hO⟩;cbv;cases h;exact hK hO (.refl _)
 rintro e l H ⟨rfl,rfl,hO⟩;cbv;cases h;exact hK hO (.refl _)
end Go.Ab
namespace Go.Ab
variable [Ar]
def Ed (N:Nat) (aA:A1) (aF:List A4):Option Bool:=
 (Db N aA aF).bind fun r1=>
 if r1=true then
  (EB N aA aF).bind fun r2=>
  some (cmp .eql r2 0)
 else
  some false
def E7 (N:Nat) (aH:List B6) (aS:B6→Option Bool):Option Int:=
 (loopN
  (fun(s1:Int)=>
   (
    if cmp .lss s1 (Ar.len aH)=true then
     (B9 aH s1).bind fun x3=>
     (aS x3).bind fun r4=>
     if r4=true then
      some (.inr (.inr s1))
     else
      some (.inl (Ar.ar .add .i64 s1 1))
    else
     some (.inr (.inl ()))
    :Option ((Int) ⊕ (Unit ⊕ Int))))
  N 0).bind fun s2=>
 match s2 with
 | .inl y5=>
  some (-1)
 | .inr y6=>
  some y6
def E4 (N:Nat)(aH:List B6)(aS:B6→Option Bool):Option Bool:=
 (E7 N aH aS).bind fun r1=>
 some (cmp .geq r1 0)
def Ak (N:Nat)(bA:B6):Option Bool:=
 some (cmp .eql (Ar.len bA.cR) 0)
def Au (N:Nat) (aA:A1) (aF:List A4):Option ((List B6)×Bool):=
 (W4 N aA aF).bind fun r1=>
 if cmp .eql r1.2 0=true then
  (E4 N r1.1 (fun y1=>Ak N y1)).bind fun r2=>
  some (r1.1,Ar.nt r2)
 else
  some (r1.1,false)
def Dc (N:Nat) (aF:List B6) (bA:B6):Option Bool:=
 (loopN
  (fun(s1:Int)=>
   (
    if cmp .lss s1 (Ar.len aF)=true then
     (B9 aF s1).bind fun x3=>
     (Ap N x3 bA).bind fun r4=>
     if cmp .eql r4 0=true then
      some (.inr (.inr ()))
     else
      some (.inl (Ar.ar .add .i64 s1 1))
    else
     some (.inr (.inl ()))
    :Option ((Int) ⊕ (Unit ⊕ Unit))))
  N 0).bind fun s2=>
 match s2 with
 | .inl y5=>
  some false
 | .inr y6=>
  some true
end Go.Ab
namespace Go.Ab
open Go.RowKit Go.Proofs Go.Proofs.Tryz J7
variable [Ar][J7]
set_option maxRecDepth 100000
theorem c17 (N aA aF r)(h:Ed N aA aF=some r):B2 prog 17 [(B8 aA),sr eAs3 aF] (.bool r):=by
 unfold Ed at h
 refine K5 cf0 func17 call17 ntmps17 ?_;intro E H0 K hE hK hO;cbv;refine A5 hE h (c12 N aA aF) (.refl _) fun r1 h=>?_;cbv;refine A9 hE h (fun _ h=>?_) fun _ h=>?_
 ·cbv;refine A5 hE h (c70 N aA aF) (.refl _) fun r2 h=>?_;cbv;cases h;exact hK hO (.refl _)
 cbv;cases h;exact hK hO (.refl _)
theorem c83 (N:Nat) (aH:List B6) (aU:V) (aS:B6→Option Bool) (bD:∀y1 q,aS y1=some q→R9 prog aU [(Ax y1)] (.bool q)) (r:Int) (h:E7 N aH aS=some r):B2 prog 83 [sr eAs2 aH,aU] (vi r):=by
 unfold E7 at h
 refine K5 cf0 func83 call83 ntmps83 ?_;intro E H0 K hE hK hO;cbv;refine E5 hE ?_;cbv;obtain⟨s2,hx,h⟩:=bind_some h;refine G6 cf0 hE Q4 (fun s1=>[(0,.v (sr eAs2 aH)),(1,.v (aU)),fi 7 (Ar.len aH),fi 8 s1]) (fun s1 H1=>B7 Eq H0 [] H1) (fun x e l H1=>match(generalizing:=false) x with| .inl y=>e= .exit 0∧l=[]∧B7 Eq H0 [] H1| .inr y=>e= .ret∧l=[fi 4 y]∧B7 Eq H0 [] H1) (by kernel_rfl) ?_ hx ?_ hO ?_
 ·intro s1 H o hO h;clear hx;cbv;refine A9 hE h (fun _ h=>?_) fun _ h=>?_
  ·cbv;refine C5 hE eAt3 h fun x3 h=>?_;cbv;refine Y0 hE (g:=fun r4=>.bool r4) h (fun r4 hx=>bD x3 r4 hx) (.refl _) fun r4 h=>?_;cbv;refine A9 hE h (fun _ h=>?_) fun _ h=>?_
   ·cbv;cases h;exact⟨_,_,rfl,⟨rfl,rfl,hO⟩,.e rfl .z,rfl⟩
   cbv;cases h;exact⟨_,rfl,.e4 .z,rfl,hO⟩
  cbv;cases h;exact⟨_,_,rfl,⟨rfl,rfl,hO⟩,.z,rfl⟩
 ·exact .e4 .z
 clear hx
 rcases s2 with y5|y6
 ·rintro e l H ⟨rfl,rfl,hO⟩;cbv;cases h;exact hK hO (.refl _)
 rintro e l H ⟨rfl,rfl,hO⟩;cbv;cases h;exact hK hO (.refl _)
theorem c22 (N:Nat)(aH:List B6)(aU:V)(aS:B6→Option Bool)(bD:∀y1 q,aS y1=some q→R9 prog aU [(Ax y1)] (.bool q))(r:Bool)(h:E4 N aH aS=some r):B2 prog 22 [sr eAs2 aH,aU] (.bool r):=by
 unfold E4 at h
 refine K5 cf0 func22 call22 ntmps22 ?_;intro E H0 K hE hK hO;cbv;refine A5 hE h (c83 N aH aU aS bD) (.refl _) fun r1 h=>?_;cbv;cases h;exact hK hO (.refl _)
theorem c72 (N bA r)(h:Ak N bA=some r):B2 prog 72 [(Ax bA)] (.bool r):=by
 unfold Ak at h
 refine K5 cf0 func72 call72 ntmps72 ?_;intro E H0 K hE hK hO;cbv;refine E5 hE ?_;cbv;cases h;exact hK hO (.refl _)
theorem c18 (N aA aF r)(h:Au N aA aF=some r):B2 prog 18 [(B8 aA),sr eAs3 aF] (.tup [sr eAs2 r.1,.bool r.2]):=by
 unfold Au at h
 refine K5 cf0 func18 call18 ntmps18 ?_;intro E H0 K hE hK hO;cbv;refine A5 hE h (c14 N aA aF) (.refl _) fun r1 h=>?_;cbv;refine A9 hE h (fun _ h=>?_) fun _ h=>?_
 ·cbv;refine A5 hE (g:=fun r2=>.bool r2) h (fun r2 hx=>c22 N r1.1 (.func (.func 72) [] []) (fun y1=>Ak N y1) (fun y1 r hx=>B2.value (F:=[]) (C:=[]) (c72 N y1 r hx)) r2 hx) (.refl _) fun r2 h=>?_;cbv;cases h;exact hK hO (.refl _)
 cbv;cases h;exact hK hO (.refl _)
def cf24 :Cf:=⟨[],[(4,5)],[],[],[],[]⟩
theorem c24 (N aF bA r) (h:Dc N aF bA=some r):B2 prog 24 [sr eAs2 aF,(Ax bA)] (.bool r):=by
 unfold Dc at h
 refine K5 cf24 func24 call24 ntmps24 ?_;intro E H0 K hE hK hO;cbv;obtain⟨s2,hx,h⟩:=bind_some h;refine G6 cf24 hE Q4 (fun s1=>[(0,.v (sr eAs2 aF)),(3,.v (.eref (FZ bA) 0)),fi 5 s1]) (fun s1 H1=>B7 Eq H0 [] H1) (fun x e l H1=>match(generalizing:=false) x with| .inl y=>e= .exit 0∧l=[]∧B7 Eq H0 [] H1| .inr y=>e= .ret∧l=[(4,.b true)]∧B7 Eq H0 [] H1) (by kernel_rfl) ?_ hx ?_ hO ?_
 ·intro s1 H o hO h;clear hx;cbv;refine E5 hE ?_;cbv;refine A9 hE h (fun _ h=>?_) fun _ h=>?_
  ·cbv;refine C5 hE eAt3 h fun x3 h=>?_;cbv;refine A5 hE h (c33 N x3 bA) (.refl _) fun r4 h=>?_;cbv;refine A9 hE h (fun _ h=>?_) fun _ h=>?_
   ·cbv;cases h;exact⟨_,_,rfl,⟨rfl,rfl,hO⟩,.b rfl (.z),rfl⟩
   cbv;cases h;exact⟨_,rfl,.e rfl (.e2 .z),rfl,hO⟩
  cbv;cases h;exact⟨_,_,rfl,⟨rfl,rfl,hO⟩,.z,rfl⟩
 ·exact .e rfl (.e2 .z)
 clear hx
 rcases s2 with y5|y6
 ·rintro e l H ⟨rfl,rfl,hO⟩;cbv;cases h;exact hK hO (.refl _)
 rintro e l H ⟨rfl,rfl,hO⟩;cbv;cases h;exact hK hO (.refl _)
end Go.Ab
