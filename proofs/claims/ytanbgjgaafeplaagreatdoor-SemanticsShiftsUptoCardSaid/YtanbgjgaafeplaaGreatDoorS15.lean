/- GTCo6 GTCo7 GTSq GTCo8 -/
import Derived.Test.YtanbgjgaafeplaaGreatDoorS14
set_option linter.all false
open Go.Ab.Ar (cmp)
namespace Go.Ab
open Go.RowKit Go.Proofs Go.Proofs.Tryz J0
variable [Ar][J0]
set_option maxRecDepth 100000
end Go.Ab
namespace Go.Ab
open Go.RowKit Go.Proofs Go.Proofs.Tryz J0
variable [Ar][J0]
set_option maxRecDepth 100000
end Go.Ab
namespace Go.Ab
variable [Ar]
def Du (N:Nat) (aA:A0) (aF:List A3):Option Bool:=
 (Cu N aA aF).bind fun r1=>
 if r1=true then
  (DR N aA aF).bind fun r2=>
  some (cmp .eql r2 0)
 else
  some false
def K9 (N:Nat) (aG:List D3) (aS:D3→Option Bool):Option Int:=
 (loopN
  (fun(s1:Int)=>
   (
    if cmp .lss s1 (Ar.len aG)=true then
     (B9 aG s1).bind fun x3=>
     (aS x3).bind fun r4=>
     if r4=true then
      some (.inr (.inr s1))
     else
      some (.inl (Ar.ar .add .i64 s1 1))
    else
     some (.inr (.inl ()))
    :Option ((Int) ⊕ (Unit ⊕ Int))))
  N 0).bind fun s2=>
 match s2 with
 | .inl y5=>
  some (-1)
 | .inr y6=>
  some y6
def G2 (N:Nat)(aG:List D3)(aS:D3→Option Bool):Option Bool:=
 (K9 N aG aS).bind fun r1=>
 some (cmp .geq r1 0)
def Z1 (N:Nat)(cC:D3):Option Bool:=
 some (cmp .eql (Ar.len cC.cP) 0)
def Z6 (N:Nat) (aA:A0) (aF:List A3):Option ((List D3)×Bool):=
 (V3 N aA aF).bind fun r1=>
 if cmp .eql r1.2 0=true then
  (G2 N r1.1 (fun y1=>Z1 N y1)).bind fun r2=>
  some (r1.1,Ar.nt r2)
 else
  some (r1.1,false)
def I6 (N:Nat) (aG:List A0) (aS:A0→Option Bool):Option Int:=
 (loopN
  (fun(s1:Int)=>
   (
    if cmp .lss s1 (Ar.len aG)=true then
     (B9 aG s1).bind fun x3=>
     (aS x3).bind fun r4=>
     if r4=true then
      some (.inr (.inr s1))
     else
      some (.inl (Ar.ar .add .i64 s1 1))
    else
     some (.inr (.inl ()))
    :Option ((Int) ⊕ (Unit ⊕ Int))))
  N 0).bind fun s2=>
 match s2 with
 | .inl y5=>
  some (-1)
 | .inr y6=>
  some y6
def E6 (N:Nat)(aG:List A0)(aS:A0→Option Bool):Option Bool:=
 (I6 N aG aS).bind fun r1=>
 some (cmp .geq r1 0)
end Go.Ab
namespace Go.Ab
open Go.RowKit Go.Proofs Go.Proofs.Tryz J0
variable [Ar][J0]
set_option maxRecDepth 100000
theorem c17 (N aA aF r)(h:Du N aA aF=some r):B1 prog 17 [(B6 aA),sr eAj8 aF] (.bool r):=by
 unfold Du at h
 refine J6 cf0 func17 call17 ntmps17 ?_;intro E H0 K hE hK hO;cbv;refine A6 hE h (c12 N aA aF) (.refl _) fun r1 h=>?_;cbv;refine A9 hE h (fun _ h=>?_) fun _ h=>?_
 ·cbv;refine A6 hE h (c70 N aA aF) (.refl _) fun r2 h=>?_;cbv;cases h;exact hK hO (.refl _)
 cbv;cases h;exact hK hO (.refl _)
theorem c83 (N:Nat) (aG:List D3) (aT:V) (aS:D3→Option Bool) (bB:∀y1 q,aS y1=some q→P4 prog aT [(Co y1)] (.bool q)) (r:Int) (h:K9 N aG aS=some r):B1 prog 83 [sr eAk4 aG,aT] (vi r):=by
 unfold K9 at h
 refine J6 cf0 func83 call83 ntmps83 ?_;intro E H0 K hE hK hO;cbv;refine E4 hE ?_;cbv;obtain⟨s2,hx,h⟩:=bind_some h;refine G5 cf0 hE Q6 (fun s1=>[(0,.v (sr eAk4 aG)),(1,.v (aT)),fi 7 (Ar.len aG),fi 8 s1]) (fun s1 H1=>B7 Eq H0 [] H1) (fun x e l H1=>match(generalizing:=false) x with| .inl y=>e= .exit 0∧l=[]∧B7 Eq H0 [] H1| .inr y=>e= .ret∧l=[fi 4 y]∧B7 Eq H0 [] H1) (by kernel_rfl) ?_ hx ?_ hO ?_
 ·intro s1 H o hO h;clear hx;cbv;refine A9 hE h (fun _ h=>?_) fun _ h=>?_
  ·cbv;refine C4 hE eAl3 h fun x3 h=>?_;cbv;refine W6 hE (g:=fun r4=>.bool r4) h (fun r4 hx=>bB x3 r4 hx) (.refl _) fun r4 h=>?_;cbv;refine A9 hE h (fun _ h=>?_) fun _ h=>?_
   ·cbv;cases h;exact⟨_,_,rfl,⟨rfl,rfl,hO⟩,.e rfl .z,rfl⟩
   cbv;cases h;exact⟨_,rfl,.e4 .z,rfl,hO⟩
  cbv;cases h;exact⟨_,_,rfl,⟨rfl,rfl,hO⟩,.z,rfl⟩
 ·exact .e4 .z
 clear hx
 rcases s2 with y5|y6
 ·rintro e l H ⟨rfl,rfl,hO⟩;cbv;cases h;exact hK hO (.refl _)
 rintro e l H ⟨rfl,rfl,hO⟩;cbv;cases h;exact hK hO (.refl _)
theorem c22 (N:Nat)(aG:List D3)(aT:V)(aS:D3→Option Bool)(bB:∀y1 q,aS y1=some q→P4 prog aT [(Co y1)] (.bool q))(r:Bool)(h:G2 N aG aS=some r):B1 prog 22 [sr eAk4 aG,aT] (.bool r):=by
 unfold G2 at h
 refine J6 cf0 func22 call22 ntmps22 ?_;intro E H0 K hE hK hO;cbv;refine A6 hE h (c83 N aG aT aS bB) (.refl _) fun r1 h=>?_;cbv;cases h;exact hK hO (.refl _)
theorem c72 (N cC r)(h:Z1 N cC=some r):B1 prog 72 [(Co cC)] (.bool r):=by
 unfold Z1 at h
 refine J6 cf0 func72 call72 ntmps72 ?_;intro E H0 K hE hK hO;cbv;refine E4 hE ?_;cbv;cases h;exact hK hO (.refl _)
theorem c18 (N aA aF r)(h:Z6 N aA aF=some r):B1 prog 18 [(B6 aA),sr eAj8 aF] (.tup [sr eAk4 r.1,.bool r.2]):=by
 unfold Z6 at h
 refine J6 cf0 func18 call18 ntmps18 ?_;intro E H0 K hE hK hO;cbv;refine A6 hE h (c14 N aA aF) (.refl _) fun r1 h=>?_;cbv;refine A9 hE h (fun _ h=>?_) fun _ h=>?_
 ·cbv;refine A6 hE (g:=fun r2=>.bool r2) h (fun r2 hx=>c22 N r1.1 (.func (.func 72) [] []) (fun y1=>Z1 N y1) (fun y1 r hx=>B1.value (F:=[]) (C:=[]) (c72 N y1 r hx)) r2 hx) (.refl _) fun r2 h=>?_;cbv;cases h;exact hK hO (.refl _)
 cbv;cases h;exact hK hO (.refl _)
theorem c133 (N:Nat) (aG:List A0) (aT:V) (aS:A0→Option Bool) (bB:∀y1 q,aS y1=some q→P4 prog aT [(B6 y1)] (.bool q)) (r:Int) (h:I6 N aG aS=some r):B1 prog 133 [sr eAk0 aG,aT] (vi r):=by
 unfold I6 at h
 refine J6 cf0 func133 call133 ntmps133 ?_;intro E H0 K hE hK hO;cbv;refine E4 hE ?_;cbv;obtain⟨s2,hx,h⟩:=bind_some h;refine G5 cf0 hE Q6 (fun s1=>[(0,.v (sr eAk0 aG)),(1,.v (aT)),fi 7 (Ar.len aG),fi 8 s1]) (fun s1 H1=>B7 Eq H0 [] H1) (fun x e l H1=>match(generalizing:=false) x with| .inl y=>e= .exit 0∧l=[]∧B7 Eq H0 [] H1| .inr y=>e= .ret∧l=[fi 4 y]∧B7 Eq H0 [] H1) (by kernel_rfl) ?_ hx ?_ hO ?_
 ·intro s1 H o hO h;clear hx;cbv;refine A9 hE h (fun _ h=>?_) fun _ h=>?_
  ·cbv;refine C4 hE eAj9 h fun x3 h=>?_;cbv;refine W6 hE (g:=fun r4=>.bool r4) h (fun r4 hx=>bB x3 r4 hx) (.refl _) fun r4 h=>?_;cbv;refine A9 hE h (fun _ h=>?_) fun _ h=>?_
   ·cbv;cases h;exact⟨_,_,rfl,⟨rfl,rfl,hO⟩,.e rfl .z,rfl⟩
   cbv;cases h;exact⟨_,rfl,.e4 .z,rfl,hO⟩
  cbv;cases h;exact⟨_,_,rfl,⟨rfl,rfl,hO⟩,.z,rfl⟩
 ·exact .e4 .z
 clear hx
 rcases s2 with y5|y6
 ·rintro e l H ⟨rfl,rfl,hO⟩;cbv;cases h;exact hK hO (.refl _)
 rintro e l H ⟨rfl,rfl,hO⟩;cbv;cases h;exact hK hO (.refl _)
theorem c85 (N:Nat)(aG:List A0)(aT:V)(aS:A0→Option Bool)(bB:∀y1 q,aS y1=some q→P4 prog aT [(B6 y1)] (.bool q))(r:Bool)(h:E6 N aG aS=some r):B1 prog 85 [sr eAk0 aG,aT] (.bool r):=by
 unfold E6 at h
 refine J6 cf0 func85 call85 ntmps85 ?_;intro E H0 K hE hK hO;cbv;refine A6 hE h (c133 N aG aT aS bB) (.refl _) fun r1 h=>?_;cbv;cases h;exact hK hO (.refl _)
end Go.Ab
