/- GHCo6 GHCo7 -/
import Derived.Test.YtmfdlklcmoklhaaGreatDoorB14
set_option linter.all false
open Go.Ab.Ar (an lst nt_eq)
namespace Go.Ab
open Go.RowKit Go.Proofs Go.Proofs.Tryz L9
variable [Ar][L9]
set_option maxRecDepth 100000
def cf142 :Cf:=⟨[],[(3,23),(5,13),(10,25)],[],[],[],[]⟩
theorem c142 (N aL aA aN aH r) (h:Y6 N aL aA aN aH=some r):C0 prog 142 [.eref (C1 aL) 0,(D2 aA),sr eBd9 aN,sr eBd9 aH] (.bool r):=by
 unfold Y6 at h
 refine O7 cf142 func142 call142 ntmps142 ?_;intro E H0 K hE hK hO;cbv;refine B1 hE h (fun _ h=>?_) fun _ h=>?_
 ·cbv;refine R3 hE (g:=fun r1=>vi r1) h (c170 N aH) (.refl _) fun r1 h=>?_;cbv;refine C9 hE eBe6 h fun x2 h=>?_;cbv;refine C9 hE eBf5 h fun x3 h=>?_;cbv;refine C9 hE eBe6 h fun x4 h=>?_;cbv;cases h;exact hK hO (.refl _)
 cbv;refine B1 hE h (fun _ h=>?_) fun _ h=>?_
 ·cbv;refine R3 hE (g:=fun r5=>sr eBd9 r5) h (c169 N aN aH) (.refl _) fun r5 h=>?_;cbv;refine G1 hE ?_;cbv;refine R3 hE (g:=fun r6=>(KH r6)) h (c166 N aL r5 (Ar.len aL.dP)) (.refl _) fun r6 h=>?_;cbv;refine A8 hE h (c165 N aA.dE r6 (-1) (⟨0,0,0,0,[]⟩:B3)) (.cons (.refl _) (.cons (.refl _) (.cons (.refl _) (.cons (.agg (.cons (.refl _) (.cons (.refl _) (.cons (.refl _) (.cons (.refl _) (.cons (.lit _ (E0)) (.refl _))))))) (.refl _))))) fun r7 h=>?_;cbv;cases h;exact hK hO (.refl _)
 cbv;refine A8 hE h (c169 N aN aH) (.refl _) fun r8 h=>?_;cbv;refine C9 hE eBf5 h fun x9 h=>?_;cbv;obtain⟨s11,hx,h⟩:=bind_some h;refine K0 cf142 hE Q6 (fun s10=>[(0,.v (.eref (C1 aL) 0)),(3,.v (sr eBd9 aH)),(5,.v (.eref (E3 aA) 0)),(9,.v (sr eBd9 r8)),fi 10 s10]) (fun s10 H1=>C3 Eq H0 [] H1) (fun x e l H1=>match(generalizing:=false) x with| .inl y=>e= .exit 1∧l=[]∧C3 Eq H0 [] H1| .inr y=>e= .ret∧l=[(8,.b false)]∧C3 Eq H0 [] H1) (by kernel_rfl) ?_ hx ?_ hO ?_
 ·intro s10 H o hO h;clear hx;cbv;refine A8 hE h (c170 N aH) (.refl _) fun r12 h=>?_;cbv;refine B1 hE h (fun _ h=>?_) fun _ h=>?_
  ·cbv;refine C9 hE eBe6 h fun x13 h=>?_;cbv;refine B1 hE h (fun _ h=>?_) fun _ h=>?_
   ·cbv;refine R3 hE (g:=fun r14=>.bool r14) h (c172 N aH s10) (.refl _) fun r14 h=>?_;cbv;refine B1 hE h (fun _ h=>?_) fun _ h=>?_
    ·cbv;refine A8 hE h (c132 N aL aA.dE r8 aA.Var s10) (.refl _) fun r15 h=>?_;cbv;refine B1 hE h (fun _ h=>?_) fun _ h=>?_
     ·cbv;cases h;exact⟨_,_,rfl,⟨rfl,rfl,hO⟩,.b rfl (.z),rfl⟩
     cbv;cases h;exact⟨_,rfl,.e rfl (.e4 .z),rfl,hO⟩
    cbv;cases h;exact⟨_,rfl,.e rfl (.e4 .z),rfl,hO⟩
   cbv;cases h;exact⟨_,rfl,.e rfl (.e4 .z),rfl,hO⟩
  cbv;cases h;exact⟨_,_,rfl,⟨rfl,rfl,hO⟩,.z,rfl⟩
 ·exact .e rfl (.e4 .z)
 clear hx
 rcases s11 with y16|y17
 ·rintro e l H ⟨rfl,rfl,hO⟩;cbv;cases h;exact hK hO (.refl _)
 rintro e l H ⟨rfl,rfl,hO⟩;cbv;cases h;exact hK hO (.refl _)
def cf49 :Cf:=⟨[8,9],[(3,3)],[(39,12)],[],[],[]⟩
def K49 (N n:Nat):Prop:=∀(aL:B7) (aA:A0) (aN:List A3) (aP:Int) (r:(List (List A3))),E8 N n aL aA aN aP=some r→C0 prog 49 [.eref (C1 aL) 0,(D2 aA),sr eBd9 aN,vi aP] (sr eBe7 r)
def cf97 :Cf:=⟨[9],[(2,7),(5,8)],[],[],[(400000005,9)],[]⟩
def K97 (N n:Nat):Prop:=∀(aL:B7) (aA:A0) (aN:List A3) (aP:Int) (r:(List (List A3))),T9 N n aL aA aN aP=some r→Bp prog 97 [.eref (C1 aL) 0,(D2 aA),sr eBd9 aN,vi aP] (fun v=>FM prog v (r.map fun(x:(List A3))=>[sr eBd9 x]))
def K98 (N n:Nat):Prop:=∀(aL:B7) (aA:A0) (aN:List A3) (aP:Int) (r:(List (List A3))),U0 N n aL aA aN aP=some r→Bp prog 98 [.eref (C1 aL) 0,(D2 aA),sr eBd9 aN,vi aP] (fun v=>FM prog v (r.map fun(x:(List A3))=>[sr eBd9 x]))
def K99 (N n:Nat):Prop:=∀(aL:B7) (aA:A0) (aN:List A3) (aP:Int) (r:(List (List A3))),U1 N n aL aA aN aP=some r→Bp prog 99 [.eref (C1 aL) 0,(D2 aA),sr eBd9 aN,vi aP] (fun v=>FM prog v (r.map fun(x:(List A3))=>[sr eBd9 x]))
def AZ2 (N n:Nat):Prop:=∀(aL:B7) (aA:A0) (aN:List A3) (aP:Int) (r:(List (List A3))),S2 N n aL aA aN aP=some r→Bp prog 100 [.eref (C1 aL) 0,(D2 aA),sr eBd9 aN,vi aP] (fun v=>FM prog v (r.map fun(x:(List A3))=>[sr eBd9 x]))
def AZ1 (N n:Nat):Prop:=∀(aL:B7) (aA:A0) (aN:List A3) (aP:Int) (r:(List (List A3))),J9 N n aL aA aN aP=some r→Bp prog 101 [.eref (C1 aL) 0,(D2 aA),sr eBd9 aN,vi aP] (fun v=>FM prog v (r.map fun(x:(List A3))=>[sr eBd9 x]))
def cf134 :Cf:=⟨[1000009],[],[],[],[],[]⟩
def AP9 (N n:Nat):Prop:=∀(aL:B7) (aA:A0) (aN:List A3) (aP:Int) (cH:V) (bX:(List A3)→Int→Option (List (List A3))) (cV:∀y1 y2 q,bX y1 y2=some q→Y5 prog cH [sr eBd9 y1,vi y2] (sr eBe7 q)) (cX:OneV cH) (r:(List (List A3))),S1 N n aL aA aN aP bX=some r→Bp prog 134 [.eref (C1 aL) 0,(D2 aA),sr eBd9 aN,vi aP,cH] (fun v=>FM prog v (r.map fun(x:(List A3))=>[sr eBd9 x]))
def AY7 (N n:Nat):Prop:=∀(aN:List A3) (aP:Int) (aJ:B7) (aO:A0) (r:(List (List A3))),Q3 N n aN aP aJ aO=some r→C0 prog 135 [sr eBd9 aN,vi aP,.eref [.eref (C1 aJ) 0] 0,.eref (E3 aO) 0] (sr eBe7 r)
def AY6 (N n:Nat):Prop:=∀(aF:A0) (aJ:B7) (aO:List A3) (aU:Int) (r:(List (List A3))),Y7 N n aF aJ aO aU=some r→Hh prog 136 (fun yv=>[yv,.eref (E3 aF) 0,.eref [.eref (C1 aJ) 0] 0,.eref [sr eBd9 aO] 0,.eref [vi aU] 0]) (List.map (fun(x:(List A3))=>[sr eBd9 x]) r) rbN
def AY5 (N n:Nat):Prop:=∀(aF:A0) (aJ:B7) (aO:List A3) (aU:Int) (r:(List (List A3))),Y8 N n aF aJ aO aU=some r→Hh prog 137 (fun yv=>[yv,.eref (E3 aF) 0,.eref [.eref (C1 aJ) 0] 0,.eref [sr eBd9 aO] 0,.eref [vi aU] 0]) (List.map (fun(x:(List A3))=>[sr eBd9 x]) r) rbN
def cf139 :Cf:=⟨[1000005],[(1,10),(6,8)],[],[],[],[]⟩
def AY4 (N n:Nat):Prop:=∀(aF:B7) (aJ:A0) (aO:List A3) (aU:Int) (r:(List (List A3))),X4 N n aF aJ aO aU=some r→Hh prog 139 (fun yv=>[yv,.eref [.eref (C1 aF) 0] 0,.eref (E3 aJ) 0,.eref [sr eBd9 aO] 0,.eref [vi aU] 0]) (List.map (fun(x:(List A3))=>[sr eBd9 x]) r) rbN
def AY3 (N n:Nat):Prop:=∀(aN:List A3) (aP:Int) (aJ:B7) (aO:A0) (r:(List (List A3))),N5 N n aN aP aJ aO=some r→C0 prog 140 [sr eBd9 aN,vi aP,.eref [.eref (C1 aJ) 0] 0,.eref (E3 aO) 0] (sr eBe7 r)
def cf141 :Cf:=⟨[],[(0,10)],[],[],[],[]⟩
def AY2 (N n:Nat):Prop:=∀(aF:B7) (aJ:A0) (aO:List A3) (aU:Int) (r:(List (List A3))),X3 N n aF aJ aO aU=some r→Hh prog 141 (fun yv=>[yv,.eref [.eref (C1 aF) 0] 0,.eref (E3 aJ) 0,.eref [sr eBd9 aO] 0,.eref [vi aU] 0]) (List.map (fun(x:(List A3))=>[sr eBd9 x]) r) rbN
def cf168 :Cf:=⟨[],[(3,10)],[],[],[],[]⟩
def AY1 (N n:Nat):Prop:=∀(aF:B7) (aJ:A0) (aO:List A3) (aU:Int) (cB:V) (cE:(List A3)→Int→Option (List (List A3))) (cY:∀y1 y2 q,cE y1 y2=some q→Y5 prog cB [sr eBd9 y1,vi y2] (sr eBe7 q)) (r:(List (List A3))),X2 N n aF aJ aO aU cE=some r→Hh prog 168 (fun yv=>[yv,.eref [.eref (C1 aF) 0] 0,.eref (E3 aJ) 0,.eref [sr eBd9 aO] 0,.eref [vi aU] 0,.eref [cB] 0]) (List.map (fun(x:(List A3))=>[sr eBd9 x]) r) rbN
theorem k49 (N n:Nat) (ih97:K97 N n) (ih98:K98 N n) (ih99:K99 N n) (ih100:AZ2 N n) (ih101:AZ1 N n):K49 N (n+1):=by
 intro aL aA aN aP r h
 unfold E8 at h
 refine O7 cf49 func49 call49 ntmps49 ?_;intro E H0 K hE hK hO;cbv;refine D3 hE hO fun b1 H hO=>?_;cbv;refine D3 hE hO fun b2 H hO=>?_;cbv;refine AR6 hE .string V.str V.bool hO fun m3 o4 H ho4 hO=>?_;cbv;refine R3 hE (g:=fun r5=>.agg [.func (.func 96) [] [],.func (.func 97) [] [],.func (.func 98) [] [],.func (.func 99) [] [],.func (.func 100) [] [],.func (.func 101) [] [],.func (.func 101) [] [],.func (.func 101) [] []]) h (c71 N) (.refl _) fun r5 h=>?_;cbv;refine AM2 hE (Good:=fun v6 (f7:B7→A0→(List A3)→Int→Option (List (List A3)))=>∀y1 y2 y3 y4 q,f7 y1 y2 y3 y4=some q→Ac6 prog v6 [.eref (C1 y1) 0,(D2 y2),sr eBd9 y3,vi y4] (fun w=>FM prog w (q.map fun(x:(List A3))=>[sr eBd9 x]))) (xs:=[.func (.func 96) [] [],.func (.func 97) [] [],.func (.func 98) [] [],.func (.func 99) [] [],.func (.func 100) [] [],.func (.func 101) [] [],.func (.func 101) [] [],.func (.func 101) [] []]) (.cons (fun y1 y2 y3 y4 r hx=>Bp.value (F:=[]) (C:=[]) (c96 N y1 y2 y3 y4 r hx)) (.cons (fun y1 y2 y3 y4 r hx=>Bp.value (F:=[]) (C:=[]) (ih97 y1 y2 y3 y4 r hx)) (.cons (fun y1 y2 y3 y4 r hx=>Bp.value (F:=[]) (C:=[]) (ih98 y1 y2 y3 y4 r hx)) (.cons (fun y1 y2 y3 y4 r hx=>Bp.value (F:=[]) (C:=[]) (ih99 y1 y2 y3 y4 r hx)) (.cons (fun y1 y2 y3 y4 r hx=>Bp.value (F:=[]) (C:=[]) (ih100 y1 y2 y3 y4 r hx)) (.cons (fun y1 y2 y3 y4 r hx=>Bp.value (F:=[]) (C:=[]) (ih101 y1 y2 y3 y4 r hx)) (.cons (fun y1 y2 y3 y4 r hx=>Bp.value (F:=[]) (C:=[]) (ih101 y1 y2 y3 y4 r hx)) (.cons (fun y1 y2 y3 y4 r hx=>Bp.value (F:=[]) (C:=[]) (ih101 y1 y2 y3 y4 r hx)) (.nil))))))))) h fun v6 f7 hv6 h=>?_;cbv;refine AA5 hE h (fun r8 hx=>hv6 aL aA aN aP r8 hx) (.refl _) fun r8 v9 hv9 h=>?_;cbv;replace hO:=hO.tl0 (t:=.nil) rfl;obtain⟨o16,hx,h⟩:=bind_some h;replace hO:=hO.cast (L':=[.tl .nil,.blk m3 (.obj o4),cb b2 [.sl (lst eBe7 ([])) .nil],cb b1 [.sl [] .nil]]) (by simp only[ob,cb,sr,←E0]<;>rfl);refine OF cf49 hE Q6 (ι:=Unit) (enc:=fun(x:(List A3))=>[sr eBd9 x]) (fun(s11:(List (ByteArray×Bool))×(List (List A3))) F H=>∃g:G3×Obj,(Au g.1∧Mok .string V.str V.bool g.2 s11.1)∧C3 Eq F [.tl g.1,.blk m3 (.obj g.2),cb b2 [.sl (lst eBe7 s11.2) g.1],cb b1 [.sl [] .nil]] H) (fun(r:((List (ByteArray×Bool))×(List (List A3)))) e F H=>∃g:G3×Obj,(e= .ret∧Au g.1∧Mok .string V.str V.bool g.2 r.1)∧C3 Eq F [.tl g.1,.blk m3 (.obj g.2),cb b2 [.sl (lst eBe7 r.2) g.1],cb b1 [.sl [] .nil]] H) (fun i s11 y10=>[(4,.v (.eref [.eref (C1 aL) 0] 0)),(8,.v (.ref b1 0)),(9,.v (.ref b2 0)),(10,.v (.eref [.map m3] 0)),(12,.v (sr eBd9 y10))]) (fun i s11 y10 F H=>∃g:G3×Obj,(Au g.1∧Mok .string V.str V.bool g.2 s11.1)∧C3 Eq F [.tl g.1,.blk m3 (.obj g.2),cb b2 [.sl (lst eBe7 s11.2) g.1],cb b1 [.sl [] .nil]] H) (fun _=>H6.ex fun _=>C3.stable G4 _) (fun _ _=>H6.ex fun _=>C3.stable G4 _) (fun _ _ _=>H6.ex fun _=>C3.stable G4 _) hv9 hx (⟨⟨.nil,o4⟩,⟨trivial,ho4⟩,hO⟩) (by decide) (fun _=>rfl) (by kernel_rfl) (by kernel_rfl) ?_ ?_ ?_ ?_
 ·rintro E i13 y10 s11 F12 H hE ⟨⟨t14,q15⟩,⟨ht14,hq15⟩,hO⟩;clear hx h;cbv;exact⟨(),⟨⟨t14,q15⟩,⟨ht14,hq15⟩,hO⟩,.e rfl (.e4 .z),rfl⟩
 ·rintro E i13 _ y10 s11 F12 H o hE hF h ⟨⟨t14,q15⟩,⟨ht14,hq15⟩,hO⟩;clear hx;cbv;refine A8 hE h (c72 N y10) (.refl _) fun r17 h=>?_;cbv;refine ZH hE (kt:=9) (et:=4) (by kernel_rfl) (by kernel_rfl) XG (false:Bool) (by kernel_rfl) rfl hO hq15 1 rfl h fun r18 h=>?_;cbv;refine B1 hE h (fun _ h=>?_) fun _ h=>?_
  ·cbv;cases h;exact⟨_,rfl,⟨⟨t14,q15⟩,⟨ht14,hq15⟩,hO⟩⟩
  cbv;refine ZG hE (kt:=9) (et:=4) (by kernel_rfl) (by kernel_rfl) XG PL hO hq15 1 rfl h fun l20 o19 H ho19 h hO=>?_;cbv;refine B2 hE hO 2 rfl ?_;cbv;refine BS (f:=eBe7) hE LE (by decide) hO 0 rfl ht14 (l:=s11.2) (m:=[y10]) (.refl _) (.lstc (.eq (eBf6 y10) (.refl _)) (.lst0)) h fun l22 t21 H hO ht21 h=>?_;cbv;refine A9 hE hO 2 rfl rfl fun H hO=>?_;cbv;refine B2 hE hO 2 rfl ?_;cbv;refine G1 hE ?_;cbv;obtain⟨s23,hx,h⟩:=bind_some h;refine Y4 cf49 hE Q6 (fun e l H1=>e= .normal∧l=[(4,.v (.eref [.eref (C1 aL) 0] 0)),(8,.v (.ref b1 0))]∧C3 Eq F12 [.tl t21,.blk m3 (.obj o19),cb b2 [.sl (lst eBe7 l22) t21],cb b1 [.sl [] .nil]] H1) (by kernel_rfl) ?_ ?_
  ·clear h;have h:=hx;clear hx;cbv;refine B1 hE h (fun _ h=>?_) fun _ h=>?_
   ·cbv;cases h
   cbv;cases h;exact⟨_,⟨rfl,rfl,hO⟩,.e2 .z,rfl⟩
  clear hx;rintro e l H ⟨rfl,rfl,hO⟩;cbv;refine B1 hE h (fun _ h=>?_) fun _ h=>?_
  ·cbv;refine A9 hE hO 3 rfl rfl fun H hO=>?_;cbv;cases h;exact⟨_,rfl,rfl,⟨⟨t21,o19⟩,⟨rfl,⟨ht21,ho19⟩⟩,hO⟩⟩
  cbv;cases h;exact⟨_,rfl,⟨⟨t21,o19⟩,⟨ht21,ho19⟩,hO⟩⟩
 ·rintro d24 s28 H rfl hd ⟨⟨t29,q30⟩,⟨ht29,hq30⟩,hO⟩;have hO:C3 Eq H0 [.tl t29,.blk m3 (.obj q30),cb b2 [.sl (lst eBe7 s28.2) t29],cb b1 [.sl [] .nil],.blk d24 DB] H:=C3.dblk hd hO;clear hd;clear hx;cbv;refine B2 hE hO 2 rfl ?_;cbv;refine A9 hE hO 3 rfl rfl fun H hO=>?_;cbv;refine Ia hE hO 4 rfl fun H hO=>?_;cbv;refine B2 hE hO 3 rfl ?_;cbv;cases h;exact hK hO (.ro _ _)
 rintro d24 y31 e H rfl hd hX;clear hx
 rcases hX with⟨⟨t32,q33⟩,⟨rfl,ht32,hq33⟩,hO⟩
 have hO:C3 Eq H0 [.tl t32,.blk m3 (.obj q33),cb b2 [.sl (lst eBe7 y31.2) t32],cb b1 [.sl [] .nil],.blk d24 DB] H:=C3.dblk hd hO;clear hd;cbv;refine Ia hE hO 4 rfl fun H hO=>?_;cbv;refine B2 hE hO 3 rfl ?_;cbv;cases h;exact hK hO (.lit _ (E0))
theorem k97 (N n:Nat)(ih49:K49 N n)(ih134:AP9 N n)(ih135:AY7 N n):K97 N (n+1):=by
 intro aL aA aN aP r h
 unfold T9 at h
 refine P7 cf97 Q6 func97 (by rfl) (by kernel_rfl) call97 ntmps97 (by rfl) (by rfl) ?_;intro E H0 K hE hK;have hO:C3 Eq H0 [] H0:=.start G4 rfl;cbv;refine G1 hE ?_;cbv;refine B1 hE h (fun _ h=>?_) fun _ h=>?_
 ·cbv;refine C9 hE eBe1 h fun x1 h=>?_;cbv;refine A8 hE h (ih49 aL x1 aN aP) (.refl _) fun r2 h=>?_;cbv;refine De hE h (c133 N r2) (.refl _) fun r3 v4 hv4 h=>?_;cbv;cases h;exact hK _ _ _ hO hv4
 cbv;refine D3 hE hO fun b5 H hO=>?_;cbv;refine A9 hE hO 0 rfl rfl fun H hO=>?_;cbv;refine Ko hE (f:=eBe0) AR h fun l6 t7 h=>?_;cbv;refine A9 hE hO 0 rfl rfl fun H hO=>?_;cbv;refine AV2 hE hO 0 rfl (.cons (.refl _) (.cons (.ro _ _) (.refl _))) fun H hO=>?_;cbv;refine C9 hE eBe1 h fun x8 h=>?_;cbv;refine De hE h (fun r9 hx=>ih134 aL x8 aN aP (.func (.func 135) [] [.eref [.eref (C1 aL) 0] 0,.eref [vi aA.Op,sr eBe0 l6,vi aA.Typ,vi aA.Var,vi aA.dG,vi aA.Span,vi aA.dE.Op,sr eBe5 aA.dE.dD,vi aA.dE.Var,vi aA.dE.Field,vi aA.dE.Kind,vi aA.dE.Value.Kind,vi aA.dE.Value.Num,.str aA.dE.Value.Text] 0]) (fun y1 y2=>Q3 N n y1 y2 aL ({aA with dD:=l6})) (fun y1 y2 r hx=>C0.value (F:=[]) (C:=[.eref [.eref (C1 aL) 0] 0,.eref [vi aA.Op,sr eBe0 l6,vi aA.Typ,vi aA.Var,vi aA.dG,vi aA.Span,vi aA.dE.Op,sr eBe5 aA.dE.dD,vi aA.dE.Var,vi aA.dE.Field,vi aA.dE.Kind,vi aA.dE.Value.Kind,vi aA.dE.Value.Num,.str aA.dE.Value.Text] 0]) (ih135 y1 y2 aL ({aA with dD:=l6}) r hx)) ⟨rfl,rfl⟩ r9 hx) (.refl _) fun r9 v10 hv10 h=>?_;cbv;cases h;exact hK _ _ _ hO hv10
theorem k98 (N n:Nat)(ih136:AY6 N n):K98 N (n+1):=by
 intro aL aA aN aP r h
 unfold U0 at h
 refine P7 cf0 Q6 func98 (by rfl) (by kernel_rfl) call98 ntmps98 (by rfl) (by rfl) ?_;intro E H0 K hE hK;have hO:C3 Eq H0 [] H0:=.start G4 rfl;cbv;exact hK _ _ _ hO (S5 call136 (ih136 aA aL aN aP r h))
theorem k99 (N n:Nat)(ih137:AY5 N n):K99 N (n+1):=by
 intro aL aA aN aP r h
 unfold U1 at h
 refine P7 cf0 Q6 func99 (by rfl) (by kernel_rfl) call99 ntmps99 (by rfl) (by rfl) ?_;intro E H0 K hE hK;have hO:C3 Eq H0 [] H0:=.start G4 rfl;cbv;exact hK _ _ _ hO (S5 call137 (ih137 aA aL aN aP r h))
theorem k100 (N n:Nat)(ih139:AY4 N n):AZ2 N (n+1):=by
 intro aL aA aN aP r h
 unfold S2 at h
 refine P7 cf0 Q6 func100 (by rfl) (by kernel_rfl) call100 ntmps100 (by rfl) (by rfl) ?_;intro E H0 K hE hK;have hO:C3 Eq H0 [] H0:=.start G4 rfl;cbv;exact hK _ _ _ hO (S5 call139 (ih139 aL aA aN aP r h))
theorem k101 (N n:Nat)(ih141:AY2 N n):AZ1 N (n+1):=by
 intro aL aA aN aP r h
 unfold J9 at h
 refine P7 cf0 Q6 func101 (by rfl) (by kernel_rfl) call101 ntmps101 (by rfl) (by rfl) ?_;intro E H0 K hE hK;have hO:C3 Eq H0 [] H0:=.start G4 rfl;cbv;exact hK _ _ _ hO (S5 call141 (ih141 aL aA aN aP r h))
theorem k134 (N n:Nat)(ih168:AY1 N n):AP9 N (n+1):=by
 intro aL aA aN aP cH bX cV cX r h
 unfold S1 at h
 refine P7 cf134 Q6 func134 (by rfl) (by kernel_rfl) call134 ntmps134 (by rfl) (by rfl) ?_;intro E H0 K hE hK;have hO:C3 Eq H0 [] H0:=.start G4 rfl;cbv;refine Fv hE cX ?_;cbv;exact hK _ _ _ hO (S5 call168 (ih168 aL aA aN aP cH bX cV r h))
theorem k135 (N n:Nat)(ih49:K49 N n):AY7 N (n+1):=by
 intro aN aP aJ aO r h
 unfold Q3 at h
 refine O7 cf0 func135 call135 ntmps135 ?_;intro E H0 K hE hK hO;cbv;refine A8 hE h (ih49 aJ aO aN aP) (.refl _) fun r1 h=>?_;cbv;cases h;exact hK hO (.refl _)
theorem k136 (N n:Nat) (ih49:K49 N n):AY6 N (n+1):=by
 intro aF aJ aO aU r h
 unfold Y7 at h
 obtain⟨⟨w0,u0⟩,h1,hr⟩:=bind_some h;clear h;have hr:=M6 hr;subst hr;have h:=h1;clear h1;refine O4 cf0 Q6 func136 (by rfl) (by kernel_rfl) call136 ntmps136 (by rfl) (fun _=>rfl) ?_;intro yv I D hI hD hy tl F E H K hE hO hK hKD
 have hO:C3 (I (List.map (fun(x:(List A3))=>[sr eBd9 x]) (w0++[])++tl)) F [] H:=by rw[F2];exact hO
 cbv;refine G1 hE ?_;cbv;obtain⟨w2,w3,s6,hx,h1,he⟩:=N4 h;clear h;have h:=h1;clear h1
 rw[he,D4]at hO
 clear he;refine Fx cf0 hE Q6 (γ:=Unit) (fun s1 g=>[(0,.v (yv)),(2,.v (.eref [.eref (C1 aJ) 0] 0)),(3,.v (.eref [sr eBd9 aO] 0)),(4,.v (.eref [vi aU] 0)),(11,.v (sr eBe0 aF.dD)),fi 12 (Ar.len aF.dD),fi 13 s1]) (fun s1 g w H1=>C3 (I (List.map (fun(x:(List A3))=>[sr eBd9 x]) w++tl)) F [] H1) (fun x e l w H1=>e= .exit 0∧l=[]∧C3 (I (List.map (fun(x:(List A3))=>[sr eBd9 x]) w++tl)) F [] H1) (fun e l H1=>(e= .ret∧l=[]∧C3 D F [] H1)) (by kernel_rfl) ?_ (w':=w3++[]) () hx ?_ ?_ ?_ ?_
 ·rintro s1 _ w4 w5 H o hO h;clear hx
  skip
  cbv;refine B1 hE h (fun _ h=>?_) fun _ h=>?_
  ·cbv;refine C9 hE eBe1 h fun x7 h=>?_;cbv;refine A8 hE h (ih49 aJ x7 aO aU) (.refl _) fun r8 h=>?_;cbv;refine G1 hE ?_;cbv;obtain⟨w10,w11,s14,hx,h1,he⟩:=N4 h;clear h;have h:=h1;clear h1
   rw[he,D4]at hO
   clear he;refine Fx cf0 hE Q6 (γ:=Unit) (fun s9 g=>[(0,.v (yv)),(2,.v (.eref [.eref (C1 aJ) 0] 0)),(3,.v (.eref [sr eBd9 aO] 0)),(4,.v (.eref [vi aU] 0)),(11,.v (sr eBe0 aF.dD)),fi 12 (Ar.len aF.dD),fi 13 s1,(21,.v (sr eBe7 r8)),fi 22 (Ar.len r8),fi 23 s9]) (fun s9 g w H1=>C3 (I (List.map (fun(x:(List A3))=>[sr eBd9 x]) w++tl)) F [] H1) (fun x e l w H1=>e= .exit 2∧l=[(0,.v (yv)),(2,.v (.eref [.eref (C1 aJ) 0] 0)),(3,.v (.eref [sr eBd9 aO] 0)),(4,.v (.eref [vi aU] 0)),(11,.v (sr eBe0 aF.dD)),fi 12 (Ar.len aF.dD),fi 13 s1]∧C3 (I (List.map (fun(x:(List A3))=>[sr eBd9 x]) w++tl)) F [] H1) (fun e l H1=>(e= .ret∧l=[]∧C3 D F [] H1)) (by kernel_rfl) ?_ (w':=w11++w5) () hx ?_ ?_ ?_ ?_
   ·rintro s9 _ w12 w13 H o hO h;clear hx
    skip
    cbv;refine B1 hE h (fun _ h=>?_) fun _ h=>?_
    ·cbv;refine C9 hE eBf6 h fun x15 h=>?_;cbv;obtain⟨w16,h1,he⟩:=S8 h;clear h;have h:=h1;clear h1
     rw[he,D4]at hO
     clear he;have hO:C3 (I ([sr eBd9 x15]::(List.map (fun(x:(List A3))=>[sr eBd9 x]) (w16++w13)++tl))) F [] _:=hO;refine CI hE hI hD hy hO (.refl _) (fun H hO=>?_) (fun H hO=>?_)
     ·cbv;refine Id hE (nt_eq _) ?_;cbv;obtain⟨hw,rfl⟩:=D0 h
      rw[←hw]at hO
      exact⟨_,(),rfl,.e2 (.e4 (.e4 .z)),rfl,hO⟩
     clear h;cbv;refine Ic hE (nt_eq _) ?_;cbv;exact .inr ⟨_,⟨rfl,rfl,hO⟩,.z,rfl⟩
    cbv;obtain⟨hw,rfl⟩:=D0 h
    rw[←hw]at hO
    exact .inl ⟨_,_,rfl,⟨rfl,rfl,hO⟩,.e rfl (.e2 (.e4 .z)),rfl⟩
   ·exact .e2 (.e4 (.e4 .z))
   ·exact hO
   ·rintro e l H ⟨rfl,rfl,hO⟩;clear hx;cbv;obtain⟨hw,rfl⟩:=D0 h
    rw[←hw]at hO
    exact⟨_,(),rfl,.e rfl (.e2 (.e4 .z)),rfl,hO⟩
   rintro e l H hX;obtain⟨rfl,rfl,hO⟩:=hX;clear h;cbv;exact .inr ⟨_,⟨rfl,rfl,hO⟩,.z,rfl⟩
  cbv;obtain⟨hw,rfl⟩:=D0 h
  rw[←hw]at hO
  exact .inl ⟨_,_,rfl,⟨rfl,rfl,hO⟩,.z,rfl⟩
 ·exact .e rfl (.e2 (.e4 .z))
 ·exact hO
 ·rintro e l H ⟨rfl,rfl,hO⟩;clear hx;cbv;obtain⟨hw,_⟩:=D0 h
  rw[←hw]at hO
  exact hK _ _ _ hO trivial
 rintro e l H hX;obtain⟨rfl,rfl,hO⟩:=hX;clear h;cbv;exact hKD _ _ _ hO trivial
theorem k137 (N n:Nat) (ih49:K49 N n):AY5 N (n+1):=by
 intro aF aJ aO aU r h
 unfold Y8 at h
 obtain⟨⟨w0,u0⟩,h1,hr⟩:=bind_some h;clear h;have hr:=M6 hr;subst hr;have h:=h1;clear h1;refine O4 cf0 Q6 func137 (by rfl) (by kernel_rfl) call137 ntmps137 (by rfl) (fun _=>rfl) ?_;intro yv I D hI hD hy tl F E H K hE hO hK hKD
 have hO:C3 (I (List.map (fun(x:(List A3))=>[sr eBd9 x]) (w0++[])++tl)) F [] H:=by rw[F2];exact hO
 cbv;refine G1 hE ?_;cbv;replace hO:=hO.tl0 (t:=.nil) rfl;obtain⟨w3,w4,s7,hx,h1,he⟩:=N4 h;clear h;have h:=h1;clear h1
 rw[he,D4]at hO
 clear he;refine Fx cf0 hE Q6 (γ:=G3) (fun s1 g=>[(0,.v (yv)),(2,.v (.eref [.eref (C1 aJ) 0] 0)),(3,.v (.eref [sr eBd9 aO] 0)),(4,.v (.eref [vi aU] 0)),(6,.v (.sl (lst eBg0 s1.1) g)),(10,.v (sr eBe0 aF.dD)),fi 11 (Ar.len aF.dD),fi 12 s1.2]) (fun s1 g w H1=>Au g∧C3 (I (List.map (fun(x:(List A3))=>[sr eBd9 x]) w++tl)) F [.tl g] H1) (fun x e l w H1=>∃u1:G3,Au u1∧e= .exit 0∧l=[(0,.v (yv)),(2,.v (.eref [.eref (C1 aJ) 0] 0)),(6,.v (.sl (lst eBg0 x) u1))]∧C3 (I (List.map (fun(x:(List A3))=>[sr eBd9 x]) w++tl)) F [.tl u1] H1) (fun e l H1=>False) (by kernel_rfl) ?_ (w':=w4++[]) .nil hx ?_ ?_ ?_ ?_
 ·rintro s1 t2 w5 w6 H o ⟨ht2,hO⟩ h;clear hx
  skip
  cbv;refine B1 hE h (fun _ h=>?_) fun _ h=>?_
  ·cbv;refine C9 hE eBe1 h fun x8 h=>?_;cbv;refine A8 hE h (ih49 aJ x8 aO aU) (.refl _) fun r9 h=>?_;cbv;refine BS (f:=eBg0) hE FT (by decide) hO 0 rfl ht2 (l:=s1.1) (m:=[r9]) (.refl _) (.lstc (.eq (eBh2 r9) (.refl _)) (.lst0)) h fun l11 t10 H hO ht10 h=>?_;cbv;obtain⟨hw,rfl⟩:=D0 h
   rw[←hw]at hO
   exact⟨_,t10,rfl,.e4 (.e4 .z),rfl,⟨ht10,hO⟩⟩
  cbv;obtain⟨hw,rfl⟩:=D0 h
  rw[←hw]at hO
  exact .inl ⟨_,_,rfl,⟨t2,ht2,rfl,rfl,hO⟩,.e rfl (.e2 .z),rfl⟩
 ·exact .e4 (.v (.slt _ (.lst0)) (.e rfl (.e rfl (.e rfl (.z)))))
 ·exact⟨trivial,hO⟩
 ·rintro e l H ⟨t12,ht12,rfl,rfl,hO⟩;clear hx;cbv;refine B1 hE h (fun _ h=>?_) fun _ h=>?_
  ·cbv;obtain⟨l13,hl,h⟩:=bind_some h;obtain⟨w14,h1,he⟩:=S8 h;clear h;have h:=h1;clear h1
   rw[he,D4]at hO
   clear he
   rw[Z5,D4]at hO
   refine VJ hE hI hD hy (c138 N N s7 ([]) l13 hl) hO (.cons (.ro _ _) (.cons (.lit _ (E0)) (.refl _))) (fun v H hb hO=>?_) (fun v H hb hO=>?_)
   ·cases hb;clear hl;cbv;obtain⟨hw,_⟩:=D0 h
    rw[←hw]at hO
    exact hK _ _ _ hO trivial
   cases hb;clear h hl;cbv;exact hKD _ _ _ hO trivial
  cbv;obtain⟨hw,_⟩:=D0 h
  rw[←hw]at hO
  exact hK _ _ _ hO trivial
 rintro e l H hX;exact hX.elim
theorem k139 (N n:Nat) (ih49:K49 N n) (ih134:AP9 N n) (ih140:AY3 N n):AY4 N (n+1):=by
 intro aF aJ aO aU r h
 unfold X4 at h
 obtain⟨⟨w0,u0⟩,h1,hr⟩:=bind_some h;clear h;have hr:=M6 hr;subst hr;have h:=h1;clear h1;refine O4 cf139 Q6 func139 (by rfl) (by kernel_rfl) call139 ntmps139 (by rfl) (fun _=>rfl) ?_;intro yv I D hI hD hy tl F E H K hE hO hK hKD
 have hO:C3 (I (List.map (fun(x:(List A3))=>[sr eBd9 x]) (w0++[])++tl)) F [] H:=by rw[F2];exact hO
 cbv;refine Fv hE hy.1 ?_;cbv;refine C9 hE eBe1 h fun x1 h=>?_;cbv;refine R3 hE (g:=fun r2=>sr eBe7 r2) h (ih49 aF x1 aO aU) (.refl _) fun r2 h=>?_;cbv;refine G1 hE ?_;cbv;obtain⟨w4,w5,s8,hx,h1,he⟩:=N4 h;clear h;have h:=h1;clear h1
 rw[he,D4]at hO
 clear he;refine Fx cf139 hE Q6 (γ:=Unit) (fun s3 g=>[(1,.v (.eref [.eref (C1 aF) 0] 0)),(2,.v (.eref (E3 aJ) 0)),(3,.v (.eref [sr eBd9 aO] 0)),(4,.v (.eref [vi aU] 0)),(5,.v (.eref [yv] 0)),(16,.v (sr eBe7 r2)),fi 17 (Ar.len r2),fi 18 s3]) (fun s3 g w H1=>C3 (I (List.map (fun(x:(List A3))=>[sr eBd9 x]) w++tl)) F [] H1) (fun x e l w H1=>match(generalizing:=false) x with| .inl y=>e= .exit 0∧l=[(1,.v (.eref [.eref (C1 aF) 0] 0)),(2,.v (.eref (E3 aJ) 0)),(3,.v (.eref [sr eBd9 aO] 0)),(4,.v (.eref [vi aU] 0)),(5,.v (.eref [yv] 0))]∧C3 (I (List.map (fun(x:(List A3))=>[sr eBd9 x]) w++tl)) F [] H1| .inr y=>e= .ret∧l=[]∧C3 (I (List.map (fun(x:(List A3))=>[sr eBd9 x]) w++tl)) F [] H1) (fun e l H1=>(e= .ret∧l=[]∧C3 D F [] H1)) (by kernel_rfl) ?_ (w':=w5++[]) () hx ?_ ?_ ?_ ?_
 ·rintro s3 _ w6 w7 H o hO h;clear hx
  skip
  cbv;refine B1 hE h (fun _ h=>?_) fun _ h=>?_
  ·cbv;refine C9 hE eBf6 h fun x9 h=>?_;cbv;refine B1 hE h (fun _ h=>?_) fun _ h=>?_
   ·cbv;obtain⟨hw,rfl⟩:=D0 h
    rw[←hw]at hO
    exact .inl ⟨_,_,rfl,⟨rfl,rfl,hO⟩,.z,rfl⟩
   cbv;obtain⟨w10,h1,he⟩:=S8 h;clear h;have h:=h1;clear h1
   rw[he,D4]at hO
   clear he;have hO:C3 (I ([sr eBd9 x9]::(List.map (fun(x:(List A3))=>[sr eBd9 x]) (w10++w7)++tl))) F [] _:=hO;refine CI hE hI hD hy hO (.refl _) (fun H hO=>?_) (fun H hO=>?_)
   ·cbv;refine Id hE (nt_eq _) ?_;cbv;obtain⟨hw,rfl⟩:=D0 h
    rw[←hw]at hO
    exact⟨_,(),rfl,.e4 (.e4 .z),rfl,hO⟩
   clear h;cbv;refine Ic hE (nt_eq _) ?_;cbv;exact .inr ⟨_,⟨rfl,rfl,hO⟩,.z,rfl⟩
  cbv;obtain⟨hw,rfl⟩:=D0 h
  rw[←hw]at hO
  exact .inl ⟨_,_,rfl,⟨rfl,rfl,hO⟩,.e rfl (.e4 .z),rfl⟩
 ·exact .e4 (.e4 .z)
 ·exact hO
 ·rintro e l H hX;clear hx
  rcases s8 with y11|y25
  ·obtain⟨rfl,rfl,hO⟩:=hX;cbv;refine C9 hE eBe1 h fun x12 h=>?_;cbv;refine De hE h (fun r13 hx=>ih134 aF x12 aO aU (.func (.func 140) [] [.eref [.eref (C1 aF) 0] 0,.eref (E3 aJ) 0]) (fun y1 y2=>N5 N n y1 y2 aF aJ) (fun y1 y2 r hx=>C0.value (F:=[]) (C:=[.eref [.eref (C1 aF) 0] 0,.eref (E3 aJ) 0]) (ih140 y1 y2 aF aJ r hx)) ⟨rfl,rfl⟩ r13 hx) (.refl _) fun r13 v14 hv14 h=>?_;cbv;obtain⟨w18,w19,o22,hx,h1,he⟩:=N4 h;clear h;have h:=h1;clear h1
   rw[he,D4]at hO
   clear he;refine OE cf139 hE Q6 (ι:=Unit) (σ:=Unit) (R:=Unit) (enc:=fun(x:(List A3))=>[sr eBd9 x]) (fun _ w F1 H=>C3 (I (List.map (fun(x:(List A3))=>[sr eBd9 x]) w++tl)) F1 [] H) (fun _ e w F1 H=>False) (fun e F1 H=>e= .ret∧C3 D F1 [] H) (fun i _ y15=>[(5,.v (.eref [yv] 0)),(8,.v (sr eBd9 y15))]) (fun i _ y15 w F1 H=>C3 (I (List.map (fun(x:(List A3))=>[sr eBd9 x]) w++tl)) F1 [] H) (fun _ _=>C3.stable (hI _) _) (fun _ _ _=>⟨fun h=>h.elim,fun _ _ h=>h.elim⟩) (fun _=>H6.con (C3.stable hD _)) (fun _ _ _ _=>C3.stable (hI _) _) hv14 hx (w':=w19++[]) hO (by decide) (fun _=>rfl) (by kernel_rfl) (by kernel_rfl) ?_ ?_ ?_ ?_ ?_
   ·rintro E i17 y15 _ w F16 H hE hO;clear hx h;cbv;exact⟨(),hO,.e2 .z,rfl⟩
   ·rintro E i17 _ y15 _ w20 w21 F16 H o hE hF h hO;clear hx;cbv;obtain⟨w23,h1,he⟩:=S8 h;clear h;have h:=h1;clear h1
    rw[he,D4]at hO
    clear he;have hO:C3 (I ([sr eBd9 y15]::(List.map (fun(x:(List A3))=>[sr eBd9 x]) (w23++w21)++tl))) F16 [] _:=hO;refine CI hE hI hD hy hO (.refl _) (fun H hO=>?_) (fun H hO=>?_)
    ·cbv;refine Id hE (nt_eq _) ?_;cbv;obtain⟨hw,rfl⟩:=D0 h
     rw[←hw]at hO
     exact⟨_,rfl,hO⟩
    clear h;cbv;refine Ic hE (nt_eq _) ?_;cbv
    first|exact .inr ⟨rfl,rfl,hO⟩|exact .inr (hO)
   ·rintro d24 _ H rfl hd hO;have hO:C3 (I (List.map (fun(x:(List A3))=>[sr eBd9 x]) (w19++[])++tl)) F [.blk d24 DB] H:=C3.dblk hd hO;clear hd hx;cbv;refine Ia hE hO 0 rfl fun H hO=>?_;cbv;obtain⟨hw,_⟩:=D0 h
    rw[←hw]at hO
    exact hK _ _ _ hO trivial
   ·rintro _ _ _ _ _ _ h;exact h.elim
   rintro d24 e H hd ⟨rfl,hO⟩;have hO:C3 D F [.blk d24 DB] H:=C3.dblk hd hO;clear hd hx h;cbv;refine Ia hE hO 0 rfl fun H hO=>?_;cbv;exact hKD _ _ _ hO trivial
  obtain⟨rfl,rfl,hO⟩:=hX;cbv;obtain⟨hw,_⟩:=D0 h
  rw[←hw]at hO
  exact hK _ _ _ hO trivial
 rintro e l H hX;obtain⟨rfl,rfl,hO⟩:=hX;clear h;cbv;exact hKD _ _ _ hO trivial
theorem k140 (N n:Nat)(ih49:K49 N n):AY3 N (n+1):=by
 intro aN aP aJ aO r h
 unfold N5 at h
 refine O7 cf0 func140 call140 ntmps140 ?_;intro E H0 K hE hK hO;cbv;refine A8 hE h (ih49 aJ aO aN aP) (.refl _) fun r1 h=>?_;cbv;cases h;exact hK hO (.refl _)
theorem k141 (N n:Nat) (ih49:K49 N n):AY2 N (n+1):=by
 intro aF aJ aO aU r h
 unfold X3 at h
 obtain⟨⟨w0,u0⟩,h1,hr⟩:=bind_some h;clear h;have hr:=M6 hr;subst hr;have h:=h1;clear h1;refine O4 cf141 Q6 func141 (by rfl) (by kernel_rfl) call141 ntmps141 (by rfl) (fun _=>rfl) ?_;intro yv I D hI hD hy tl F E H K hE hO hK hKD
 have hO:C3 (I (List.map (fun(x:(List A3))=>[sr eBd9 x]) (w0++[])++tl)) F [] H:=by rw[F2];exact hO
 cbv;refine C9 hE eBe1 h fun x1 h=>?_;cbv;refine R3 hE (g:=fun r2=>sr eBe7 r2) h (ih49 aF x1 aO aU) (.refl _) fun r2 h=>?_;cbv;refine G1 hE ?_;cbv;obtain⟨w4,w5,s8,hx,h1,he⟩:=N4 h;clear h;have h:=h1;clear h1
 rw[he,D4]at hO
 clear he;refine Fx cf141 hE Q6 (γ:=Unit) (fun s3 g=>[(0,.v (yv)),(1,.v (.eref [.eref (C1 aF) 0] 0)),(2,.v (.eref (E3 aJ) 0)),(3,.v (.eref [sr eBd9 aO] 0)),(15,.v (sr eBe7 r2)),fi 16 (Ar.len r2),fi 17 s3]) (fun s3 g w H1=>C3 (I (List.map (fun(x:(List A3))=>[sr eBd9 x]) w++tl)) F [] H1) (fun x e l w H1=>e= .exit 0∧l=[]∧C3 (I (List.map (fun(x:(List A3))=>[sr eBd9 x]) w++tl)) F [] H1) (fun e l H1=>(e= .ret∧l=[]∧C3 D F [] H1)) (by kernel_rfl) ?_ (w':=w5++[]) () hx ?_ ?_ ?_ ?_
 ·rintro s3 _ w6 w7 H o hO h;clear hx
  skip
  cbv;refine B1 hE h (fun _ h=>?_) fun _ h=>?_
  ·cbv;refine C9 hE eBf6 h fun x9 h=>?_;cbv;refine A8 hE h (c142 N aF aJ aO x9) (.refl _) fun r10 h=>?_;cbv;refine B1 hE h (fun _ h=>?_) fun _ h=>?_
   ·cbv;obtain⟨w11,h1,he⟩:=S8 h;clear h;have h:=h1;clear h1
    rw[he,D4]at hO
    clear he;have hO:C3 (I ([sr eBd9 x9]::(List.map (fun(x:(List A3))=>[sr eBd9 x]) (w11++w7)++tl))) F [] _:=hO;refine CI hE hI hD hy hO (.refl _) (fun H hO=>?_) (fun H hO=>?_)
    ·cbv;refine Id hE (nt_eq _) ?_;cbv;obtain⟨hw,rfl⟩:=D0 h
     rw[←hw]at hO
     exact⟨_,(),rfl,.e rfl (.e2 (.e4 .z)),rfl,hO⟩
    clear h;cbv;refine Ic hE (nt_eq _) ?_;cbv;exact .inr ⟨_,⟨rfl,rfl,hO⟩,.z,rfl⟩
   cbv;obtain⟨hw,rfl⟩:=D0 h
   rw[←hw]at hO
   exact⟨_,(),rfl,.e rfl (.e2 (.e4 .z)),rfl,hO⟩
  cbv;obtain⟨hw,rfl⟩:=D0 h
  rw[←hw]at hO
  exact .inl ⟨_,_,rfl,⟨rfl,rfl,hO⟩,.z,rfl⟩
 ·exact .e rfl (.e2 (.e4 .z))
 ·exact hO
 ·rintro e l H ⟨rfl,rfl,hO⟩;clear hx;cbv;obtain⟨hw,_⟩:=D0 h
  rw[←hw]at hO
  exact hK _ _ _ hO trivial
 rintro e l H hX;obtain⟨rfl,rfl,hO⟩:=hX;clear h;cbv;exact hKD _ _ _ hO trivial
theorem k168 (N n:Nat) (ih49:K49 N n):AY1 N (n+1):=by
 intro aF aJ aO aU cB cE cY r h
 unfold X2 at h
 obtain⟨⟨w0,u0⟩,h1,hr⟩:=bind_some h;clear h;have hr:=M6 hr;subst hr;have h:=h1;clear h1;refine O4 cf168 Q6 func168 (by rfl) (by kernel_rfl) call168 ntmps168 (by rfl) (fun _=>rfl) ?_;intro yv I D hI hD hy tl F E H K hE hO hK hKD
 have hO:C3 (I (List.map (fun(x:(List A3))=>[sr eBd9 x]) (w0++[])++tl)) F [] H:=by rw[F2];exact hO
 cbv;refine A8 hE h (ih49 aF aJ aO aU) (.refl _) fun r1 h=>?_;cbv;refine G1 hE ?_;cbv;obtain⟨w3,w4,s7,hx,h1,he⟩:=N4 h;clear h;have h:=h1;clear h1
 rw[he,D4]at hO
 clear he;refine Fx cf168 hE Q6 (γ:=Unit) (fun s2 g=>[(0,.v (yv)),(1,.v (.eref [.eref (C1 aF) 0] 0)),(3,.v (.eref [sr eBd9 aO] 0)),(5,.v (.eref [cB] 0)),(15,.v (sr eBe7 r1)),fi 16 (Ar.len r1),fi 17 s2]) (fun s2 g w H1=>C3 (I (List.map (fun(x:(List A3))=>[sr eBd9 x]) w++tl)) F [] H1) (fun x e l w H1=>match(generalizing:=false) x with| .inl y=>e= .exit 0∧l=[]∧C3 (I (List.map (fun(x:(List A3))=>[sr eBd9 x]) w++tl)) F [] H1| .inr y=>e= .ret∧l=[]∧C3 (I (List.map (fun(x:(List A3))=>[sr eBd9 x]) w++tl)) F [] H1) (fun e l H1=>(e= .ret∧l=[]∧C3 D F [] H1)) (by kernel_rfl) ?_ (w':=w4++[]) () hx ?_ ?_ ?_ ?_
 ·rintro s2 _ w5 w6 H o hO h;clear hx
  skip
  cbv;refine B1 hE h (fun _ h=>?_) fun _ h=>?_
  ·cbv;refine C9 hE eBf6 h fun x8 h=>?_;cbv;refine R3 hE (g:=fun r9=>sr eBd9 r9) h (c169 N aO x8) (.refl _) fun r9 h=>?_;cbv;refine R3 hE (g:=fun r10=>vi r10) h (c170 N x8) (.refl _) fun r10 h=>?_;cbv;refine Az8 hE (g:=fun r11=>sr eBe7 r11) h (fun r11 hx=>cY r9 (Ar.ar .add .i64 r10 1) r11 hx) (.refl _) fun r11 h=>?_;cbv;refine G1 hE ?_;cbv;obtain⟨w13,w14,s17,hx,h1,he⟩:=N4 h;clear h;have h:=h1;clear h1
   rw[he,D4]at hO
   clear he;refine Fx cf168 hE Q6 (γ:=Unit) (fun s12 g=>[(0,.v (yv)),(1,.v (.eref [.eref (C1 aF) 0] 0)),(3,.v (.eref [sr eBd9 aO] 0)),(5,.v (.eref [cB] 0)),(8,.v (sr eBd9 x8)),(15,.v (sr eBe7 r1)),fi 16 (Ar.len r1),fi 17 s2,(28,.v (sr eBe7 r11)),fi 29 (Ar.len r11),fi 30 s12]) (fun s12 g w H1=>C3 (I (List.map (fun(x:(List A3))=>[sr eBd9 x]) w++tl)) F [] H1) (fun x e l w H1=>match(generalizing:=false) x with| .inl y=>e= .exit 2∧l=[(0,.v (yv)),(1,.v (.eref [.eref (C1 aF) 0] 0)),(3,.v (.eref [sr eBd9 aO] 0)),(5,.v (.eref [cB] 0)),(15,.v (sr eBe7 r1)),fi 16 (Ar.len r1),fi 17 s2]∧C3 (I (List.map (fun(x:(List A3))=>[sr eBd9 x]) w++tl)) F [] H1| .inr y=>e= .ret∧l=[]∧C3 (I (List.map (fun(x:(List A3))=>[sr eBd9 x]) w++tl)) F [] H1) (fun e l H1=>(e= .ret∧l=[]∧C3 D F [] H1)) (by kernel_rfl) ?_ (w':=w14++w6) () hx ?_ ?_ ?_ ?_
   ·rintro s12 _ w15 w16 H o hO h;clear hx
    skip
    cbv;refine B1 hE h (fun _ h=>?_) fun _ h=>?_
    ·cbv;refine C9 hE eBf6 h fun x18 h=>?_;cbv;refine B1 hE h (fun _ h=>?_) fun _ h=>?_
     ·cbv;obtain⟨hw,rfl⟩:=D0 h
      rw[←hw]at hO
      exact .inl ⟨_,_,rfl,⟨rfl,rfl,hO⟩,.z,rfl⟩
     cbv;refine A8 hE h (c169 N x8 x18) (.refl _) fun r19 h=>?_;cbv;obtain⟨w20,h1,he⟩:=S8 h;clear h;have h:=h1;clear h1
     rw[he,D4]at hO
     clear he;have hO:C3 (I ([sr eBd9 r19]::(List.map (fun(x:(List A3))=>[sr eBd9 x]) (w20++w16)++tl))) F [] _:=hO;refine CI hE hI hD hy hO (.refl _) (fun H hO=>?_) (fun H hO=>?_)
     ·cbv;refine Id hE (nt_eq _) ?_;cbv;obtain⟨hw,rfl⟩:=D0 h
      rw[←hw]at hO
      exact⟨_,(),rfl,.e rfl (.e2 (.e4 (.e4 .z))),rfl,hO⟩
     clear h;cbv;refine Ic hE (nt_eq _) ?_;cbv;exact .inr ⟨_,⟨rfl,rfl,hO⟩,.z,rfl⟩
    cbv;obtain⟨hw,rfl⟩:=D0 h
    rw[←hw]at hO
    exact .inl ⟨_,_,rfl,⟨rfl,rfl,hO⟩,.e rfl (.e2 (.e4 .z)),rfl⟩
   ·exact .e rfl (.e2 (.e4 (.e4 .z)))
   ·exact hO
   ·rintro e l H hX;clear hx
    rcases s17 with y21|y22
    ·obtain⟨rfl,rfl,hO⟩:=hX;cbv;obtain⟨hw,rfl⟩:=D0 h
     rw[←hw]at hO
     exact⟨_,(),rfl,.e rfl (.e2 (.e4 .z)),rfl,hO⟩
    obtain⟨rfl,rfl,hO⟩:=hX;cbv;obtain⟨hw,rfl⟩:=D0 h
    rw[←hw]at hO
    exact .inl ⟨_,_,rfl,⟨rfl,rfl,hO⟩,.z,rfl⟩
   rintro e l H hX;obtain⟨rfl,rfl,hO⟩:=hX;clear h;cbv;exact .inr ⟨_,⟨rfl,rfl,hO⟩,.z,rfl⟩
  cbv;obtain⟨hw,rfl⟩:=D0 h
  rw[←hw]at hO
  exact .inl ⟨_,_,rfl,⟨rfl,rfl,hO⟩,.z,rfl⟩
 ·exact .e rfl (.e2 (.e4 .z))
 ·exact hO
 ·rintro e l H hX;clear hx
  rcases s7 with y23|y24
  ·obtain⟨rfl,rfl,hO⟩:=hX;cbv;obtain⟨hw,_⟩:=D0 h
   rw[←hw]at hO
   exact hK _ _ _ hO trivial
  obtain⟨rfl,rfl,hO⟩:=hX;cbv;obtain⟨hw,_⟩:=D0 h
  rw[←hw]at hO
  exact hK _ _ _ hO trivial
 rintro e l H hX;obtain⟨rfl,rfl,hO⟩:=hX;clear h;cbv;exact hKD _ _ _ hO trivial
theorem AP (N:Nat):∀n,K49 N n∧K97 N n∧K98 N n∧K99 N n∧AZ2 N n∧AZ1 N n∧AP9 N n∧AY7 N n∧AY6 N n∧AY5 N n∧AY4 N n∧AY3 N n∧AY2 N n∧AY1 N n:=by
 intro n
 induction n with
 |zero=>exact⟨(by intro aL aA aN aP r h;unfold E8 at h;cases h),(by intro aL aA aN aP r h;unfold T9 at h;cases h),(by intro aL aA aN aP r h;unfold U0 at h;cases h),(by intro aL aA aN aP r h;unfold U1 at h;cases h),(by intro aL aA aN aP r h;unfold S2 at h;cases h),(by intro aL aA aN aP r h;unfold J9 at h;cases h),(by intro aL aA aN aP cH bX cV cX r h;unfold S1 at h;cases h),(by intro aN aP aJ aO r h;unfold Q3 at h;cases h),(by intro aF aJ aO aU r h;unfold Y7 at h;cases h),(by intro aF aJ aO aU r h;unfold Y8 at h;cases h),(by intro aF aJ aO aU r h;unfold X4 at h;cases h),(by intro aN aP aJ aO r h;unfold N5 at h;cases h),(by intro aF aJ aO aU r h;unfold X3 at h;cases h),(by intro aF aJ aO aU cB cE cY r h;unfold X2 at h;cases h)⟩
 |succ n ih=>
  obtain⟨ih49,ih97,ih98,ih99,ih100,ih101,ih134,ih135,ih136,ih137,ih139,ih140,ih141,ih168⟩:=ih;exact⟨k49 N n ih97 ih98 ih99 ih100 ih101,k97 N n ih49 ih134 ih135,k98 N n ih136,k99 N n ih137,k100 N n ih139,k101 N n ih141,k134 N n ih168,k135 N n ih49,k136 N n ih49,k137 N n ih49,k139 N n ih49 ih134 ih140,k140 N n ih49,k141 N n ih49,k168 N n ih49⟩
theorem c49 (N n aL aA aN aP r)(h:E8 N n aL aA aN aP=some r):C0 prog 49 [.eref (C1 aL) 0,(D2 aA),sr eBd9 aN,vi aP] (sr eBe7 r):=(AP N n).1 aL aA aN aP r h
theorem c51 {cmp:G6→G6→Option Int}{g:Nat}{C:List V}(eg:∀vals w,(callFunc g vals).run prog w= .ok (.enter g vals) w)(hc:∀y1 y2 r,cmp y1 y2=some r→C0 prog g ([(Kf y1),(Kf y2)]++C) (vi r)){l r:List G6}(h:LG cmp l=some r):
 Wp prog 51 (.func (.func g) [] C) 1 (lst eBe4 l) (lst eBe4 r):=QX Go.Proofs.Tryz.sorts51 call51 (va:=fun x=>(Js x)) eBf4 (fun _=>rfl) eg hc h
def cf75 :Cf:=⟨[8],[],[],[],[],[]⟩
theorem c75 (N:Nat) (aX:List G7) (bB:List G7) (cZ:V) (cR:G7→G7→Option Int) (dC:∀y1 y2 q,cR y1 y2=some q→Y5 prog cZ [(HD y1),(HD y2)] (vi q)) (r:Int) (h:J0 N aX bB cR=some r):C0 prog 75 [sr eBf1 aX,sr eBf1 bB,cZ] (vi r):=by
 unfold J0 at h
 refine O7 cf75 func75 call75 ntmps75 ?_;intro E H0 K hE hK hO;cbv;refine G1 hE ?_;cbv;obtain⟨s2,hx,h⟩:=bind_some h;refine K0 cf75 hE Q6 (fun s1=>[(0,.v (sr eBf1 aX)),(1,.v (sr eBf1 bB)),(2,.v (cZ)),(11,.v (sr eBf1 aX)),fi 12 (Ar.len aX),fi 13 s1]) (fun s1 H1=>C3 Eq H0 [] H1) (fun x e l H1=>match(generalizing:=false) x with| .inl y=>e= .exit 0∧l=[(0,.v (sr eBf1 aX)),(1,.v (sr eBf1 bB))]∧C3 Eq H0 [] H1| .inr y=>e= .ret∧l=[fi 6 y]∧C3 Eq H0 [] H1) (by kernel_rfl) ?_ hx ?_ hO ?_
 ·intro s1 H o hO h;clear hx;cbv;refine B1 hE h (fun _ h=>?_) fun _ h=>?_
  ·cbv;refine C9 hE eBf9 h fun x3 h=>?_;cbv;refine D3 hE hO fun b4 H hO=>?_;cbv;refine A9 hE hO 0 rfl rfl fun H hO=>?_;cbv;refine G1 hE ?_;cbv;refine B1 hE h (fun _ h=>?_) fun _ h=>?_
   ·cbv;cases h;exact⟨_,_,rfl,⟨rfl,rfl,hO.tail⟩,.e rfl .z,rfl⟩
   cbv;refine C9 hE eBf9 h fun x5 h=>?_;cbv;refine B2 hE hO 0 rfl ?_;cbv;refine Bn hE (g:=fun r6=>vi r6) h (fun r6 hx=>dC x3 x5 r6 hx) (.refl _) fun r6 h=>?_;cbv;refine B1 hE h (fun _ h=>?_) fun _ h=>?_
   ·cbv;cases h;exact⟨_,_,rfl,⟨rfl,rfl,hO.tail⟩,.e rfl .z,rfl⟩
   cbv;cases h;exact⟨_,rfl,.e2 (.e4 .z),rfl,hO.tail⟩
  cbv;cases h;exact⟨_,_,rfl,⟨rfl,rfl,hO⟩,.e2 .z,rfl⟩
 ·exact .e2 (.e4 .z)
 clear hx
 rcases s2 with y7|y8
 ·rintro e l H ⟨rfl,rfl,hO⟩;cbv;refine G1 hE ?_;cbv;refine G1 hE ?_;cbv;refine B1 hE h (fun _ h=>?_) fun _ h=>?_
  ·cbv;cases h;exact hK hO (.refl _)
  cbv;cases h;exact hK hO (.refl _)
 rintro e l H ⟨rfl,rfl,hO⟩;cbv;cases h;exact hK hO (.refl _)
def cf78 :Cf:=⟨[],[(1,14)],[],[],[],[]⟩
theorem c78 (N aB aD r)(h:Ie N aB aD=some r):C0 prog 78 [(KF aB),(KF aD)] (vi r):=by
 unfold Ie at h
 refine O7 cf78 func78 call78 ntmps78 ?_;intro E H0 K hE hK hO;cbv;refine R3 hE (g:=fun r1=>vi r1) h (c79 N aB.Time aD.Time) (.refl _) fun r1 h=>?_;cbv;refine R3 hE (g:=fun r2=>vi r2) h (c79 N aB.Source aD.Source) (.refl _) fun r2 h=>?_;cbv;refine A8 hE h (c79 N aB.Seq aD.Seq) (.refl _) fun r3 h=>?_;cbv;refine A8 hE h (c77 N ([r1,r2,r3])) (.cons (.lit _ (I0 (rfl) (I0 (rfl) (I0 (rfl) (E0))))) (.refl _)) fun r4 h=>?_;cbv;cases h;exact hK hO (.refl _)
def cf76 :Cf:=⟨[],[(1,9)],[],[],[],[]⟩
theorem c76 (N aM bE r)(h:Br N aM bE=some r):C0 prog 76 [(HD aM),(HD bE)] (vi r):=by
 unfold Br at h
 refine O7 cf76 func76 call76 ntmps76 ?_;intro E H0 K hE hK hO;cbv;refine R3 hE (g:=fun r1=>vi r1) h (c78 N aM.Ref bE.Ref) (.refl _) fun r1 h=>?_;cbv;refine A8 hE h (c79 N aM.Var bE.Var) (.refl _) fun r2 h=>?_;cbv;refine A8 hE h (c77 N ([r1,r2])) (.cons (.lit _ (I0 (rfl) (I0 (rfl) (E0)))) (.refl _)) fun r3 h=>?_;cbv;cases h;exact hK hO (.refl _)
theorem c52 (N aB aD r)(h:CX N aB aD=some r):C0 prog 52 [(Kf aB),(Kf aD)] (vi r):=by
 unfold CX at h
 refine O7 cf0 func52 call52 ntmps52 ?_;intro E H0 K hE hK hO;cbv;refine A8 hE (g:=fun r1=>vi r1) h (fun r1 hx=>c75 N aB.dF aD.dF (.func (.func 76) [] []) (fun y1 y2=>Br N y1 y2) (fun y1 y2 r hx=>C0.value (F:=[]) (C:=[]) (c76 N y1 y2 r hx)) r1 hx) (.refl _) fun r1 h=>?_;cbv;cases h;exact hK hO (.refl _)
def cf35 :Cf:=⟨[13,6000010],[(19,12)],[],[],[(70,10),(70,68)],[]⟩
theorem c35 (N aA aG r) (h:Bw N aA aG=some r):C0 prog 35 [(D2 aA),sr eBe2 aG] (.tup [sr eBe4 r.1,vi r.2]):=by
 unfold Bw at h
 refine O7 cf35 func35 call35 ntmps35 ?_;intro E H0 K hE hK hO;cbv;refine A8 hE h (c5 N aA) (.refl _) fun r1 h=>?_;cbv;refine B1 hE h (fun hc h=>?_) (fun hc h=>?_)
 ·cbv;cases h;exact hK hO (.tup (.cons (.lit _ (E0)) (.refl _)))
 cbv;refine A8 hE h (c48 N aG) (.refl _) fun r2 h=>?_;cbv;refine B1 hE h (fun hc h=>?_) (fun hc h=>?_)
 ·cbv;cases h;exact hK hO (.tup (.cons (.lit _ (E0)) (.refl _)))
 cbv;refine A8 hE h (c49 N N (⟨aG,false⟩:B7) aA ([]) 0) (.cons (.refl _) (.cons (.refl _) (.cons (.lit _ (E0)) (.refl _)))) fun r3 h=>?_;cbv;refine Bb4 hE (fun hc=>by cases hc) (fun hc=>?_);cbv;refine Az9 hE (f:=eBe4) hO fun q4 H hq4 hO=>?_;cbv;refine G1 hE ?_;cbv;obtain⟨s7,hx,h⟩:=bind_some h;refine Bm cf35 hE Q6 (γ:=OG) (fun s5 g=>[(1,.v (sr eBe2 aG)),(10,.v (.own g.id g.lo g.n)),(36,.v (sr eBe7 r3)),fi 37 (Ar.len r3),fi 38 s5.1]) (fun s5 g H1=>Hs g (Ar.len s5.2)∧C3 Eq H0 [ob g 1 eBe4 s5.2] H1) (fun x e l H1=>∃u1:OG,Hs u1 (Ar.len x)∧e= .exit 0∧l=[(10,.v (.own u1.id u1.lo u1.n))]∧C3 Eq H0 [ob u1 1 eBe4 x] H1) (by kernel_rfl) ?_ q4 hx ?_ ?_ ?_
 ·rintro s5 q6 H o ⟨hq6,hO⟩ h;clear hx;cbv;refine B1 hE h (fun hc h=>?_) (fun hc h=>?_)
  ·cbv;refine C9 hE eBf6 h fun x8 h=>?_;cbv;refine D3 hE hO fun b9 H hO=>?_;cbv;refine G1 hE ?_;cbv;replace hO:=hO.cast (L':=[cb b9 [.sl (lst eBf1 ([])) .nil],ob q6 1 eBe4 s5.2]) (by simp only[ob,cb,sr,←E0]<;>rfl);replace hO:=hO.tl0 (t:=.nil) rfl;obtain⟨s12,hx,h⟩:=bind_some h;refine Bm cf35 hE Q6 (γ:=G3) (fun s10 g=>[(1,.v (sr eBe2 aG)),(10,.v (.own q6.id q6.lo q6.n)),(13,.v (.ref b9 0)),(36,.v (sr eBe7 r3)),fi 37 (Ar.len r3),fi 38 s5.1,(42,.v (sr eBd9 x8)),fi 43 (Ar.len x8),fi 44 s10.1]) (fun s10 g H1=>Au g∧C3 Eq H0 [.tl g,cb b9 [.sl (lst eBf1 s10.2.dF) g],ob q6 1 eBe4 s5.2] H1) (fun x e l H1=>∃u1:G3,Au u1∧e= .exit 2∧l=[(1,.v (sr eBe2 aG)),(10,.v (.own q6.id q6.lo q6.n)),(13,.v (.ref b9 0)),(36,.v (sr eBe7 r3)),fi 37 (Ar.len r3),fi 38 s5.1]∧C3 Eq H0 [.tl u1,cb b9 [.sl (lst eBf1 x.dF) u1],ob q6 1 eBe4 s5.2] H1) (by kernel_rfl) ?_ .nil hx ?_ ?_ ?_
   ·rintro s10 t11 H o ⟨ht11,hO⟩ h;clear hx;cbv;refine B1 hE h (fun hc h=>?_) (fun hc h=>?_)
    ·cbv;refine C9 hE eBf5 h fun x13 h=>?_;cbv;refine B2 hE hO 1 rfl ?_;cbv;refine C9 hE eBe6 h fun x14 h=>?_;cbv;refine R3 hE (g:=fun r15=>(KF r15)) h (c50 N x14) (.refl _) fun r15 h=>?_;cbv;refine BS (f:=eBf1) hE WH (by decide) hO 0 rfl ht11 (l:=s10.2.dF) (m:=[(⟨x13.dI,r15⟩:G7)]) (.refl _) (.lstc (.eq (eBf9 (⟨x13.dI,r15⟩:G7)) (.refl _)) (.lst0)) h fun l17 t16 H hO ht16 h=>?_;cbv;refine A9 hE hO 1 rfl rfl fun H hO=>?_;cbv;cases h;exact⟨_,t16,rfl,.e rfl (.e4 (.e4 .z)),rfl,ht16,hO⟩
    cbv;cases h;exact⟨_,_,rfl,⟨t11,ht11,rfl,rfl,hO⟩,.e2 (.e4 .z),rfl⟩
   ·exact .e rfl (.e4 (.e4 .z))
   ·exact⟨trivial,hO⟩
   clear hx;rintro e l H ⟨t18,ht18,rfl,rfl,hO⟩;cbv;refine B2 hE hO 1 rfl ?_;cbv;refine JD (f:=eBe4) hE AY (by decide) hO hq6 2 rfl (m:=[s12]) (HQ (f:=eBe4) hE AY (.lstc (.eq (eBf4 s12) (.agg (.cons (.ro _ _) (.refl _)))) (.lst0))) h fun l20 q19 H hq19 hO h=>?_;cbv;cases h;exact⟨_,q19,rfl,.e rfl (.e4 .z),rfl,hq19,hO.tail.tail⟩
  cbv;cases h;exact⟨_,_,rfl,⟨q6,hq6,rfl,rfl,hO⟩,.e rfl .z,rfl⟩
 ·exact .e rfl (.e4 .z)
 ·exact⟨hq4,hO⟩
 clear hx;rintro e l H ⟨q21,hq21,rfl,rfl,hO⟩;cbv;refine XD hE hO hq21 0 rfl h (fun l22 hx=>c51 (g:=52) (C:=[]) call52 (fun y1 y2 r hx=>c52 N y1 y2 r hx) hx) fun l22 H hq21 hO h=>?_;cbv;refine VI hE hO hq21 0 rfl fun H hO=>?_;cbv;refine Fv hE (by trivial) ?_;cbv;cases h;exact hK hO (.refl _)
end Go.Ab
namespace Go.Ab
open Go.RowKit Go.Proofs Go.Proofs.Tryz L9
variable [Ar][L9]
set_option maxRecDepth 100000
theorem c9 (N aA aG r)(h:Dc N aA aG=some r):C0 prog 9 [(D2 aA),sr eBe2 aG] (.tup [sr eBe4 r.1,vi r.2]):=by
 unfold Dc at h
 refine O7 cf0 func9 call9 ntmps9 ?_;intro E H0 K hE hK hO;cbv;refine A8 hE h (c35 N aA aG) (.refl _) fun r1 h=>?_;cbv;cases h;exact hK hO (.refl _)
theorem c90 (N:Nat):∀n aC r,Bx N n aC=some r→C0 prog 90 [(V9 aC)] (vi r):=by
 intro n
 induction n with
 |zero=>intro aC r h;cases h
 |succ n ih=>
 intro aC r h
 unfold Bx at h
 refine O7 cf0 func90 call90 ntmps90 ?_;intro E H0 K hE hK hO;cbv;obtain⟨s2,hx,h⟩:=bind_some h;refine K0 cf0 hE Q6 (fun s1=>[(1,.v (.eref (CO aC) 0)),fi 3 s1.1,fi 4 s1.2]) (fun s1 H1=>C3 Eq H0 [] H1) (fun x e l H1=>e= .exit 0∧l=[fi 3 x]∧C3 Eq H0 [] H1) (by kernel_rfl) ?_ hx ?_ hO ?_
 ·intro s1 H o hO h;clear hx;cbv;refine G1 hE ?_;cbv;refine B1 hE h (fun _ h=>?_) fun _ h=>?_
  ·cbv;refine C9 hE eBf0 h fun x3 h=>?_;cbv;refine A8 hE h (ih x3) (.refl _) fun r4 h=>?_;cbv;cases h;exact⟨_,rfl,.e rfl (.e2 .z),rfl,hO⟩
  cbv;cases h;exact⟨_,_,rfl,⟨rfl,rfl,hO⟩,.e rfl .z,rfl⟩
 ·exact .e rfl (.e2 .z)
 clear hx;rintro e l H ⟨rfl,rfl,hO⟩;cbv;cases h;exact hK hO (.refl _)
theorem c129 (N aI r) (h:Bz N aI=some r):C0 prog 129 [(E7 aI)] (vi r):=by
 unfold Bz at h
 refine O7 cf0 func129 call129 ntmps129 ?_;intro E H0 K hE hK hO;cbv;refine B1 hE h (fun _ h=>?_) fun _ h=>?_
 ·cbv;cases h;exact hK hO (.refl _)
 cbv;refine B1 hE h (fun _ h=>?_) fun _ h=>?_
 ·cbv;refine B1 hE h (fun _ h=>?_) fun _ h=>?_
  ·cbv;cases h;exact hK hO (.refl _)
  cbv;refine B1 hE h (fun _ h=>?_) fun _ h=>?_
  ·cbv;cases h;exact hK hO (.refl _)
  cbv;cases h;exact hK hO (.refl _)
 cbv;refine B1 hE h (fun _ h=>?_) fun _ h=>?_
 ·cbv;cases h;exact hK hO (.refl _)
 cbv;refine B1 hE h (fun _ h=>?_) fun _ h=>?_
 ·cbv;cases h;exact hK hO (.refl _)
 cbv;cases h;exact hK hO (.refl _)
def cf159 :Cf:=⟨[],[],[(4,4)],[],[],[]⟩
theorem c159 (N aK r) (h:GX N aK=some r):C0 prog 159 [vi aK] (vi r):=by
 unfold GX at h
 refine O7 cf159 func159 call159 ntmps159 ?_;intro E H0 K hE hK hO;cbv;obtain⟨s1,hx,h⟩:=bind_some h;refine Y4 cf159 hE Q6 (fun e l H1=>e= .normal∧l=[fi 3 aK,(4,.v (.bool s1))]∧C3 Eq H0 [] H1) (by kernel_rfl) ?_ ?_
 ·clear h;have h:=hx;clear hx;cbv;refine B1 hE h (fun _ h=>?_) fun _ h=>?_
  ·cbv;cases h;exact⟨_,⟨rfl,rfl,hO⟩,.e2 .z,rfl⟩
  cbv;refine B1 hE h (fun _ h=>?_) fun _ h=>?_
  ·cbv;cases h;exact⟨_,⟨rfl,rfl,hO⟩,.e2 .z,rfl⟩
  cbv;refine B1 hE h (fun _ h=>?_) fun _ h=>?_
  ·cbv;cases h;exact⟨_,⟨rfl,rfl,hO⟩,.e2 .z,rfl⟩
  cbv;refine B1 hE h (fun _ h=>?_) fun _ h=>?_
  ·cbv;cases h;exact⟨_,⟨rfl,rfl,hO⟩,.e2 .z,rfl⟩
  cbv;cases h;exact⟨_,⟨rfl,rfl,hO⟩,.e2 .z,rfl⟩
 clear hx;rintro e l H ⟨rfl,rfl,hO⟩;cbv;refine B1 hE h (fun _ h=>?_) fun _ h=>?_
 ·cbv;cases h;exact hK hO (.refl _)
 cbv;refine B1 hE h (fun _ h=>?_) fun _ h=>?_
 ·cbv;cases h;exact hK hO (.refl _)
 cbv;refine B1 hE h (fun _ h=>?_) fun _ h=>?_
 ·cbv;cases h;exact hK hO (.refl _)
 cbv;refine B1 hE h (fun _ h=>?_) fun _ h=>?_
 ·cbv;cases h;exact hK hO (.refl _)
 cbv;refine B1 hE h (fun _ h=>?_) fun _ h=>?_
 ·cbv;cases h;exact hK hO (.refl _)
 cbv;refine B1 hE h (fun _ h=>?_) fun _ h=>?_
 ·cbv;cases h;exact hK hO (.refl _)
 cbv;refine B1 hE h (fun _ h=>?_) fun _ h=>?_
 ·cbv;cases h;exact hK hO (.refl _)
 cbv;refine B1 hE h (fun _ h=>?_) fun _ h=>?_
 ·cbv;cases h;exact hK hO (.refl _)
 cbv;refine B1 hE h (fun _ h=>?_) fun _ h=>?_
 ·cbv;cases h;exact hK hO (.refl _)
 cbv;cases h;exact hK hO (.refl _)
theorem c160 (N aK r)(h:HT N aK=some r):C0 prog 160 [vi aK] (.tup [.bool r.1,.bool r.2]):=by
 unfold HT at h
 refine O7 cf0 func160 call160 ntmps160 ?_;intro E H0 K hE hK hO;cbv;cases h;exact hK hO (.refl _)
theorem c161 (N bA aI r)(h:AU N bA aI=some r):C0 prog 161 [vi bA,(E7 aI)] (.bool r):=by
 unfold AU at h
 refine O7 cf0 func161 call161 ntmps161 ?_;intro E H0 K hE hK hO;cbv;cases h;exact hK hO (.refl _)
def cf125 :Cf:=⟨[],[],[(69,15)],[],[],[]⟩
theorem c125 (N aC r) (h:Gf N aC=some r):C0 prog 125 [(V9 aC)] (vi r):=by
 unfold Gf at h
 refine O7 cf125 func125 call125 ntmps125 ?_;intro E H0 K hE hK hO;cbv;refine A8 hE h (c159 N aC.Op) (.refl _) fun r1 h=>?_;cbv;refine B1 hE h (fun _ h=>?_) fun _ h=>?_
 ·cbv;cases h;exact hK hO (.refl _)
 cbv;refine G1 hE ?_;cbv;refine B1 hE h (fun _ h=>?_) fun _ h=>?_
 ·cbv;cases h;exact hK hO (.refl _)
 cbv;refine A8 hE h (c160 N aC.Op) (.refl _) fun r2 h=>?_;cbv;refine B1 hE h (fun _ h=>?_) fun _ h=>?_
 ·cbv;cases h;exact hK hO (.refl _)
 cbv;refine B1 hE h (fun _ h=>?_) fun _ h=>?_
 ·cbv;cases h;exact hK hO (.refl _)
 cbv;obtain⟨s3,hx,h⟩:=bind_some h;refine Y4 cf125 hE Q6 (fun e l H1=>match(generalizing:=false) s3 with| .inl y=>e= .normal∧l=[(1,.v (.eref (CO aC) 0)),(4,.v (.bool r2.1)),(5,.v (.bool r2.2)),(6,.v (.bool (Ar.cmp .eql aC.Op 4))),(7,.v (.bool (Ar.or (Ar.cmp .eql aC.Op 4) (Ar.cmp .eql aC.Op 0))))]∧C3 Eq H0 [] H1| .inr y=>e= .ret∧l=[fi 2 y]∧C3 Eq H0 [] H1) (by kernel_rfl) ?_ ?_
 ·clear h;have h:=hx;clear hx;cbv;refine B1 hE h (fun _ h=>?_) fun _ h=>?_
  ·cbv;refine A8 hE h (c129 N aC.Value) (.refl _) fun r4 h=>?_;cbv;refine B1 hE h (fun _ h=>?_) fun _ h=>?_
   ·cbv;cases h;exact⟨_,⟨rfl,rfl,hO⟩,.e rfl .z,rfl⟩
   cbv;cases h;exact⟨_,⟨rfl,rfl,hO⟩,.e rfl (.e4 .z),rfl⟩
  cbv;cases h;exact⟨_,⟨rfl,rfl,hO⟩,.e rfl (.e4 .z),rfl⟩
 clear hx
 rcases s3 with y5|y7
 ·rintro e l H ⟨rfl,rfl,hO⟩;cbv;refine B1 hE h (fun _ h=>?_) fun _ h=>?_
  ·cbv;refine A8 hE h (c161 N aC.Kind aC.Value) (.refl _) fun r6 h=>?_;cbv;refine B1 hE h (fun _ h=>?_) fun _ h=>?_
   ·cbv;cases h;exact hK hO (.refl _)
   cbv;refine B1 hE h (fun _ h=>?_) fun _ h=>?_
   ·cbv;cases h;exact hK hO (.refl _)
   cbv;cases h;exact hK hO (.refl _)
  cbv;refine B1 hE h (fun _ h=>?_) fun _ h=>?_
  ·cbv;cases h;exact hK hO (.refl _)
  cbv;cases h;exact hK hO (.refl _)
 rintro e l H ⟨rfl,rfl,hO⟩;cbv;cases h;exact hK hO (.refl _)
theorem c91 (N:Nat):∀n aC r,DF N n aC=some r→C0 prog 91 [(V9 aC)] (vi r):=by
 intro n
 induction n with
 |zero=>intro aC r h;cases h
 |succ n ih=>
 intro aC r h
 unfold DF at h
 refine O7 cf0 func91 call91 ntmps91 ?_;intro E H0 K hE hK hO;cbv;refine A8 hE h (c125 N aC) (.refl _) fun r1 h=>?_;cbv;refine B1 hE h (fun _ h=>?_) fun _ h=>?_
 ·cbv;cases h;exact hK hO (.refl _)
 cbv;obtain⟨s3,hx,h⟩:=bind_some h;refine K0 cf0 hE Q6 (fun s2=>[(1,.v (.eref (CO aC) 0)),fi 4 s2]) (fun s2 H1=>C3 Eq H0 [] H1) (fun x e l H1=>match(generalizing:=false) x with| .inl y=>e= .exit 0∧l=[]∧C3 Eq H0 [] H1| .inr y=>e= .ret∧l=[fi 2 y]∧C3 Eq H0 [] H1) (by kernel_rfl) ?_ hx ?_ hO ?_
 ·intro s2 H o hO h;clear hx;cbv;refine G1 hE ?_;cbv;refine B1 hE h (fun _ h=>?_) fun _ h=>?_
  ·cbv;refine C9 hE eBf0 h fun x4 h=>?_;cbv;refine A8 hE h (ih x4) (.refl _) fun r5 h=>?_;cbv;refine B1 hE h (fun _ h=>?_) fun _ h=>?_
   ·cbv;cases h;exact⟨_,_,rfl,⟨rfl,rfl,hO⟩,.e rfl .z,rfl⟩
   cbv;cases h;exact⟨_,rfl,.e2 .z,rfl,hO⟩
  cbv;cases h;exact⟨_,_,rfl,⟨rfl,rfl,hO⟩,.z,rfl⟩
 ·exact .e2 .z
 clear hx
 rcases s3 with y6|y7
 ·rintro e l H ⟨rfl,rfl,hO⟩;cbv;cases h;exact hK hO (.refl _)
 rintro e l H ⟨rfl,rfl,hO⟩;cbv;cases h;exact hK hO (.refl _)
theorem c59 (N aC r)(h:DI N aC=some r):C0 prog 59 [(V9 aC)] (vi r):=by
 unfold DI at h
 refine O7 cf0 func59 call59 ntmps59 ?_;intro E H0 K hE hK hO;cbv;refine A8 hE h (c20 N N aC 64) (.refl _) fun r1 h=>?_;cbv;refine B1 hE h (fun _ h=>?_) fun _ h=>?_
 ·cbv;cases h;exact hK hO (.refl _)
 cbv;refine A8 hE h (c90 N N aC) (.refl _) fun r2 h=>?_;cbv;refine B1 hE h (fun _ h=>?_) fun _ h=>?_
 ·cbv;cases h;exact hK hO (.refl _)
 cbv;refine A8 hE h (c91 N N aC) (.refl _) fun r3 h=>?_;cbv;cases h;exact hK hO (.refl _)
theorem c126 (N aT aI r)(h:CF N aT aI=some r):C0 prog 126 [(KH aT),vi aI] (sr eBe2 r):=by
 unfold CF at h
 refine O7 cf0 func126 call126 ntmps126 ?_;intro E H0 K hE hK hO;cbv;refine G1 hE ?_;cbv;refine B1 hE h (fun _ h=>?_) fun _ h=>?_
 ·cbv;cases h;exact hK hO (.lit _ (E0))
 cbv;refine C9 hE eBg9 h fun x1 h=>?_;cbv;cases h;exact hK hO (.refl _)
theorem c162 (N bA r)(h:HX N bA=some r):C0 prog 162 [vi bA] (.bool r):=by
 unfold HX at h
 refine O7 cf0 func162 call162 ntmps162 ?_;intro E H0 K hE hK hO;cbv;cases h;exact hK hO (.refl _)
theorem c181 (N aB r) (h:Fe N aB=some r):C0 prog 181 [(K1 aB)] (vi r):=by
 unfold Fe at h
 refine O7 cf0 func181 call181 ntmps181 ?_;intro E H0 K hE hK hO;cbv;refine A8 hE h (c162 N aB.Kind) (.refl _) fun r1 h=>?_;cbv;refine B1 hE h (fun _ h=>?_) fun _ h=>?_
 ·cbv;cases h;exact hK hO (.refl _)
 cbv;refine B1 hE h (fun _ h=>?_) fun _ h=>?_
 ·cbv;cases h;exact hK hO (.refl _)
 cbv;refine B1 hE h (fun _ h=>?_) fun _ h=>?_
 ·cbv;refine B1 hE h (fun _ h=>?_) fun _ h=>?_
  ·cbv;cases h;exact hK hO (.refl _)
  cbv;cases h;exact hK hO (.refl _)
 cbv;refine B1 hE h (fun _ h=>?_) fun _ h=>?_
 ·cbv;refine B1 hE h (fun _ h=>?_) fun _ h=>?_
  ·cbv;cases h;exact hK hO (.refl _)
  cbv;cases h;exact hK hO (.refl _)
 cbv;refine A8 hE h (c129 N aB.Value) (.refl _) fun r2 h=>?_;cbv;refine B1 hE h (fun _ h=>?_) fun _ h=>?_
 ·cbv;cases h;exact hK hO (.refl _)
 cbv;refine A8 hE h (c161 N aB.Kind aB.Value) (.refl _) fun r3 h=>?_;cbv;refine B1 hE h (fun _ h=>?_) fun _ h=>?_
 ·cbv;cases h;exact hK hO (.refl _)
 cbv;cases h;exact hK hO (.refl _)
theorem c182 (N bA aI r)(h:Ct N bA aI=some r):C0 prog 182 [vi bA,(E7 aI)] (vi r):=by
 unfold Ct at h
 refine O7 cf0 func182 call182 ntmps182 ?_;intro E H0 K hE hK hO;cbv;refine A8 hE h (c129 N aI) (.refl _) fun r1 h=>?_;cbv;refine B1 hE h (fun _ h=>?_) fun _ h=>?_
 ·cbv;cases h;exact hK hO (.refl _)
 cbv;refine A8 hE h (c161 N bA aI) (.refl _) fun r2 h=>?_;cbv;refine B1 hE h (fun _ h=>?_) fun _ h=>?_
 ·cbv;cases h;exact hK hO (.refl _)
 cbv;cases h;exact hK hO (.refl _)
def cf183 :Cf:=⟨[6],[],[],[],[],[]⟩
theorem c183 (N bA aI bY r)(h:Ej N bA aI bY=some r):C0 prog 183 [vi bA,(E7 aI),(E7 bY)] ((E7 r)):=by
 unfold Ej at h
 refine O7 cf183 func183 call183 ntmps183 ?_;intro E H0 K hE hK hO;cbv;refine D3 hE hO fun b1 H hO=>?_;cbv;refine B1 hE h (fun _ h=>?_) fun _ h=>?_
 ·cbv;refine A9 hE hO 0 rfl rfl fun H hO=>?_;cbv;refine B2 hE hO 0 rfl ?_;cbv;cases h;exact hK hO (.refl _)
 cbv;refine B1 hE h (fun _ h=>?_) fun _ h=>?_
 ·cbv;refine A9 hE hO 0 rfl rfl fun H hO=>?_;cbv;refine B2 hE hO 0 rfl ?_;cbv;cases h;exact hK hO (.refl _)
 cbv;refine B1 hE h (fun _ h=>?_) fun _ h=>?_
 ·cbv;refine A9 hE hO 0 rfl rfl fun H hO=>?_;cbv;refine B2 hE hO 0 rfl ?_;cbv;cases h;exact hK hO (.refl _)
 cbv;refine B1 hE h (fun _ h=>?_) fun _ h=>?_
 ·cbv;refine A9 hE hO 0 rfl rfl fun H hO=>?_;cbv;refine B2 hE hO 0 rfl ?_;cbv;cases h;exact hK hO (.refl _)
 cbv;refine B1 hE h (fun _ h=>?_) fun _ h=>?_
 ·cbv;refine A9 hE hO 0 rfl rfl fun H hO=>?_;cbv;refine B2 hE hO 0 rfl ?_;cbv;cases h;exact hK hO (.refl _)
 cbv;refine A9 hE hO 0 rfl rfl fun H hO=>?_;cbv;refine B2 hE hO 0 rfl ?_;cbv;cases h;exact hK hO (.refl _)
def cf163 :Cf:=⟨[4,8],[],[],[],[],[]⟩
theorem c163 (N aB aI r)(h:Ff N aB aI=some r):C0 prog 163 [(K1 aB),(E7 aI)] (.tup [(K1 r.1),vi r.2]):=by
 unfold Ff at h
 refine O7 cf163 func163 call163 ntmps163 ?_;intro E H0 K hE hK hO;cbv;refine D3 hE hO fun b1 H hO=>?_;cbv;refine A8 hE h (c181 N aB) (.refl _) fun r2 h=>?_;cbv;refine B1 hE h (fun _ h=>?_) fun _ h=>?_
 ·cbv;refine A9 hE hO 0 rfl rfl fun H hO=>?_;cbv;refine B2 hE hO 0 rfl ?_;cbv;cases h;exact hK hO (.refl _)
 cbv;refine A8 hE h (c182 N aB.Kind aI) (.refl _) fun r3 h=>?_;cbv;refine B1 hE h (fun _ h=>?_) fun _ h=>?_
 ·cbv;refine A9 hE hO 0 rfl rfl fun H hO=>?_;cbv;refine B2 hE hO 0 rfl ?_;cbv;cases h;exact hK hO (.refl _)
 cbv;refine B1 hE h (fun _ h=>?_) fun _ h=>?_
 ·cbv;refine A9 hE hO 0 rfl rfl fun H hO=>?_;cbv;refine B2 hE hO 0 rfl ?_;cbv;cases h;exact hK hO (.refl _)
 cbv;refine D3 hE hO fun b4 H hO=>?_;cbv;refine A9 hE hO 0 rfl rfl fun H hO=>?_;cbv;refine B1 hE h (fun _ h=>?_) fun _ h=>?_
 ·cbv;refine A9 hE hO 0 rfl rfl fun H hO=>?_;cbv;refine B2 hE hO 0 rfl ?_;cbv;refine A9 hE hO 1 rfl rfl fun H hO=>?_;cbv;refine B2 hE hO 1 rfl ?_;cbv;cases h;exact hK hO (.refl _)
 cbv;refine B1 hE h (fun _ h=>?_) fun _ h=>?_
 ·cbv;refine A8 hE h (c183 N aB.Kind aB.Value aI) (.refl _) fun r5 h=>?_;cbv;refine A9 hE hO 0 rfl rfl fun H hO=>?_;cbv;refine B2 hE hO 0 rfl ?_;cbv;refine A9 hE hO 1 rfl rfl fun H hO=>?_;cbv;refine B2 hE hO 1 rfl ?_;cbv;cases h;exact hK hO (.refl _)
 cbv;refine B2 hE hO 0 rfl ?_;cbv;refine A9 hE hO 1 rfl rfl fun H hO=>?_;cbv;refine B2 hE hO 1 rfl ?_;cbv;cases h;exact hK hO (.refl _)
def cf164 :Cf:=⟨[4],[],[],[],[],[]⟩
theorem c164 (N aB bD r)(h:Hv N aB bD=some r):C0 prog 164 [(K1 aB),(E7 bD)] (.tup [(E7 r.1),vi r.2]):=by
 unfold Hv at h
 refine O7 cf164 func164 call164 ntmps164 ?_;intro E H0 K hE hK hO;cbv;refine D3 hE hO fun b1 H hO=>?_;cbv;refine A8 hE h (c181 N aB) (.refl _) fun r2 h=>?_;cbv;refine B1 hE h (fun _ h=>?_) fun _ h=>?_
 ·cbv;refine A9 hE hO 0 rfl rfl fun H hO=>?_;cbv;refine B2 hE hO 0 rfl ?_;cbv;cases h;exact hK hO (.refl _)
 cbv;refine A8 hE h (c182 N aB.Kind bD) (.refl _) fun r3 h=>?_;cbv;refine B1 hE h (fun _ h=>?_) fun _ h=>?_
 ·cbv;refine A9 hE hO 0 rfl rfl fun H hO=>?_;cbv;refine B2 hE hO 0 rfl ?_;cbv;cases h;exact hK hO (.refl _)
 cbv;refine B1 hE h (fun _ h=>?_) fun _ h=>?_
 ·cbv;refine A9 hE hO 0 rfl rfl fun H hO=>?_;cbv;refine B2 hE hO 0 rfl ?_;cbv;cases h;exact hK hO (.refl _)
 cbv;refine B1 hE h (fun _ h=>?_) fun _ h=>?_
 ·cbv;refine A9 hE hO 0 rfl rfl fun H hO=>?_;cbv;refine B2 hE hO 0 rfl ?_;cbv;cases h;exact hK hO (.refl _)
 cbv;refine A9 hE hO 0 rfl rfl fun H hO=>?_;cbv;refine B2 hE hO 0 rfl ?_;cbv;cases h;exact hK hO (.refl _)
def cf127 :Cf:=⟨[6,8],[(9,11)],[],[],[],[]⟩
theorem c127 (N bA aG bD r) (h:LO N bA aG bD=some r):C0 prog 127 [vi bA,sr eBe8 aG,(E7 bD)] (.tup [(E7 r.1),vi r.2]):=by
 unfold LO at h
 refine O7 cf127 func127 call127 ntmps127 ?_;intro E H0 K hE hK hO;cbv;refine D3 hE hO fun b1 H hO=>?_;cbv;refine A8 hE h (c162 N bA) (.refl _) fun r2 h=>?_;cbv;refine B1 hE h (fun _ h=>?_) fun _ h=>?_
 ·cbv;refine A9 hE hO 0 rfl rfl fun H hO=>?_;cbv;refine B2 hE hO 0 rfl ?_;cbv;cases h;exact hK hO (.refl _)
 cbv;refine G1 hE ?_;cbv;refine B1 hE h (fun _ h=>?_) fun _ h=>?_
 ·cbv;refine A9 hE hO 0 rfl rfl fun H hO=>?_;cbv;refine B2 hE hO 0 rfl ?_;cbv;cases h;exact hK hO (.refl _)
 cbv;refine D3 hE hO fun b3 H hO=>?_;cbv;refine A9 hE hO 0 rfl rfl fun H hO=>?_;cbv;obtain⟨s5,hx,h⟩:=bind_some h;refine K0 cf127 hE Q6 (fun s4=>[(1,.v (sr eBe8 aG)),(5,.v (.eref (W1 bD) 0)),(6,.v (.ref b1 0)),(8,.v (.ref b3 0)),fi 9 s4.1]) (fun(s4:Int×C6) H1=>C3 Eq H0 [cb b3 (CY s4.2),cb b1 [vi 0,vi 0,.str (⟨#[]⟩)]] H1) (fun x e l H1=>match(generalizing:=false) x with| .inl y=>e= .exit 0∧l=[(5,.v (.eref (W1 bD) 0)),(6,.v (.ref b1 0)),(8,.v (.ref b3 0))]∧C3 Eq H0 [cb b3 (CY y),cb b1 [vi 0,vi 0,.str (⟨#[]⟩)]] H1| .inr y=>e= .ret∧l=[(6,.v (.ref b1 0)),fi 7 y.1]∧C3 Eq H0 [cb b3 (CY y.2),cb b1 [vi 0,vi 0,.str (⟨#[]⟩)]] H1) (by kernel_rfl) ?_ hx ?_ hO ?_
 ·intro s4 H o hO h;clear hx;cbv;refine G1 hE ?_;cbv;refine B1 hE h (fun _ h=>?_) fun _ h=>?_
  ·cbv;refine B2 hE hO 0 rfl ?_;cbv;refine C9 hE eBe3 h fun x6 h=>?_;cbv;refine R3 hE (g:=fun r7=>.tup [(K1 r7.1),vi r7.2]) h (c163 N s4.2 x6) (.refl _) fun r7 h=>?_;cbv;refine B1 hE h (fun _ h=>?_) fun _ h=>?_
   ·cbv;refine A9 hE hO 1 rfl rfl fun H hO=>?_;cbv;cases h;exact⟨_,_,rfl,⟨rfl,rfl,hO⟩,.e2 .z,rfl⟩
   cbv;refine A9 hE hO 0 rfl rfl fun H hO=>?_;cbv;cases h;exact⟨_,rfl,.e rfl (.e4 .z),rfl,hO⟩
  cbv;cases h;exact⟨_,_,rfl,⟨rfl,rfl,hO⟩,.e rfl (.e2 .z),rfl⟩
 ·exact .e rfl (.e4 .z)
 clear hx
 rcases s5 with y8|y10
 ·rintro e l H ⟨rfl,rfl,hO⟩;cbv;refine B2 hE hO 0 rfl ?_;cbv;refine A8 hE h (c164 N y8 bD) (.refl _) fun r9 h=>?_;cbv;refine A9 hE hO 1 rfl rfl fun H hO=>?_;cbv;refine B2 hE hO 1 rfl ?_;cbv;cases h;exact hK hO (.refl _)
 rintro e l H ⟨rfl,rfl,hO⟩;cbv;refine B2 hE hO 1 rfl ?_;cbv;cases h;exact hK hO (.refl _)
def cf128 :Cf:=⟨[8],[],[],[],[],[]⟩
theorem c128 (N aT aI aV aY r)(h:HV N aT aI aV aY=some r):C0 prog 128 [(KH aT),vi aI,vi aV,(Af aY)] (.tup [(Af r.1),.bool r.2]):=by
 unfold HV at h
 refine O7 cf128 func128 call128 ntmps128 ?_;intro E H0 K hE hK hO;cbv;refine D3 hE hO fun b1 H hO=>?_;cbv;refine B1 hE h (fun _ h=>?_) fun _ h=>?_
 ·cbv;refine A9 hE hO 0 rfl rfl fun H hO=>?_;cbv;refine B2 hE hO 0 rfl ?_;cbv;cases h;exact hK hO (.refl _)
 cbv;refine A8 hE h (c126 N aT aI) (.refl _) fun r2 h=>?_;cbv;refine G1 hE ?_;cbv;refine B1 hE h (fun _ h=>?_) fun _ h=>?_
 ·cbv;refine A9 hE hO 0 rfl rfl fun H hO=>?_;cbv;refine B2 hE hO 0 rfl ?_;cbv;cases h;exact hK hO (.tup (.cons (.agg (.cons (.refl _) (.cons (.refl _) (.cons (.refl _) (.cons (.refl _) (.cons (.lit _ (E0)) (.refl _))))))) (.refl _)))
 cbv;refine G1 hE ?_;cbv;refine C9 hE eBe6 h fun x3 h=>?_;cbv;refine A9 hE hO 0 rfl rfl fun H hO=>?_;cbv;refine B2 hE hO 0 rfl ?_;cbv;cases h;exact hK hO (.refl _)
def cf92 :Cf:=⟨[8],[(12,8),(14,11)],[],[],[],[]⟩
theorem c92 (N aC aT aV aY r) (h:HU N aC aT aV aY=some r):C0 prog 92 [(V9 aC),(KH aT),vi aV,(Af aY)] (.tup [(E7 r.1),vi r.2]):=by
 unfold HU at h
 refine O7 cf92 func92 call92 ntmps92 ?_;intro E H0 K hE hK hO;cbv;refine D3 hE hO fun b1 H hO=>?_;cbv;refine B1 hE h (fun _ h=>?_) fun _ h=>?_
 ·cbv;refine A9 hE hO 0 rfl rfl fun H hO=>?_;cbv;refine B2 hE hO 0 rfl ?_;cbv;cases h;exact hK hO (.refl _)
 cbv;refine B1 hE h (fun _ h=>?_) fun _ h=>?_
 ·cbv;refine A8 hE h (c126 N aT aC.Var) (.refl _) fun r2 h=>?_;cbv;refine G1 hE ?_;cbv;refine A9 hE hO 0 rfl rfl fun H hO=>?_;cbv;refine B2 hE hO 0 rfl ?_;cbv;cases h;exact hK hO (.refl _)
 cbv;refine B1 hE h (fun _ h=>?_) fun _ h=>?_
 ·cbv;refine A8 hE h (c126 N aT aC.Var) (.refl _) fun r3 h=>?_;cbv;replace hO:=hO.tl0 (t:=.nil) rfl;obtain⟨s6,hx,h⟩:=bind_some h;refine Bm cf92 hE Q6 (γ:=G3) (fun s4 g=>[(4,.v (.eref (CO aC) 0)),(8,.v (.ref b1 0)),(10,.v (.sl (lst eBe8 s4.1) g)),(11,.v (sr eBe2 r3)),fi 12 s4.2]) (fun s4 g H1=>Au g∧C3 Eq H0 [.tl g,cb b1 [vi 0,vi 0,.str (⟨#[]⟩)]] H1) (fun x e l H1=>match(generalizing:=false) x with| .inl y=>∃u1:G3,Au u1∧e= .exit 1∧l=[(4,.v (.eref (CO aC) 0)),(8,.v (.ref b1 0)),(10,.v (.sl (lst eBe8 y) u1))]∧C3 Eq H0 [.tl u1,cb b1 [vi 0,vi 0,.str (⟨#[]⟩)]] H1| .inr y=>∃u1:G3,Au u1∧e= .ret∧l=[(8,.v (.ref b1 0)),fi 9 6]∧C3 Eq H0 [.tl u1,cb b1 [vi 0,vi 0,.str (⟨#[]⟩)]] H1) (by kernel_rfl) ?_ .nil hx ?_ ?_ ?_
  ·rintro s4 t5 H o ⟨ht5,hO⟩ h;clear hx;cbv;refine G1 hE ?_;cbv;refine B1 hE h (fun _ h=>?_) fun _ h=>?_
   ·cbv;refine C9 hE eBe6 h fun x7 h=>?_;cbv;refine G1 hE ?_;cbv;refine B1 hE h (fun _ h=>?_) fun _ h=>?_
    ·cbv;refine A9 hE hO 1 rfl rfl fun H hO=>?_;cbv;cases h;exact⟨_,_,rfl,⟨t5,ht5,rfl,rfl,hO⟩,.e2 .z,rfl⟩
    cbv;refine C9 hE eBe6 h fun x8 h=>?_;cbv;refine C9 hE eBe3 h fun x9 h=>?_;cbv;refine BS (f:=eBe8) hE MC (by decide) hO 0 rfl ht5 (l:=s4.1) (m:=[x9]) (.refl _) (.lstc (.eq (eBe3 x9) (.refl _)) (.lst0)) h fun l11 t10 H hO ht10 h=>?_;cbv;cases h;exact⟨_,t10,rfl,.e rfl (.e4 .z),rfl,ht10,hO⟩
   cbv;cases h;exact⟨_,_,rfl,⟨t5,ht5,rfl,rfl,hO⟩,.e rfl (.e2 .z),rfl⟩
  ·exact .e2 (.v (.slt _ (.lst0)) (.e rfl (.e rfl (.z))))
  ·exact⟨trivial,hO⟩
  clear hx
  rcases s6 with y12|y15
  ·rintro e l H ⟨t13,ht13,rfl,rfl,hO⟩;cbv;refine A8 hE h (c127 N aC.Kind y12 aC.Value) (.cons (.refl _) (.cons (.ro _ _) (.refl _))) fun r14 h=>?_;cbv;refine A9 hE hO 1 rfl rfl fun H hO=>?_;cbv;refine B2 hE hO 1 rfl ?_;cbv;cases h;exact hK hO (.refl _)
  rintro e l H ⟨t16,ht16,rfl,rfl,hO⟩;cbv;refine B2 hE hO 1 rfl ?_;cbv;cases h;exact hK hO (.refl _)
 cbv;refine A8 hE h (c128 N aT aC.Var aV aY) (.refl _) fun r17 h=>?_;cbv;refine B1 hE h (fun _ h=>?_) fun _ h=>?_
 ·cbv;refine A9 hE hO 0 rfl rfl fun H hO=>?_;cbv;refine B2 hE hO 0 rfl ?_;cbv;cases h;exact hK hO (.refl _)
 cbv;refine B1 hE h (fun _ h=>?_) fun _ h=>?_
 ·cbv;refine A9 hE hO 0 rfl rfl fun H hO=>?_;cbv;refine B2 hE hO 0 rfl ?_;cbv;cases h;exact hK hO (.refl _)
 cbv;refine G1 hE ?_;cbv;refine B1 hE h (fun _ h=>?_) fun _ h=>?_
 ·cbv;refine A9 hE hO 0 rfl rfl fun H hO=>?_;cbv;refine B2 hE hO 0 rfl ?_;cbv;cases h;exact hK hO (.refl _)
 cbv;refine C9 hE eBe3 h fun x18 h=>?_;cbv;refine A8 hE h (c129 N x18) (.refl _) fun r19 h=>?_;cbv;refine B1 hE h (fun _ h=>?_) fun _ h=>?_
 ·cbv;refine A9 hE hO 0 rfl rfl fun H hO=>?_;cbv;refine B2 hE hO 0 rfl ?_;cbv;cases h;exact hK hO (.refl _)
 cbv;refine C9 hE eBe3 h fun x20 h=>?_;cbv;refine A9 hE hO 0 rfl rfl fun H hO=>?_;cbv;refine B2 hE hO 0 rfl ?_;cbv;cases h;exact hK hO (.refl _)
def cf130 :Cf:=⟨[],[],[(4,4)],[],[],[]⟩
theorem c130 (N aK r) (h:DG N aK=some r):C0 prog 130 [vi aK] (vi r):=by
 unfold DG at h
 refine O7 cf130 func130 call130 ntmps130 ?_;intro E H0 K hE hK hO;cbv;obtain⟨s1,hx,h⟩:=bind_some h;refine Y4 cf130 hE Q6 (fun e l H1=>e= .normal∧l=[fi 3 aK,(4,.v (.bool s1))]∧C3 Eq H0 [] H1) (by kernel_rfl) ?_ ?_
 ·clear h;have h:=hx;clear hx;cbv;refine B1 hE h (fun _ h=>?_) fun _ h=>?_
  ·cbv;cases h;exact⟨_,⟨rfl,rfl,hO⟩,.e2 .z,rfl⟩
  cbv;refine B1 hE h (fun _ h=>?_) fun _ h=>?_
  ·cbv;cases h;exact⟨_,⟨rfl,rfl,hO⟩,.e2 .z,rfl⟩
  cbv;refine B1 hE h (fun _ h=>?_) fun _ h=>?_
  ·cbv;cases h;exact⟨_,⟨rfl,rfl,hO⟩,.e2 .z,rfl⟩
  cbv;cases h;exact⟨_,⟨rfl,rfl,hO⟩,.e2 .z,rfl⟩
 clear hx;rintro e l H ⟨rfl,rfl,hO⟩;cbv;refine B1 hE h (fun _ h=>?_) fun _ h=>?_
 ·cbv;cases h;exact hK hO (.refl _)
 cbv;refine B1 hE h (fun _ h=>?_) fun _ h=>?_
 ·cbv;cases h;exact hK hO (.refl _)
 cbv;refine B1 hE h (fun _ h=>?_) fun _ h=>?_
 ·cbv;cases h;exact hK hO (.refl _)
 cbv;refine B1 hE h (fun _ h=>?_) fun _ h=>?_
 ·cbv;cases h;exact hK hO (.refl _)
 cbv;cases h;exact hK hO (.refl _)
def cf93 :Cf:=⟨[],[(5,21)],[],[],[],[]⟩
theorem c93 (N aK bF r) (h:DE N aK bF=some r):C0 prog 93 [vi aK,sr (V.int .i64) bF] (vi r):=by
 unfold DE at h
 refine O7 cf93 func93 call93 ntmps93 ?_;intro E H0 K hE hK hO;cbv;obtain⟨s2,hx,h⟩:=bind_some h;refine K0 cf93 hE Q6 (fun s1=>[fi 0 aK,(1,.v (sr (V.int .i64) bF)),fi 5 s1]) (fun s1 H1=>C3 Eq H0 [] H1) (fun x e l H1=>match(generalizing:=false) x with| .inl y=>e= .exit 0∧l=[]∧C3 Eq H0 [] H1| .inr y=>e= .ret∧l=[fi 4 9]∧C3 Eq H0 [] H1) (by kernel_rfl) ?_ hx ?_ hO ?_
 ·intro s1 H o hO h;clear hx;cbv;refine G1 hE ?_;cbv;refine B1 hE h (fun _ h=>?_) fun _ h=>?_
  ·cbv;refine A8 hE h (c130 N aK) (.refl _) fun r3 h=>?_;cbv;refine B1 hE h (fun _ h=>?_) fun _ h=>?_
   ·cbv;refine C9 hE (fun _=>rfl) h fun x4 h=>?_;cbv;refine B1 hE h (fun _ h=>?_) fun _ h=>?_
    ·cbv;cases h;exact⟨_,_,rfl,⟨rfl,rfl,hO⟩,.e rfl .z,rfl⟩
    cbv;refine B1 hE h (fun _ h=>?_) fun _ h=>?_
    ·cbv;refine C9 hE (fun _=>rfl) h fun x5 h=>?_;cbv;refine C9 hE (fun _=>rfl) h fun x6 h=>?_;cbv;refine B1 hE h (fun _ h=>?_) fun _ h=>?_
     ·cbv;cases h;exact⟨_,_,rfl,⟨rfl,rfl,hO⟩,.e rfl .z,rfl⟩
     cbv;cases h;exact⟨_,rfl,.e rfl (.e2 .z),rfl,hO⟩
    cbv;cases h;exact⟨_,rfl,.e rfl (.e2 .z),rfl,hO⟩
   cbv;refine B1 hE h (fun _ h=>?_) fun _ h=>?_
   ·cbv;refine C9 hE (fun _=>rfl) h fun x7 h=>?_;cbv;refine C9 hE (fun _=>rfl) h fun x8 h=>?_;cbv;refine B1 hE h (fun _ h=>?_) fun _ h=>?_
    ·cbv;cases h;exact⟨_,_,rfl,⟨rfl,rfl,hO⟩,.e rfl .z,rfl⟩
    cbv;cases h;exact⟨_,rfl,.e rfl (.e2 .z),rfl,hO⟩
   cbv;cases h;exact⟨_,rfl,.e rfl (.e2 .z),rfl,hO⟩
  cbv;cases h;exact⟨_,_,rfl,⟨rfl,rfl,hO⟩,.z,rfl⟩
 ·exact .e rfl (.e2 .z)
 clear hx
 rcases s2 with y9|y10
 ·rintro e l H ⟨rfl,rfl,hO⟩;cbv;cases h;exact hK hO (.refl _)
 rintro e l H ⟨rfl,rfl,hO⟩;cbv;cases h;exact hK hO (.refl _)
def cf94 :Cf:=⟨[4],[(3,8),(5,8),(7,8),(9,8),(11,6)],[],[],[],[]⟩
theorem c94 (N aK aG r) (h:Je N aK aG=some r):C0 prog 94 [vi aK,sr eBe8 aG] ((E7 r)):=by
 unfold Je at h
 refine O7 cf94 func94 call94 ntmps94 ?_;intro E H0 K hE hK hO;cbv;refine D3 hE hO fun b1 H hO=>?_;cbv;refine B1 hE h (fun _ h=>?_) fun _ h=>?_
 ·cbv;refine C9 hE eBe3 h fun x2 h=>?_;cbv;refine C9 hE eBe3 h fun x3 h=>?_;cbv;refine A9 hE hO 0 rfl rfl fun H hO=>?_;cbv;refine B2 hE hO 0 rfl ?_;cbv;cases h;exact hK hO (.refl _)
 cbv;refine B1 hE h (fun _ h=>?_) fun _ h=>?_
 ·cbv;refine C9 hE eBe3 h fun x4 h=>?_;cbv;refine C9 hE eBe3 h fun x5 h=>?_;cbv;refine A9 hE hO 0 rfl rfl fun H hO=>?_;cbv;refine B2 hE hO 0 rfl ?_;cbv;cases h;exact hK hO (.refl _)
 cbv;refine B1 hE h (fun _ h=>?_) fun _ h=>?_
 ·cbv;refine C9 hE eBe3 h fun x6 h=>?_;cbv;refine C9 hE eBe3 h fun x7 h=>?_;cbv;refine A8 hE h (c39 N (Ar.cmp .lss x6.Num x7.Num)) (.refl _) fun r8 h=>?_;cbv;refine A9 hE hO 0 rfl rfl fun H hO=>?_;cbv;refine B2 hE hO 0 rfl ?_;cbv;cases h;exact hK hO (.refl _)
 cbv;refine B1 hE h (fun _ h=>?_) fun _ h=>?_
 ·cbv;refine C9 hE eBe3 h fun x9 h=>?_;cbv;refine C9 hE eBe3 h fun x10 h=>?_;cbv;refine A8 hE h (c39 N (Ar.cmp .leq x9.Num x10.Num)) (.refl _) fun r11 h=>?_;cbv;refine A9 hE hO 0 rfl rfl fun H hO=>?_;cbv;refine B2 hE hO 0 rfl ?_;cbv;cases h;exact hK hO (.refl _)
 cbv;refine B1 hE h (fun _ h=>?_) fun _ h=>?_
 ·cbv;refine C9 hE eBe3 h fun x12 h=>?_;cbv;refine C9 hE eBe3 h fun x13 h=>?_;cbv;refine A8 hE h (c39 N (an (Ar.cmp .eql x12.Kind x13.Kind) (an (Ar.cmp .eql x12.Num x13.Num) (an (Ar.scmp .eql x12.Text x13.Text) true)))) (.refl _) fun r14 h=>?_;cbv;refine A9 hE hO 0 rfl rfl fun H hO=>?_;cbv;refine B2 hE hO 0 rfl ?_;cbv;cases h;exact hK hO (.refl _)
 cbv;refine B1 hE h (fun _ h=>?_) fun _ h=>?_
 ·cbv;refine C9 hE eBe3 h fun x15 h=>?_;cbv;refine B1 hE h (fun _ h=>?_) fun _ h=>?_
  ·cbv;refine C9 hE eBe3 h fun x16 h=>?_;cbv;refine A8 hE h (c39 N (Ar.cmp .eql x16.Num 1)) (.refl _) fun r17 h=>?_;cbv;refine A9 hE hO 0 rfl rfl fun H hO=>?_;cbv;refine B2 hE hO 0 rfl ?_;cbv;cases h;exact hK hO (.refl _)
  cbv;refine A8 hE h (c39 N false) (.refl _) fun r18 h=>?_;cbv;refine A9 hE hO 0 rfl rfl fun H hO=>?_;cbv;refine B2 hE hO 0 rfl ?_;cbv;cases h;exact hK hO (.refl _)
 cbv;refine B1 hE h (fun _ h=>?_) fun _ h=>?_
 ·cbv;refine C9 hE eBe3 h fun x19 h=>?_;cbv;refine B1 hE h (fun _ h=>?_) fun _ h=>?_
  ·cbv;refine A8 hE h (c39 N true) (.refl _) fun r20 h=>?_;cbv;refine A9 hE hO 0 rfl rfl fun H hO=>?_;cbv;refine B2 hE hO 0 rfl ?_;cbv;cases h;exact hK hO (.refl _)
  cbv;refine C9 hE eBe3 h fun x21 h=>?_;cbv;refine A8 hE h (c39 N (Ar.cmp .eql x21.Num 1)) (.refl _) fun r22 h=>?_;cbv;refine A9 hE hO 0 rfl rfl fun H hO=>?_;cbv;refine B2 hE hO 0 rfl ?_;cbv;cases h;exact hK hO (.refl _)
 cbv;refine C9 hE eBe3 h fun x23 h=>?_;cbv;refine A8 hE h (c39 N (Ar.cmp .neq x23.Num 1)) (.refl _) fun r24 h=>?_;cbv;refine A9 hE hO 0 rfl rfl fun H hO=>?_;cbv;refine B2 hE hO 0 rfl ?_;cbv;cases h;exact hK hO (.refl _)
def cf60 :Cf:=⟨[8,3000053,8000053,9000053],[(8,14),(11,8)],[],[],[],[]⟩
theorem c60 (N:Nat):∀n aC aT aV aY r,CE N n aC aT aV aY=some r→C0 prog 60 [(V9 aC),(KH aT),vi aV,(Af aY)] (.tup [(E7 r.1),vi r.2]):=by
 intro n
 induction n with
 |zero=>intro aC aT aV aY r h;cases h
 |succ n ih=>
 intro aC aT aV aY r h
 unfold CE at h
 refine O7 cf60 func60 call60 ntmps60 ?_;intro E H0 K hE hK hO;cbv;refine D3 hE hO fun b1 H hO=>?_;cbv;refine G1 hE ?_;cbv;refine B1 hE h (fun _ h=>?_) fun _ h=>?_
 ·cbv;refine A8 hE h (c92 N aC aT aV aY) (.refl _) fun r2 h=>?_;cbv;refine A9 hE hO 0 rfl rfl fun H hO=>?_;cbv;refine B2 hE hO 0 rfl ?_;cbv;cases h;exact hK hO (.refl _)
 cbv;replace hO:=hO.tl0 (t:=.nil) rfl;replace hO:=hO.tl0 (t:=.nil) rfl;obtain⟨s6,hx,h⟩:=bind_some h;refine Bm cf60 hE Q6 (γ:=G3×G3) (fun s3 g=>[fi 2 aV,(4,.v (.eref (CO aC) 0)),(5,.v (.eref (Yw aT) 0)),(7,.v (.eref (Ky aY) 0)),(8,.v (.ref b1 0)),(10,.v (.sl (lst eBe8 s3.1) g.2)),(11,.v (.sl (lst (V.int .i64) s3.2.1) g.1)),fi 12 s3.2.2]) (fun s3 g H1=>Au g.1∧Au g.2∧C3 Eq H0 [.tl g.1,.tl g.2,cb b1 [vi 0,vi 0,.str (⟨#[]⟩)]] H1) (fun x e l H1=>match(generalizing:=false) x with| .inl y=>∃u1:G3,Au u1∧∃u2:G3,Au u2∧e= .exit 0∧l=[(4,.v (.eref (CO aC) 0)),(8,.v (.ref b1 0)),(10,.v (.sl (lst eBe8 y.1) u2)),(11,.v (.sl (lst (V.int .i64) y.2) u1))]∧C3 Eq H0 [.tl u1,.tl u2,cb b1 [vi 0,vi 0,.str (⟨#[]⟩)]] H1| .inr y=>∃u1:G3,Au u1∧∃u2:G3,Au u2∧e= .ret∧l=[(8,.v (.ref b1 0)),fi 9 y]∧C3 Eq H0 [.tl u1,.tl u2,cb b1 [vi 0,vi 0,.str (⟨#[]⟩)]] H1) (by kernel_rfl) ?_ (⟨.nil,.nil⟩) hx ?_ ?_ ?_
 ·rintro s3 ⟨t4,t5⟩ H o ⟨ht4,ht5,hO⟩ h;clear hx;cbv;refine G1 hE ?_;cbv;refine B1 hE h (fun _ h=>?_) fun _ h=>?_
  ·cbv;refine C9 hE eBf0 h fun x7 h=>?_;cbv;refine R3 hE (g:=fun r8=>.tup [(E7 r8.1),vi r8.2]) h (ih x7 aT aV aY) (.refl _) fun r8 h=>?_;cbv;refine B1 hE h (fun _ h=>?_) fun _ h=>?_
   ·cbv;refine A9 hE hO 2 rfl rfl fun H hO=>?_;cbv;cases h;exact⟨_,_,rfl,⟨t4,ht4,t5,ht5,rfl,rfl,hO⟩,.e2 .z,rfl⟩
   cbv;refine Rq hE hO 1 rfl ht5 fun H hO=>?_;cbv;refine Fv hE trivial ?_;cbv;refine VK (f:=eBe8) hE MC (by decide) (l:=s3.1) (m:=[r8.1]) (.refl _) (.lstc (.eq (eBe3 r8.1) (.refl _)) (.lst0)) h fun l9 h=>?_;cbv;refine Rr hE hO 1 rfl fun t10 H hO ht10=>?_;cbv;refine BS (f:=(V.int .i64)) hE (fun _=>rfl) (by decide) hO 0 rfl ht4 (l:=s3.2.1) (m:=[r8.1.Kind]) (.refl _) (.lstc (.refl _) (.lst0)) h fun l12 t11 H hO ht11 h=>?_;cbv;cases h;exact⟨_,⟨t11,t10⟩,rfl,.e4 (.e4 .z),rfl,ht11,ht10,hO⟩
  cbv;cases h;exact⟨_,_,rfl,⟨t4,ht4,t5,ht5,rfl,rfl,hO⟩,.e4 .z,rfl⟩
 ·exact .e rfl (.e4 (.v (.slt _ (.lst0)) (.v (.slt _ (.lst0)) (.e rfl (.z)))))
 ·exact⟨trivial,trivial,hO⟩
 clear hx
 rcases s6 with y13|y18
 ·rintro e l H ⟨t14,ht14,t15,ht15,rfl,rfl,hO⟩;cbv;refine A8 hE h (c93 N aC.Op y13.2) (.cons (.refl _) (.cons (.ro _ _) (.refl _))) fun r16 h=>?_;cbv;refine B1 hE h (fun _ h=>?_) fun _ h=>?_
  ·cbv;refine A9 hE hO 2 rfl rfl fun H hO=>?_;cbv;refine B2 hE hO 2 rfl ?_;cbv;cases h;exact hK hO (.refl _)
  cbv;refine A8 hE h (c94 N aC.Op y13.1) (.cons (.refl _) (.cons (.ro _ _) (.refl _))) fun r17 h=>?_;cbv;refine A9 hE hO 2 rfl rfl fun H hO=>?_;cbv;refine B2 hE hO 2 rfl ?_;cbv;cases h;exact hK hO (.refl _)
 rintro e l H ⟨t19,ht19,t20,ht20,rfl,rfl,hO⟩;cbv;refine B2 hE hO 2 rfl ?_;cbv;cases h;exact hK hO (.refl _)
def cf38 :Cf:=⟨[8],[],[],[],[],[]⟩
theorem c38 (N aC aT aV aY r)(h:HW N aC aT aV aY=some r):C0 prog 38 [(V9 aC),(KH aT),vi aV,(Af aY)] (.tup [(E7 r.1),vi r.2]):=by
 unfold HW at h
 refine O7 cf38 func38 call38 ntmps38 ?_;intro E H0 K hE hK hO;cbv;refine D3 hE hO fun b1 H hO=>?_;cbv;refine A8 hE h (c59 N aC) (.refl _) fun r2 h=>?_;cbv;refine B1 hE h (fun _ h=>?_) fun _ h=>?_
 ·cbv;refine A9 hE hO 0 rfl rfl fun H hO=>?_;cbv;refine B2 hE hO 0 rfl ?_;cbv;cases h;exact hK hO (.refl _)
 cbv;refine A8 hE h (c60 N N aC aT aV aY) (.refl _) fun r3 h=>?_;cbv;refine A9 hE hO 0 rfl rfl fun H hO=>?_;cbv;refine B2 hE hO 0 rfl ?_;cbv;cases h;exact hK hO (.refl _)
def cf11 :Cf:=⟨[],[(2,5)],[],[],[],[]⟩
theorem c11 (N aC aT aV aY r)(h:DH N aC aT aV aY=some r):C0 prog 11 [(V9 aC),(KH aT),vi aV,(Af aY)] (.bool r):=by
 unfold DH at h
 refine O7 cf11 func11 call11 ntmps11 ?_;intro E H0 K hE hK hO;cbv;refine A8 hE h (c38 N aC aT aV aY) (.refl _) fun r1 h=>?_;cbv;refine B1 hE h (fun _ h=>?_) fun _ h=>?_
 ·cbv;refine R3 hE (g:=fun r2=>(E7 r2)) h (c39 N true) (.refl _) fun r2 h=>?_;cbv;cases h;exact hK hO (.refl _)
 cbv;cases h;exact hK hO (.refl _)
def cf40 :Cf:=⟨[4],[(4,6)],[],[],[],[]⟩
theorem c40 (N aG bJ r) (h:GV N aG bJ=some r):C0 prog 40 [sr eBe2 aG,(KF bJ)] (.tup [(Af r.1),.bool r.2]):=by
 unfold GV at h
 refine O7 cf40 func40 call40 ntmps40 ?_;intro E H0 K hE hK hO;cbv;refine D3 hE hO fun b1 H hO=>?_;cbv;obtain⟨s3,hx,h⟩:=bind_some h;refine K0 cf40 hE Q6 (fun s2=>[(0,.v (sr eBe2 aG)),(3,.v (.eref (AS3 bJ) 0)),(4,.v (.ref b1 0)),fi 6 s2]) (fun s2 H1=>C3 Eq H0 [cb b1 [vi 0,vi 0,vi 0,vi 0,.sl [] .nil]] H1) (fun x e l H1=>match(generalizing:=false) x with| .inl y=>e= .exit 0∧l=[(4,.v (.ref b1 0))]∧C3 Eq H0 [cb b1 [vi 0,vi 0,vi 0,vi 0,.sl [] .nil]] H1| .inr y=>e= .ret∧l=[(4,.v (.ref b1 0)),(5,.b true)]∧C3 Eq H0 [cb b1 (Ky y)] H1) (by kernel_rfl) ?_ hx ?_ hO ?_
 ·intro s2 H o hO h;clear hx;cbv;refine G1 hE ?_;cbv;refine B1 hE h (fun _ h=>?_) fun _ h=>?_
  ·cbv;refine C9 hE eBe6 h fun x4 h=>?_;cbv;refine R3 hE (g:=fun r5=>(KF r5)) h (c12 N x4) (.refl _) fun r5 h=>?_;cbv;refine B1 hE h (fun _ h=>?_) fun _ h=>?_
   ·cbv;refine C9 hE eBe6 h fun x6 h=>?_;cbv;refine A9 hE hO 0 rfl rfl fun H hO=>?_;cbv;cases h;exact⟨_,_,rfl,⟨rfl,rfl,hO⟩,.e rfl (.b rfl (.z)),rfl⟩
   cbv;cases h;exact⟨_,rfl,.e4 .z,rfl,hO⟩
  cbv;cases h;exact⟨_,_,rfl,⟨rfl,rfl,hO⟩,.e rfl .z,rfl⟩
 ·exact .e4 .z
 clear hx
 rcases s3 with y7|y8
 ·rintro e l H ⟨rfl,rfl,hO⟩;cbv;refine A9 hE hO 0 rfl rfl fun H hO=>?_;cbv;refine B2 hE hO 0 rfl ?_;cbv;cases h;exact hK hO (.tup (.cons (.agg (.cons (.refl _) (.cons (.refl _) (.cons (.refl _) (.cons (.refl _) (.cons (.lit _ (E0)) (.refl _))))))) (.refl _)))
 rintro e l H ⟨rfl,rfl,hO⟩;cbv;refine B2 hE hO 0 rfl ?_;cbv;cases h;exact hK hO (.refl _)
def cf13 :Cf:=⟨[6,7,3000056,8000056,9000056],[(8,13)],[],[],[(58,1000007)],[]⟩
theorem c13 (N aG bZ cF r) (h:Fc N aG bZ cF=some r):C0 prog 13 [sr eBe2 aG,vi bZ,sr eBf1 cF] ((KH r)):=by
 unfold Fc at h
 refine O7 cf13 func13 call13 ntmps13 ?_;intro E H0 K hE hK hO;cbv;refine D3 hE hO fun b1 H hO=>?_;cbv;refine AR4 hE (f:=eBe2) (by decide) hO 1 h fun l3 w2 H hw2 h hO=>?_;have hO:C3 Eq H0 (.blk w2.q.id (.arr 1 (w2.q.pre++lst (CS eBe2) w2.row++w2.q.rest))::cb b1 [.sl [] .nil]::(JO w2++[])) H:=hO;cbv;refine D3 hE hO fun b4 H hO=>?_;cbv;refine A9 hE hO 0 rfl rfl fun H hO=>?_;cbv;obtain⟨s7,hx,h⟩:=bind_some h;refine Bm cf13 hE Q6 (γ:=Rw B3) (fun s5 g=>[(0,.v (sr eBe2 aG)),fi 1 bZ,(2,.v (sr eBf1 cF)),(6,.v (.ref b1 0)),(7,.v (.ref b4 0)),fi 8 s5.1]) (fun s5 g H1=>Ef g s5.2∧C3 Eq H0 (cb b4 [.own g.q.id g.q.lo g.q.n]:: .blk g.q.id (.arr 1 (g.q.pre++lst (CS eBe2) g.row++g.q.rest))::cb b1 [.sl [] .nil]::(JO g++[])) H1) (fun x e l H1=>∃u1:Rw B3,Ef u1 x∧e= .exit 0∧l=[(6,.v (.ref b1 0)),(7,.v (.ref b4 0))]∧C3 Eq H0 (cb b4 [.own u1.q.id u1.q.lo u1.q.n]:: .blk u1.q.id (.arr 1 (u1.q.pre++lst (CS eBe2) u1.row++u1.q.rest))::cb b1 [.sl [] .nil]::(JO u1++[])) H1) (by kernel_rfl) ?_ w2 hx ?_ ?_ ?_
 ·rintro s5 w6 H o ⟨hw6,hO⟩ h;clear hx;cbv;refine G1 hE ?_;cbv;refine B1 hE h (fun _ h=>?_) fun _ h=>?_
  ·cbv;refine C9 hE eBf9 h fun x8 h=>?_;cbv;refine A8 hE h (c40 N aG x8.Ref) (.refl _) fun r9 h=>?_;cbv;refine B1 hE h (fun _ h=>?_) fun _ h=>?_
   ·cbv;obtain⟨x10,hxx10,h⟩:=bind_some h
    obtain⟨hjx10,t11,hrx10,hax10⟩:=hw6.at hxx10
    obtain⟨Rx10,hO,hbx10⟩:=hO.rtake (w:=w6) (T1:=[]) (T2:=[]) 3 rfl hrx10;refine Rq hE hO 0 rfl hax10 fun H hO=>?_;cbv;refine B2 hE hO 1 rfl ?_;cbv;refine B2 hE hO 1 rfl ?_;cbv;refine VY hE (f:=CS eBe2) hO hw6.ok 2 rfl hjx10 ?_;cbv;refine Ai5 hE (f:=CS eBe2) (fun _=>rfl) hO hw6.ok 2 rfl hjx10.1 hrx10 ?_;cbv;refine Fv hE trivial ?_;cbv;refine VK (f:=eBe2) hE Ud (by decide) (l:=x10) (m:=[r9.1]) (.refl _) (.lstc (.eq (eBe6 r9.1) (.refl _)) (.lst0)) h fun l15 h=>?_;cbv;refine Rr hE hO 0 rfl fun t12 H hO htt12=>?_;cbv;refine VY hE (f:=CS eBe2) hO hw6.ok 2 rfl hjx10 ?_;cbv;refine Ye hE (f:=CS eBe2) (tz:=1) (x':=(l15,t12)) (fun _=>⟨.sl (lst eBe2 l15) t12,.refl _,rfl,rfl,rfl⟩) (by decide) hO hw6.ok 2 rfl hjx10 fun H hO=>?_;cbv;obtain⟨l14,hu,h⟩:=bind_some h;obtain⟨w13,hqw13,hw13,hO⟩:∃w0:Rw B3,w0.q=w6.q∧Ef w0 l14∧C3 Eq H0 (cb b4 [.own w0.q.id w0.q.lo w0.q.n]:: .blk w0.q.id (.arr 1 (w0.q.pre++lst (CS eBe2) w0.row++w0.q.rest))::cb b1 [.sl [] .nil]::(JO w0++[])) H:=⟨(⟨w6.q,w6.row.set (x8.Var).toNat (l15,t12)⟩:Rw B3),rfl,by rw[WA hu];exact hw6.put _ htt12,(by have e:=hbx10 (l15,t12) H [cb b4 [.own w6.q.id w6.q.lo w6.q.n],.blk w6.q.id (.arr 1 (w6.q.pre++lst (CS eBe2) (w6.row.set (x8.Var).toNat (l15,t12))++w6.q.rest)),cb b1 [.sl [] .nil]] hO;simp only[Cx,J1,F2]at e ⊢;exact e)⟩
    try rw[←hqw13]
    cases h;exact⟨_,w13,rfl,.e2 (.e4 .z),rfl,hw13,hO⟩
   cbv;cases h;exact⟨_,w6,rfl,.e2 (.e4 .z),rfl,hw6,hO⟩
  cbv;cases h;exact⟨_,_,rfl,⟨w6,hw6,rfl,rfl,hO⟩,.e2 .z,rfl⟩
 ·exact .e2 (.e4 .z)
 ·exact⟨hw2,hO⟩
 clear hx;rintro e l H ⟨w16,hw16,rfl,rfl,hO⟩;cbv;refine XB hE (e:=eBf8) eBg9 hO hw16 0 1 rfl rfl rfl (by decide) fun H hO=>?_;have hO:C3 Eq H0 [cb b4 [sr eBf8 s7],cb b1 [.sl [] .nil]] H:=hO.rdrop (w:=w16) (T1:=[]) (T2:=[]) 2 rfl;cbv;refine B2 hE hO 0 rfl ?_;cbv;refine A9 hE hO 1 rfl rfl fun H hO=>?_;cbv;refine B2 hE hO 1 rfl ?_;cbv;cases h;exact hK hO (.refl _)
theorem c41 (N:Nat) (aH:List B0) (bC:V) (aW:B0→Option Bool) (bM:∀y1 q,aW y1=some q→Y5 prog bC [(V9 y1)] (.bool q)) (r:Int) (h:Q7 N aH aW=some r):C0 prog 41 [sr eBe5 aH,bC] (vi r):=by
 unfold Q7 at h
 refine O7 cf0 func41 call41 ntmps41 ?_;intro E H0 K hE hK hO;cbv;refine G1 hE ?_;cbv;obtain⟨s2,hx,h⟩:=bind_some h;refine K0 cf0 hE Q6 (fun s1=>[(0,.v (sr eBe5 aH)),(1,.v (bC)),fi 7 (Ar.len aH),fi 8 s1]) (fun s1 H1=>C3 Eq H0 [] H1) (fun x e l H1=>match(generalizing:=false) x with| .inl y=>e= .exit 0∧l=[]∧C3 Eq H0 [] H1| .inr y=>e= .ret∧l=[fi 4 y]∧C3 Eq H0 [] H1) (by kernel_rfl) ?_ hx ?_ hO ?_
 ·intro s1 H o hO h;clear hx;cbv;refine B1 hE h (fun _ h=>?_) fun _ h=>?_
  ·cbv;refine C9 hE eBf0 h fun x3 h=>?_;cbv;refine Bn hE (g:=fun r4=>.bool r4) h (fun r4 hx=>bM x3 r4 hx) (.refl _) fun r4 h=>?_;cbv;refine B1 hE h (fun _ h=>?_) fun _ h=>?_
   ·cbv;cases h;exact⟨_,_,rfl,⟨rfl,rfl,hO⟩,.e rfl .z,rfl⟩
   cbv;cases h;exact⟨_,rfl,.e4 .z,rfl,hO⟩
  cbv;cases h;exact⟨_,_,rfl,⟨rfl,rfl,hO⟩,.z,rfl⟩
 ·exact .e4 .z
 clear hx
 rcases s2 with y5|y6
 ·rintro e l H ⟨rfl,rfl,hO⟩;cbv;cases h;exact hK hO (.refl _)
 rintro e l H ⟨rfl,rfl,hO⟩;cbv;cases h;exact hK hO (.refl _)
theorem c14 (N:Nat)(aH:List B0)(bC:V)(aW:B0→Option Bool)(bM:∀y1 q,aW y1=some q→Y5 prog bC [(V9 y1)] (.bool q))(r:Bool)(h:K4 N aH aW=some r):C0 prog 14 [sr eBe5 aH,bC] (.bool r):=by
 unfold K4 at h
 refine O7 cf0 func14 call14 ntmps14 ?_;intro E H0 K hE hK hO;cbv;refine A8 hE h (c41 N aH bC aW bM) (.refl _) fun r1 h=>?_;cbv;cases h;exact hK hO (.refl _)
theorem c15 (N aL aF r)(h:O6 N aL aF=some r):C0 prog 15 [(V9 aL),.eref (Yw aF) 0] (.bool r):=by
 unfold O6 at h
 refine O7 cf0 func15 call15 ntmps15 ?_;intro E H0 K hE hK hO;cbv;refine A8 hE h (c11 N aL aF (-1) (⟨0,0,0,0,[]⟩:B3)) (.cons (.refl _) (.cons (.refl _) (.cons (.refl _) (.cons (.agg (.cons (.refl _) (.cons (.refl _) (.cons (.refl _) (.cons (.refl _) (.cons (.lit _ (E0)) (.refl _))))))) (.refl _))))) fun r1 h=>?_;cbv;cases h;exact hK hO (.refl _)
theorem c61 (N aB aD r)(h:GU N aB aD=some r):C0 prog 61 [(HD aB),(HD aD)] (vi r):=by
 unfold GU at h
 refine O7 cf0 func61 call61 ntmps61 ?_;intro E H0 K hE hK hO;cbv;refine A8 hE h (c25 N aB.Ref aD.Ref) (.refl _) fun r1 h=>?_;cbv;refine B1 hE h (fun _ h=>?_) fun _ h=>?_
 ·cbv;cases h;exact hK hO (.refl _)
 cbv;refine B1 hE h (fun _ h=>?_) fun _ h=>?_
 ·cbv;cases h;exact hK hO (.refl _)
 cbv;refine B1 hE h (fun _ h=>?_) fun _ h=>?_
 ·cbv;cases h;exact hK hO (.refl _)
 cbv;cases h;exact hK hO (.refl _)
def cf42 :Cf:=⟨[],[(4,10)],[],[],[],[]⟩
theorem c42 (N aB aD r) (h:AS N aB aD=some r):C0 prog 42 [(Kf aB),(Kf aD)] (vi r):=by
 unfold AS at h
 refine O7 cf42 func42 call42 ntmps42 ?_;intro E H0 K hE hK hO;cbv;obtain⟨s2,hx,h⟩:=bind_some h;refine K0 cf42 hE Q6 (fun s1=>[(2,.v (.eref (Js aB) 0)),(3,.v (.eref (Js aD) 0)),fi 5 s1]) (fun s1 H1=>C3 Eq H0 [] H1) (fun x e l H1=>match(generalizing:=false) x with| .inl y=>e= .exit 0∧l=[(2,.v (.eref (Js aB) 0)),(3,.v (.eref (Js aD) 0))]∧C3 Eq H0 [] H1| .inr y=>e= .ret∧l=[fi 4 y]∧C3 Eq H0 [] H1) (by kernel_rfl) ?_ hx ?_ hO ?_
 ·intro s1 H o hO h;clear hx;cbv;refine G1 hE ?_;cbv;refine G1 hE ?_;cbv;refine B1 hE h (fun _ h=>?_) fun _ h=>?_
  ·cbv;refine C9 hE eBf9 h fun x3 h=>?_;cbv;refine C9 hE eBf9 h fun x4 h=>?_;cbv;refine A8 hE h (c61 N x3 x4) (.refl _) fun r5 h=>?_;cbv;refine B1 hE h (fun _ h=>?_) fun _ h=>?_
   ·cbv;cases h;exact⟨_,_,rfl,⟨rfl,rfl,hO⟩,.e rfl .z,rfl⟩
   cbv;cases h;exact⟨_,rfl,.e rfl (.e2 .z),rfl,hO⟩
  cbv;cases h;exact⟨_,_,rfl,⟨rfl,rfl,hO⟩,.e2 .z,rfl⟩
 ·exact .e rfl (.e2 .z)
 clear hx
 rcases s2 with y6|y7
 ·rintro e l H ⟨rfl,rfl,hO⟩;cbv;refine G1 hE ?_;cbv;refine G1 hE ?_;cbv;refine B1 hE h (fun _ h=>?_) fun _ h=>?_
  ·cbv;cases h;exact hK hO (.refl _)
  cbv;refine G1 hE ?_;cbv;refine G1 hE ?_;cbv;refine B1 hE h (fun _ h=>?_) fun _ h=>?_
  ·cbv;cases h;exact hK hO (.refl _)
  cbv;cases h;exact hK hO (.refl _)
 rintro e l H ⟨rfl,rfl,hO⟩;cbv;cases h;exact hK hO (.refl _)
def cf16 :Cf:=⟨[],[(6,8)],[],[],[],[]⟩
theorem c16 (N aB aD r) (h:HR N aB aD=some r):C0 prog 16 [sr eBe4 aB,sr eBe4 aD] (.bool r):=by
 unfold HR at h
 refine O7 cf16 func16 call16 ntmps16 ?_;intro E H0 K hE hK hO;cbv;refine G1 hE ?_;cbv;refine G1 hE ?_;cbv;refine B1 hE h (fun _ h=>?_) fun _ h=>?_
 ·cbv;cases h;exact hK hO (.refl _)
 cbv;obtain⟨s2,hx,h⟩:=bind_some h;refine K0 cf16 hE Q6 (fun s1=>[(0,.v (sr eBe4 aB)),(1,.v (sr eBe4 aD)),fi 5 s1]) (fun s1 H1=>C3 Eq H0 [] H1) (fun x e l H1=>match(generalizing:=false) x with| .inl y=>e= .exit 0∧l=[]∧C3 Eq H0 [] H1| .inr y=>e= .ret∧l=[(4,.b false)]∧C3 Eq H0 [] H1) (by kernel_rfl) ?_ hx ?_ hO ?_
 ·intro s1 H o hO h;clear hx;cbv;refine G1 hE ?_;cbv;refine B1 hE h (fun _ h=>?_) fun _ h=>?_
  ·cbv;refine C9 hE eBf4 h fun x3 h=>?_;cbv;refine C9 hE eBf4 h fun x4 h=>?_;cbv;refine A8 hE h (c42 N x3 x4) (.refl _) fun r5 h=>?_;cbv;refine B1 hE h (fun _ h=>?_) fun _ h=>?_
   ·cbv;cases h;exact⟨_,_,rfl,⟨rfl,rfl,hO⟩,.b rfl (.z),rfl⟩
   cbv;cases h;exact⟨_,rfl,.e rfl (.e2 .z),rfl,hO⟩
  cbv;cases h;exact⟨_,_,rfl,⟨rfl,rfl,hO⟩,.z,rfl⟩
 ·exact .e rfl (.e2 .z)
 clear hx
 rcases s2 with y6|y7
 ·rintro e l H ⟨rfl,rfl,hO⟩;cbv;cases h;exact hK hO (.refl _)
 rintro e l H ⟨rfl,rfl,hO⟩;cbv;cases h;exact hK hO (.refl _)
end Go.Ab
