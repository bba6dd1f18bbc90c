/- . -/
import Derived.Test.YtnfefddbggfopaaGreatDoorA16
import Derived.Deep.Slices
import Derived.Carry
import Derived.Lib.LaidTab
set_option linter.all false
namespace Go.Ab
open Go.RowKit Go.Proofs Go.Proofs.Tryz L7
variable [Ar][L7]
set_option maxRecDepth 100000
def cf91:=cfA [10]
def c91 (N aA r) (h:AU N aA=some r):C3 prog 91 [(C9 aA)] (.tup [sr eBg9 r.1,sr eBg8 r.2.1,vi r.2.2]):=by
 refine N2 cf91 func91 call91 ntmps91 ?_;intro E H0 K hE hK hO
 repeat' (cbv;first|apply B7 hE h<;>intro _ h|apply G9 hE|refine A9 hE h (c134 _ _) .z fun _ h=>?_|refine A9 hE h (c135 _ _ _) .z fun r2 h=>?_|(cases h;exact hK hO (.tup (.cons (.lit _ (B5)) (.cons (.lit _ (B5)) .z)))))
 cbv;replace hO:=hO.tl0 (t:=.nil) rfl;replace hO:=hO.tl0 (t:=.nil) rfl;obtain⟨s6,hx,h⟩:=A7 h;refine J9 cf91 hE J6 (γ:=E7×E7) (fun s3 g=>[(6,.v (sr eBh8 r2)),(7,.v (.sl (Ar.lst eBg9 s3.1) g.2)),(8,.v (.sl (Ar.lst eBg8 s3.2.1) g.1)),fi 9 s3.2.2]) (fun s3 g H1=>K6 g.1∧K6 g.2∧B6 Eq H0 [.tl g.1,.tl g.2] H1) (fun x e l H1=>match(generalizing:=false) x with| .inl y=>∃u1:E7,K6 u1∧∃u2:E7,K6 u2∧e= .exit 0∧l=[(7,.v (.sl (Ar.lst eBg9 y.1) u2)),(8,.v (.sl (Ar.lst eBg8 y.2) u1))]∧B6 Eq H0 [.tl u1,.tl u2] H1| .inr y=>∃u1:E7,K6 u1∧∃u2:E7,K6 u2∧e= .ret∧l=[(2,.v (.sl [] .nil)),(3,.v (.sl [] .nil)),fi 4 17]∧B6 Eq H0 [.tl u1,.tl u2] H1) (by kernel_rfl) ?_ (⟨.nil,.nil⟩) hx ?_ ?_ ?_
 ·rintro s3 ⟨t4,t5⟩ H o ⟨ht4,ht5,hO⟩ h;cbv;apply G9 hE;cbv;apply B7 hE h<;>intro _ h
  ·cbv;refine D8 hE eBi4 h fun x7 h=>?_;cbv;refine E5 hE hO fun b8 H hO=>?_;cbv;refine B9 hE hO 0 rfl rfl fun H hO=>?_;cbv;refine B9 hE hO 0 rfl rfl fun H hO=>?_;cbv;refine D8 hE eBi4 h fun x9 h=>?_;cbv;apply B7 hE h<;>intro _ h
   ·cbv;refine D8 hE eBi4 h fun x10 h=>?_;cbv;refine A9 hE h (c134 N x10.Rest) .z fun r11 h=>?_;cbv;apply B7 hE h<;>intro _ h
    ·cbv;cases h;exact⟨_,_,rfl,⟨t4,ht4,t5,ht5,rfl,rfl,hO.tail⟩,.e rfl (.e2 .z),rfl⟩
    cbv;refine D8 hE eBi4 h fun x12 h=>?_
    repeat' (cbv;first|apply B7 hE h<;>intro _ h|apply G9 hE|refine A9 hE h (c130 _ _ _) (.cons (.ro _ _) .z) fun r13 h=>?_|refine D8 hE eBi4 h fun x14 h=>?_|apply D0 hE hO 0 rfl|refine B9 hE hO 0 rfl rfl fun H hO=>?_|(cases h;exact⟨_,⟨t15,t17⟩,rfl,.e4 .z,rfl,ht15,ht17,hO.tail⟩)|(cases h;exact⟨_,⟨t4,t19⟩,rfl,.e4 .z,rfl,ht4,ht19,hO.tail⟩)|refine N1 (f:=eBg8) hE N3 (by decide) hO 1 rfl ht4 (l:=s3.2.1) (m:=[x14.Rest]) .z (.lstc (.eq (eBh0 x14.Rest) .z) (.lst0)) h fun _ t15 H hO ht15 h=>?_|refine N1 (f:=eBg9) hE Gv (by decide) hO 2 rfl ht5 (l:=s3.1) (m:=[{x7.Edge with To:=Ar.len s3.2.1}]) .z (.lstc (.eq (eBi6 ({x7.Edge with To:=Ar.len s3.2.1})) .z) (.lst0)) h fun _ t17 H hO ht17 h=>?_|refine N1 (f:=eBg9) hE Gv (by decide) hO 2 rfl ht5 (l:=s3.1) (m:=[{x7.Edge with To:=r13}]) .z (.lstc (.eq (eBi6 ({x7.Edge with To:=r13})) .z) (.lst0)) h fun _ t19 H hO ht19 h=>?_)
   cbv;apply D0 hE hO 0 rfl;cbv;refine N1 (f:=eBg9) hE Gv (by decide) hO 2 rfl ht5 (l:=s3.1) (m:=[{x7.Edge with To:=(-1)}]) .z (.lstc (.eq (eBi6 ({x7.Edge with To:=(-1)})) .z) (.lst0)) h fun l22 t21 H hO ht21 h=>?_;cbv;cases h;exact⟨_,⟨t4,t21⟩,rfl,.e4 .z,rfl,ht4,ht21,hO.tail⟩
  cbv;cases h;exact⟨_,_,rfl,⟨t4,ht4,t5,ht5,rfl,rfl,hO⟩,.e2 .z,rfl⟩
 ·exact .e rfl (.v (.slt _ (.lst0)) (.v (.slt _ (.lst0)) (.e rfl (.z))))
 ·exact⟨trivial,trivial,hO⟩
 clear hx
 rcases s6 with y23|y26
 ·rintro e l H ⟨t24,ht24,t25,ht25,rfl,rfl,hO⟩;cbv;cases h;exact hK hO (.tup (.cons (.ro _ _) (.cons (.ro _ _) .z)))
 rintro e l H ⟨t27,ht27,t28,ht28,rfl,rfl,hO⟩;cbv;cases h;exact hK hO (.tup (.cons (.lit _ (B5)) (.cons (.lit _ (B5)) .z)))
def c170 (N aF r) (h:He N aF=some r):C3 prog 170 [sr eBg8 aF] (.bool r):=by
 refine N2 A8 func170 call170 ntmps170 ?_;intro E H0 K hE hK hO;cbv;obtain⟨s2,hx,h⟩:=A7 h;refine H5 A8 hE J6 (fun s1=>[(0,.v (sr eBg8 aF)),fi 3 s1]) (fun s1 H1=>B6 Eq H0 [] H1) (fun x e l H1=>match(generalizing:=false) x with| .inl y=>e= .exit 0∧l=[]∧B6 Eq H0 [] H1| .inr y=>e= .ret∧l=[(2,.b false)]∧B6 Eq H0 [] H1) (by kernel_rfl) ?_ hx ?_ hO ?_
 ·intro s1 H o hO h
  repeat' (cbv;first|apply B7 hE h<;>intro _ h|apply G9 hE|refine D8 hE eBh0 h fun _ h=>?_|(cases h;exact⟨_,_,rfl,⟨rfl,rfl,hO⟩,.b rfl (.z),rfl⟩)|(cases h;exact⟨_,rfl,.e2 .z,rfl,hO⟩)|(cases h;exact⟨_,_,rfl,⟨rfl,rfl,hO⟩,.z,rfl⟩))
 ·exact .e2 .z
 clear hx
 rcases s2 with y4|y5
 ·rintro e l H ⟨rfl,rfl,hO⟩;cbv;cases h;exact hK hO .z
 rintro e l H ⟨rfl,rfl,hO⟩;cbv;cases h;exact hK hO .z
def cf129:=cfC [] [] [(28,13)]
def c129 (N aA r) (h:Gy N aA=some r):C3 prog 129 [(C9 aA)] (vi r):=by
 refine N2 cf129 func129 call129 ntmps129 ?_;intro E H0 K hE hK hO
 repeat' (cbv;first|apply B7 hE h<;>intro _ h|refine A9 hE h (c134 _ _) .z fun _ h=>?_|refine A9 hE h (c10 _ _ _) .z fun r2 h=>?_|refine A9 hE h (c170 _ _) .z fun _ h=>?_|(cases h;exact hK hO .z))
 cbv;obtain⟨s5,hx,h⟩:=A7 h;refine H5 cf129 hE J6 (fun s4=>[(4,.v (sr eBg8 r2)),fi 5 s4.1,fi 6 s4.2.1,fi 7 s4.2.2]) (fun s4 H1=>B6 Eq H0 [] H1) (fun x e l H1=>match(generalizing:=false) x with| .inl y=>e= .exit 0∧l=[]∧B6 Eq H0 [] H1| .inr y=>e= .ret∧l=[fi 2 14]∧B6 Eq H0 [] H1) (by kernel_rfl) ?_ hx ?_ hO ?_
 ·intro s4 H o hO h;cbv;apply G9 hE;cbv;apply B7 hE h<;>intro _ h
  ·cbv;refine D8 hE eBh0 h fun x6 h=>?_;cbv;refine A9 hE h (c131 N x6) .z fun r7 h=>?_;cbv;obtain⟨s8,hx,h⟩:=A7 h;refine L5 cf129 hE J6 (fun e l H1=>match(generalizing:=false) s8 with| .inl y=>e= .normal∧l=[(4,.v (sr eBg8 r2)),fi 5 y,fi 6 s4.2.1,fi 7 s4.2.2]∧B6 Eq H0 [] H1| .inr y=>e= .ret∧l=[fi 2 14]∧B6 Eq H0 [] H1) (by kernel_rfl) ?_ ?_
   ·clear h;have h:=hx
    repeat' (cbv;first|apply B7 hE h<;>intro _ h|refine D8 hE eBh0 h fun _ h=>?_|(cases h;exact⟨_,⟨rfl,rfl,hO⟩,.e rfl .z,rfl⟩)|(cases h;exact⟨_,⟨rfl,rfl,hO⟩,.e4 .z,rfl⟩))
   clear hx
   rcases s8 with y10|y17
   ·rintro e l H ⟨rfl,rfl,hO⟩
    repeat' (cbv;first|apply B7 hE h<;>intro _ h|refine A9 hE h (c132 _ _) .z fun _ h=>?_|refine A9 hE h (c133 _ _) .z fun _ h=>?_|refine D8 hE eBh0 h fun _ h=>?_|(cases h;exact⟨_,_,rfl,⟨rfl,rfl,hO⟩,.e rfl .z,rfl⟩)|(cases h;exact⟨_,rfl,.e4 .z,rfl,hO⟩))
   rintro e l H ⟨rfl,rfl,hO⟩;cbv;cases h;exact⟨_,_,rfl,⟨rfl,rfl,hO⟩,.e rfl .z,rfl⟩
  cbv;cases h;exact⟨_,_,rfl,⟨rfl,rfl,hO⟩,.z,rfl⟩
 ·exact .e4 .z
 clear hx
 rcases s5 with y18|y19
 ·rintro e l H ⟨rfl,rfl,hO⟩;cbv;cases h;exact hK hO .z
 rintro e l H ⟨rfl,rfl,hO⟩;cbv;cases h;exact hK hO .z
def c88 (N aA r) (h:AR N aA=some r):C3 prog 88 [(C9 aA)] (.tup [sr eBg8 r.1,vi r.2]):=by
 refine N2 A8 func88 call88 ntmps88 ?_;intro E H0 K hE hK hO;cbv;refine A9 hE h (c129 N aA) .z fun r1 h=>?_;cbv;apply B7 hE h<;>intro _ h
 ·cbv;cases h;exact hK hO (.tup (.cons (.lit _ (B5)) .z))
 cbv;replace hO:=hO.tl0 (t:=.full) rfl;obtain⟨s4,hx,h⟩:=A7 h;refine J9 A8 hE J6 (γ:=E7) (fun s2 g=>[(5,.v (.sl (Ar.lst eBg8 s2.1) g)),fi 6 s2.2]) (fun s2 g H1=>K6 g∧B6 Eq H0 [.tl g] H1) (fun x e l H1=>match(generalizing:=false) x with| .inl y=>∃u1:E7,K6 u1∧e= .exit 0∧l=[(5,.v (.sl (Ar.lst eBg8 y) u1))]∧B6 Eq H0 [.tl u1] H1| .inr y=>∃u1:E7,K6 u1∧e= .ret∧l=[(2,.v (.sl [] .nil)),fi 3 17]∧B6 Eq H0 [.tl u1] H1) (by kernel_rfl) ?_ .full hx ?_ ?_ ?_
 ·rintro s2 t3 H o ⟨ht3,hO⟩ h
  repeat' (cbv;first|apply B7 hE h<;>intro _ h|apply G9 hE|refine A9 hE h (c91 _ _) .z fun r6 h=>?_|refine D8 hE eBh0 h fun _ h=>?_|(cases h;exact⟨_,_,rfl,⟨t3,ht3,rfl,rfl,hO⟩,.e2 .z,rfl⟩)|(cases h;exact⟨_,_,rfl,⟨t3,ht3,rfl,rfl,hO⟩,.e rfl .z,rfl⟩))
  cbv;obtain⟨s9,hx,h⟩:=A7 h;refine J9 A8 hE J6 (γ:=E7) (fun s7 g=>[(5,.v (.sl (Ar.lst eBg8 s7.1) g)),fi 6 s2.2,(8,.v (sr eBg8 r6.2.1)),fi 10 s7.2]) (fun s7 g H1=>K6 g∧B6 Eq H0 [.tl g] H1) (fun x e l H1=>∃u1:E7,K6 u1∧e= .exit 2∧l=[(5,.v (.sl (Ar.lst eBg8 x) u1)),fi 6 s2.2]∧B6 Eq H0 [.tl u1] H1) (by kernel_rfl) ?_ t3 hx ?_ ?_ ?_
  ·rintro s7 t8 H o ⟨ht8,hO⟩ h;cbv;apply G9 hE;cbv;apply B7 hE h<;>intro _ h
   ·cbv;refine D8 hE eBh0 h fun x10 h=>?_
    repeat' (cbv;first|apply B7 hE h<;>intro _ h|refine A9 hE h (c130 _ _ _) (.cons (.ro _ _) .z) fun _ h=>?_|refine D8 hE eBh0 h fun x12 h=>?_|(cases h;exact⟨_,t13,rfl,.e4 .z,rfl,ht13,hO⟩)|(cases h;exact⟨_,t8,rfl,.e4 .z,rfl,ht8,hO⟩)|refine N1 (f:=eBg8) hE N3 (by decide) hO 0 rfl ht8 (l:=s7.1) (m:=[x12]) .z (.lstc (.eq (eBh0 x12) .z) (.lst0)) h fun _ t13 H hO ht13 h=>?_)
   cbv;cases h;exact⟨_,_,rfl,⟨t8,ht8,rfl,rfl,hO⟩,.e2 .z,rfl⟩
  ·exact .e4 .z
  ·exact⟨ht3,hO⟩
  clear hx;rintro e l H ⟨t15,ht15,rfl,rfl,hO⟩;cbv;apply G9 hE;cbv;apply B7 hE h<;>intro _ h
  ·cbv;cases h;exact⟨_,_,rfl,⟨t15,ht15,rfl,rfl,hO⟩,.e2 .z,rfl⟩
  cbv;cases h;exact⟨_,t15,rfl,.e2 .z,rfl,ht15,hO⟩
 ·exact .v (.slt _ (.lstc (.eq (eBh0 aA) .z) (.lst0))) (.e rfl .z)
 ·exact⟨trivial,hO⟩
 clear hx
 rcases s4 with y16|y18
 ·rintro e l H ⟨t17,ht17,rfl,rfl,hO⟩;cbv;cases h;exact hK hO (.tup (.cons (.ro _ _) .z))
 rintro e l H ⟨t19,ht19,rfl,rfl,hO⟩;cbv;cases h;exact hK hO (.tup (.cons (.lit _ (B5)) .z))
def cf89:=cfC [] [] [(27,11)]
def c89 (N aA r) (h:IP N aA=some r):C3 prog 89 [(C9 aA)] (.tup [vi r.1,vi r.2.1,vi r.2.2]):=by
 refine N2 cf89 func89 call89 ntmps89 ?_;intro E H0 K hE hK hO;cbv;refine A9 hE h (c129 N aA) .z fun r1 h=>?_;cbv;apply B7 hE h<;>intro _ h
 ·cbv;cases h;exact hK hO .z
 cbv;refine A9 hE h (c10 N N aA) .z fun r2 h=>?_;cbv;obtain⟨s4,hx,h⟩:=A7 h;refine H5 cf89 hE J6 (fun s3=>[fi 6 s3.1,fi 7 s3.2.1,(8,.v (sr eBg8 r2)),fi 9 s3.2.2]) (fun s3 H1=>B6 Eq H0 [] H1) (fun x e l H1=>e= .exit 0∧l=[fi 6 x.1,fi 7 x.2]∧B6 Eq H0 [] H1) (by kernel_rfl) ?_ hx ?_ hO ?_
 ·intro s3 H o hO h;cbv;apply G9 hE;cbv;apply B7 hE h<;>intro _ h
  ·cbv;refine D8 hE eBh0 h fun x5 h=>?_;cbv;refine A9 hE h (c131 N x5) .z fun r6 h=>?_;cbv;obtain⟨s7,hx,h⟩:=A7 h;refine L5 cf89 hE J6 (fun e l H1=>e= .normal∧l=[fi 6 s7,fi 7 s3.2.1,(8,.v (sr eBg8 r2)),fi 9 s3.2.2]∧B6 Eq H0 [] H1) (by kernel_rfl) ?_ ?_
   ·clear h;have h:=hx;cbv;apply B7 hE h<;>intro _ h
    ·cbv;cases h;exact⟨_,⟨rfl,rfl,hO⟩,.e4 .z,rfl⟩
    cbv;cases h;exact⟨_,⟨rfl,rfl,hO⟩,.e4 .z,rfl⟩
   clear hx;rintro e l H ⟨rfl,rfl,hO⟩
   repeat' (cbv;first|apply B7 hE h<;>intro _ h|refine A9 hE h (c132 _ _) .z fun _ h=>?_|refine A9 hE h (c133 _ _) .z fun _ h=>?_|refine D8 hE eBh0 h fun _ h=>?_|(cases h;exact⟨_,rfl,.e4 .z,rfl,hO⟩))
  cbv;cases h;exact⟨_,_,rfl,⟨rfl,rfl,hO⟩,.e2 .z,rfl⟩
 ·exact .e4 .z
 clear hx;rintro e l H ⟨rfl,rfl,hO⟩;cbv;cases h;exact hK hO .z
def cf90:Cf:=⟨[],[],[(22,9)],[0],[],[]⟩
def c90 (N:Nat):∀n aA r,R8 N n aA=some r→C3 prog 90 [(C9 aA)] (sr eBi5 r):=by
 intro n
 induction n with
 |zero=>intro aA r h;cases h
 |succ n ih=>
 intro aA r h
 unfold R8 at h
 refine N2 cf90 func90 call90 ntmps90 ?_;intro E H0 K hE hK hO;cbv;replace hO:=hO.tl0 (t:=.nil) rfl;obtain⟨s1,hx,h⟩:=A7 h;refine L5 cf90 hE J6 (fun e l H1=>∃u1:E7,K6 u1∧e= .normal∧l=[(1,.v (.eref (E1 aA) 0)),(3,.v (.sl (Ar.lst eBi5 s1.1) u1)),fi 4 s1.2]∧B6 Eq H0 [.tl u1] H1) (by kernel_rfl) ?_ ?_
 ·clear h;have h:=hx;cbv;apply B7 hE h<;>intro _ h
  ·cbv;refine N1 (f:=eBi5) hE JD (by decide) hO 0 rfl trivial (l:=[]) (m:=[(⟨aA.cY,aA.Typ,aA.Var,aA.cU⟩:U4)]) (.lst0) (.lstc (.eq (eBk2 (⟨aA.cY,aA.Typ,aA.Var,aA.cU⟩:U4)) .z) (.lst0)) h fun l3 t2 H hO ht2 h=>?_;cbv;cases h;exact⟨_,⟨t2,ht2,rfl,rfl,hO⟩,.e rfl (.e2 .z),rfl⟩
  cbv;obtain⟨s4,hx,h⟩:=A7 h;refine L5 cf90 hE J6 (fun e l H1=>e= .normal∧l=[(1,.v (.eref (E1 aA) 0)),(3,.v (.sl [] .nil)),fi 4 0,fi 7 aA.Op,(22,.v (.bool s4))]∧B6 Eq H0 [.tl .nil] H1) (by kernel_rfl) ?_ ?_
  ·clear h;have h:=hx
   repeat' (cbv;first|apply B7 hE h<;>intro _ h|(cases h;exact⟨_,⟨rfl,rfl,hO⟩,.e rfl (.e4 .z),rfl⟩))
  clear hx;rintro e l H ⟨rfl,rfl,hO⟩
  repeat' (cbv;first|apply B7 hE h<;>intro _ h|apply G9 hE|(cases h;exact⟨_,⟨.nil,trivial,rfl,rfl,hO⟩,.e rfl (.v (.slt _ (.lst0)) (.e rfl (.z))),rfl⟩))
 clear hx;rintro e l H ⟨t5,ht5,rfl,rfl,hO⟩;cbv;obtain⟨s8,hx,h⟩:=A7 h;refine J9 cf90 hE J6 (γ:=E7) (fun s6 g=>[(1,.v (.eref (E1 aA) 0)),(3,.v (.sl (Ar.lst eBi5 s6.1) g)),fi 4 s1.2,fi 5 s6.2]) (fun s6 g H1=>K6 g∧B6 Eq H0 [.tl g] H1) (fun x e l H1=>∃u1:E7,K6 u1∧e= .exit 1∧l=[(3,.v (.sl (Ar.lst eBi5 x) u1))]∧B6 Eq H0 [.tl u1] H1) (by kernel_rfl) ?_ t5 hx ?_ ?_ ?_
 ·rintro s6 t7 H o ⟨ht7,hO⟩ h;cbv;apply B7 hE h<;>intro _ h
  ·cbv;refine D8 hE eBh0 h fun x9 h=>?_;cbv;refine A9 hE h (ih x9) .z fun r10 h=>?_;cbv;refine N1 (f:=eBi5) hE JD (by decide) hO 0 rfl ht7 (l:=s6.1) (m:=r10) .z .z h fun l12 t11 H hO ht11 h=>?_;cbv;cases h;exact⟨_,t11,rfl,.e4 .z,rfl,ht11,hO⟩
  cbv;cases h;exact⟨_,_,rfl,⟨t7,ht7,rfl,rfl,hO⟩,.e rfl .z,rfl⟩
 ·exact .e4 .z
 ·exact⟨ht5,hO⟩
 clear hx;rintro e l H ⟨t13,ht13,rfl,rfl,hO⟩;cbv;cases h;exact hK hO (.ro _ _)
def cf92:=cfB [] [(4,5)]
def c92 (N aF aA r) (h:Ei N aF aA=some r):C3 prog 92 [sr eBg8 aF,(C9 aA)] (vi r):=by
 refine N2 cf92 func92 call92 ntmps92 ?_;intro E H0 K hE hK hO;cbv;obtain⟨s2,hx,h⟩:=A7 h;refine H5 cf92 hE J6 (fun s1=>[(0,.v (sr eBg8 aF)),(3,.v (.eref (E1 aA) 0)),fi 5 s1]) (fun s1 H1=>B6 Eq H0 [] H1) (fun x e l H1=>match(generalizing:=false) x with| .inl y=>e= .exit 0∧l=[]∧B6 Eq H0 [] H1| .inr y=>e= .ret∧l=[fi 4 y]∧B6 Eq H0 [] H1) (by kernel_rfl) ?_ hx ?_ hO ?_
 ·intro s1 H o hO h
  repeat' (cbv;first|apply B7 hE h<;>intro _ h|apply G9 hE|refine A9 hE h (c136 _ _ _ _) .z fun _ h=>?_|refine D8 hE eBh0 h fun _ h=>?_|(cases h;exact⟨_,_,rfl,⟨rfl,rfl,hO⟩,.e rfl .z,rfl⟩)|(cases h;exact⟨_,rfl,.e rfl (.e2 .z),rfl,hO⟩)|(cases h;exact⟨_,_,rfl,⟨rfl,rfl,hO⟩,.z,rfl⟩))
 ·exact .e rfl (.e2 .z)
 clear hx
 rcases s2 with y5|y6
 ·rintro e l H ⟨rfl,rfl,hO⟩;cbv;cases h;exact hK hO .z
 rintro e l H ⟨rfl,rfl,hO⟩;cbv;cases h;exact hK hO .z
def cf50:=cfC [2,10,16] [(9,9)] [(75,18)]
def c50 (N aA r) (h:NJ N aA=some r):C3 prog 50 [(C9 aA)] (.tup [(IH r.1),sr eBg8 r.2.1,vi r.2.2]):=by
 refine N2 cf50 func50 call50 ntmps50 ?_;intro E H0 K hE hK hO;cbv;refine E5 hE hO fun b1 H hO=>?_
 repeat' (cbv;first|apply B7 hE h<;>intro _ h|refine A9 hE h (c88 _ _) .z fun r2 h=>?_|refine A9 hE h (c89 _ _) .z fun r3 h=>?_|apply D0 hE hO 0 rfl|refine B9 hE hO 0 rfl rfl fun H hO=>?_|refine E5 hE hO fun b4 H hO=>?_|(cases h;exact hK hO (.tup (.cons (.agg (.r (.r (.cons (.lit _ (B5)) (.cons (.lit _ (B5)) .z))))) (.cons (.lit _ (B5)) .z)))))
 cbv;replace hO:=hO.cast (L':=[cb b4 [vi r3.1,vi r3.2.1,.sl (Ar.lst eBi3 ([])) .nil,.sl (Ar.lst eBg9 ([])) .nil],cb b1 [vi 0,vi 0,.sl [] .nil,.sl [] .nil]]) (by simp only[ob,cb,sr,←B5]<;>rfl);replace hO:=hO.tl0 (t:=.nil) rfl;replace hO:=hO.tl0 (t:=.nil) rfl;obtain⟨s8,hx,h⟩:=A7 h;refine J9 cf50 hE J6 (γ:=E7×E7) (fun s5 g=>[(2,.v (.ref b1 0)),(5,.v (sr eBg8 r2.1)),(10,.v (.ref b4 0)),fi 11 s5.1]) (fun s5 g H1=>K6 g.1∧K6 g.2∧B6 Eq H0 [.tl g.1,.tl g.2,cb b4 [vi s5.2.Vars,vi s5.2.dL,.sl (Ar.lst eBi3 s5.2.cZ) g.2,.sl (Ar.lst eBg9 s5.2.dC) g.1],cb b1 [vi 0,vi 0,.sl [] .nil,.sl [] .nil]] H1) (fun x e l H1=>∃u1:E7,K6 u1∧∃u2:E7,K6 u2∧e= .exit 0∧l=[(2,.v (.ref b1 0)),(5,.v (sr eBg8 r2.1)),(10,.v (.ref b4 0))]∧B6 Eq H0 [.tl u1,.tl u2,cb b4 [vi x.Vars,vi x.dL,.sl (Ar.lst eBi3 x.cZ) u2,.sl (Ar.lst eBg9 x.dC) u1],cb b1 [vi 0,vi 0,.sl [] .nil,.sl [] .nil]] H1) (by kernel_rfl) ?_ (⟨.nil,.nil⟩) hx ?_ ?_ ?_
 ·rintro s5 ⟨t6,t7⟩ H o ⟨ht6,ht7,hO⟩ h
  repeat' (cbv;first|apply B7 hE h<;>intro _ h|apply G9 hE|refine A9 hE h (c91 _ _) .z fun r14 h=>?_|refine D8 hE eBh0 h fun _ h=>?_|apply D0 hE hO 2 rfl|refine B9 hE hO 2 rfl rfl fun H hO=>?_|refine K7 hE (g:=fun r10=>sr eBi5 r10) h (c90 _ _ _) .z fun r10 h=>?_|(cases h;exact⟨_,_,rfl,⟨t6,ht6,t7,ht7,rfl,rfl,hO⟩,.e rfl (.e2 .z),rfl⟩)|refine N1 (f:=eBi3) hE Ut (by decide) hO 1 rfl ht7 (l:=s5.2.cZ) (m:=[(⟨r10⟩:FK)]) .z (.lstc (.eq (eBk3 (⟨r10⟩:FK)) .z) (.lst0)) h fun l12 t11 H hO ht11 h=>?_)
  cbv;obtain⟨s17,hx,h⟩:=A7 h;refine J9 cf50 hE J6 (γ:=E7) (fun s15 g=>[(2,.v (.ref b1 0)),(5,.v (sr eBg8 r2.1)),(10,.v (.ref b4 0)),fi 11 s5.1,(12,.v (sr eBg9 r14.1)),(13,.v (sr eBg8 r14.2.1)),fi 15 s15.1]) (fun s15 g H1=>K6 g∧B6 Eq H0 [.tl g,.tl t11,cb b4 [vi s15.2.Vars,vi s15.2.dL,.sl (Ar.lst eBi3 l12) t11,.sl (Ar.lst eBg9 s15.2.dC) g],cb b1 [vi 0,vi 0,.sl [] .nil,.sl [] .nil]] H1) (fun x e l H1=>∃u1:E7,K6 u1∧e= .exit 2∧l=[(2,.v (.ref b1 0)),(5,.v (sr eBg8 r2.1)),(10,.v (.ref b4 0)),fi 11 s5.1]∧B6 Eq H0 [.tl u1,.tl t11,cb b4 [vi x.Vars,vi x.dL,.sl (Ar.lst eBi3 l12) t11,.sl (Ar.lst eBg9 x.dC) u1],cb b1 [vi 0,vi 0,.sl [] .nil,.sl [] .nil]] H1) (by kernel_rfl) ?_ t6 hx ?_ ?_ ?_
  ·rintro s15 t16 H o ⟨ht16,hO⟩ h
   repeat' (cbv;first|apply B7 hE h<;>intro _ h|apply G9 hE|refine D8 hE eBi6 h fun _ h=>?_|apply D0 hE hO 0 rfl|refine B9 hE hO 0 rfl rfl fun H hO=>?_|refine E5 hE hO fun b19 H hO=>?_|(cases h;exact⟨_,_,rfl,⟨t16,ht16,rfl,rfl,hO⟩,.e4 .z,rfl⟩))
   cbv;obtain⟨s20,hx,h⟩:=A7 h;refine L5 cf50 hE J6 (fun e l H1=>e= .normal∧l=[(2,.v (.ref b1 0)),(5,.v (sr eBg8 r2.1)),(10,.v (.ref b4 0)),fi 11 s5.1,(12,.v (sr eBg9 r14.1)),(13,.v (sr eBg8 r14.2.1)),fi 15 s15.1,(16,.v (.ref b19 0))]∧B6 Eq H0 [cb b19 (U3 s20),.tl t16,.tl t11,cb b4 [vi s15.2.Vars,vi s15.2.dL,.sl (Ar.lst eBi3 l12) t11,.sl (Ar.lst eBg9 s15.2.dC) t16],cb b1 [vi 0,vi 0,.sl [] .nil,.sl [] .nil]] H1) (by kernel_rfl) ?_ ?_
   ·clear h;have h:=hx
    repeat' (cbv;first|apply B7 hE h<;>intro _ h|refine A9 hE h (c92 _ _ _) .z fun _ h=>?_|refine D8 hE eBh0 h fun _ h=>?_|apply D0 hE hO 0 rfl|refine B9 hE hO 0 rfl rfl fun H hO=>?_|(cases h;exact⟨_,⟨rfl,rfl,hO⟩,.e4 (.e4 .z),rfl⟩))
   clear hx;rintro e l H ⟨rfl,rfl,hO⟩;cbv;apply D0 hE hO 3 rfl;cbv;apply D0 hE hO 0 rfl;cbv;refine N1 (f:=eBg9) hE Gv (by decide) hO 1 rfl ht16 (l:=s15.2.dC) (m:=[s20]) .z (.lstc (.eq (eBi6 s20) .z) (.lst0)) h fun l24 t23 H hO ht23 h=>?_;cbv;refine B9 hE hO 3 rfl rfl fun H hO=>?_;cbv;cases h;exact⟨_,t23,rfl,.e rfl (.e2 (.e4 .z)),rfl,ht23,hO.tail⟩
  ·exact .e rfl (.e2 (.e4 .z))
  ·exact⟨ht6,hO⟩
  clear hx;rintro e l H ⟨t25,ht25,rfl,rfl,hO⟩;cbv;cases h;exact⟨_,⟨t25,t11⟩,rfl,.e4 .z,rfl,ht25,ht11,hO⟩
 ·exact .e4 .z
 ·exact⟨trivial,trivial,hO⟩
 clear hx;rintro e l H ⟨t26,ht26,t27,ht27,rfl,rfl,hO⟩
 repeat' (cbv;first|apply B7 hE h<;>intro _ h|apply G9 hE|apply D0 hE hO 2 rfl|apply D0 hE hO 3 rfl|refine B9 hE hO 3 rfl rfl fun H hO=>?_|(cases h;exact hK hO (.tup (.cons (.agg (.r (.r (.cons (.lit _ (B5)) (.cons (.lit _ (B5)) .z))))) (.cons (.lit _ (B5)) .z))))|(cases h;exact hK hO (.tup (.cons (.agg (.r (.r (.cons (.ro _ _) (.cons (.ro _ _) .z))))) .z))))
def cf25:=cfA [2]
def c25 (N aA r)(h:FU N aA=some r):C3 prog 25 [(C9 aA)] (.tup [(IH r.1),vi r.2]):=by
 refine N2 cf25 func25 call25 ntmps25 ?_;intro E H0 K hE hK hO;cbv;refine E5 hE hO fun b1 H hO=>?_;cbv;refine A9 hE h (c50 N aA) .z fun r2 h=>?_;cbv;refine B9 hE hO 0 rfl rfl fun H hO=>?_;cbv;apply D0 hE hO 0 rfl;cbv;cases h;exact hK hO .z
def c26 (N:Nat):∀n aA r,Dj N n aA=some r→C3 prog 26 [(C9 aA)] (.bool r):=by
 intro n
 induction n with
 |zero=>intro aA r h;cases h
 |succ n ih=>
 intro aA r h
 unfold Dj at h
 refine N2 A8 func26 call26 ntmps26 ?_;intro E H0 K hE hK hO;cbv;apply B7 hE h<;>intro _ h
 ·cbv;cases h;exact hK hO .z
 cbv;obtain⟨s2,hx,h⟩:=A7 h;refine H5 A8 hE J6 (fun s1=>[(1,.v (.eref (E1 aA) 0)),fi 3 s1]) (fun s1 H1=>B6 Eq H0 [] H1) (fun x e l H1=>match(generalizing:=false) x with| .inl y=>e= .exit 0∧l=[]∧B6 Eq H0 [] H1| .inr y=>e= .ret∧l=[(2,.b false)]∧B6 Eq H0 [] H1) (by kernel_rfl) ?_ hx ?_ hO ?_
 ·intro s1 H o hO h
  repeat' (cbv;first|apply B7 hE h<;>intro _ h|apply G9 hE|refine A9 hE h (ih _) .z fun _ h=>?_|refine D8 hE eBh0 h fun _ h=>?_|(cases h;exact⟨_,_,rfl,⟨rfl,rfl,hO⟩,.b rfl (.z),rfl⟩)|(cases h;exact⟨_,rfl,.e2 .z,rfl,hO⟩)|(cases h;exact⟨_,_,rfl,⟨rfl,rfl,hO⟩,.z,rfl⟩))
 ·exact .e2 .z
 clear hx
 rcases s2 with y5|y6
 ·rintro e l H ⟨rfl,rfl,hO⟩;cbv;cases h;exact hK hO .z
 rintro e l H ⟨rfl,rfl,hO⟩;cbv;cases h;exact hK hO .z
def c93 (N aJ aR r) (h:Fx N aJ aR=some r):C3 prog 93 [sr eBh4 aJ,sr eBh6 aR] (vi r):=by
 refine N2 A8 func93 call93 ntmps93 ?_;intro E H0 K hE hK hO;cbv;apply G9 hE;cbv;apply B7 hE h<;>intro _ h
 ·cbv;cases h;exact hK hO .z
 cbv;obtain⟨s2,hx,h⟩:=A7 h;refine H5 A8 hE J6 (fun s1=>[(0,.v (sr eBh4 aJ)),(1,.v (sr eBh6 aR)),fi 5 s1]) (fun s1 H1=>B6 Eq H0 [] H1) (fun x e l H1=>match(generalizing:=false) x with| .inl y=>e= .exit 0∧l=[]∧B6 Eq H0 [] H1| .inr y=>e= .ret∧l=[fi 4 6]∧B6 Eq H0 [] H1) (by kernel_rfl) ?_ hx ?_ hO ?_
 ·intro s1 H o hO h
  repeat' (cbv;first|apply B7 hE h<;>intro _ h|apply G9 hE|refine D8 hE eBj0 h fun _ h=>?_|(cases h;exact⟨_,_,rfl,⟨rfl,rfl,hO⟩,.e rfl .z,rfl⟩)|(cases h;exact⟨_,rfl,.e rfl (.e2 .z),rfl,hO⟩)|(cases h;exact⟨_,_,rfl,⟨rfl,rfl,hO⟩,.z,rfl⟩))
 ·exact .e rfl (.e2 .z)
 clear hx
 rcases s2 with y5|y6
 ·rintro e l H ⟨rfl,rfl,hO⟩;cbv;cases h;exact hK hO .z
 rintro e l H ⟨rfl,rfl,hO⟩;cbv;cases h;exact hK hO .z
def c139 (N aJ aR aB r)(h:Kp N aJ aR aB=some r):C3 prog 139 [sr eBh4 aJ,sr eBh6 aR,(U9 aB)] (.tup [vi r.1,vi r.2]):=by
 refine N2 A8 func139 call139 ntmps139 ?_;intro E H0 K hE hK hO
 repeat' (cbv;first|apply B7 hE h<;>intro _ h|apply G9 hE|refine A9 hE h (c178 _ _ _) .z fun _ h=>?_|refine D8 hE eBj0 h fun _ h=>?_|refine D8 hE eBi7 h fun _ h=>?_|refine D8 hE eBi9 h fun _ h=>?_|(cases h;exact hK hO .z))
def cf179:=cfC [] [] [(4,4)]
def c179 (N aI r) (h:EG N aI=some r):C3 prog 179 [vi aI] (vi r):=by
 refine N2 cf179 func179 call179 ntmps179 ?_;intro E H0 K hE hK hO;cbv;obtain⟨s1,hx,h⟩:=A7 h;refine L5 cf179 hE J6 (fun e l H1=>e= .normal∧l=[fi 3 aI,(4,.v (.bool s1))]∧B6 Eq H0 [] H1) (by kernel_rfl) ?_ ?_
 ·clear h;have h:=hx
  repeat' (cbv;first|apply B7 hE h<;>intro _ h|(cases h;exact⟨_,⟨rfl,rfl,hO⟩,.e2 .z,rfl⟩))
 clear hx;rintro e l H ⟨rfl,rfl,hO⟩
 repeat' (cbv;first|apply B7 hE h<;>intro _ h|(cases h;exact hK hO .z))
def cf140:=cfB [] [(5,21)]
def c140 (N aI aX r) (h:EF N aI aX=some r):C3 prog 140 [vi aI,sr (V.int .i64) aX] (vi r):=by
 refine N2 cf140 func140 call140 ntmps140 ?_;intro E H0 K hE hK hO;cbv;obtain⟨s2,hx,h⟩:=A7 h;refine H5 cf140 hE J6 (fun s1=>[fi 0 aI,(1,.v (sr (V.int .i64) aX)),fi 5 s1]) (fun s1 H1=>B6 Eq H0 [] H1) (fun x e l H1=>match(generalizing:=false) x with| .inl y=>e= .exit 0∧l=[]∧B6 Eq H0 [] H1| .inr y=>e= .ret∧l=[fi 4 9]∧B6 Eq H0 [] H1) (by kernel_rfl) ?_ hx ?_ hO ?_
 ·intro s1 H o hO h
  repeat' (cbv;first|apply B7 hE h<;>intro _ h|apply G9 hE|refine A9 hE h (c179 _ _) .z fun _ h=>?_|refine D8 hE (fun _=>rfl) h fun _ h=>?_|(cases h;exact⟨_,_,rfl,⟨rfl,rfl,hO⟩,.e rfl .z,rfl⟩)|(cases h;exact⟨_,rfl,.e rfl (.e2 .z),rfl,hO⟩)|(cases h;exact⟨_,_,rfl,⟨rfl,rfl,hO⟩,.z,rfl⟩))
 ·exact .e rfl (.e2 .z)
 clear hx
 rcases s2 with y9|y10
 ·rintro e l H ⟨rfl,rfl,hO⟩;cbv;cases h;exact hK hO .z
 rintro e l H ⟨rfl,rfl,hO⟩;cbv;cases h;exact hK hO .z
def c141 (N aI r)(h:Hf N aI=some r):C3 prog 141 [vi aI] (vi r):=by
 refine N2 A8 func141 call141 ntmps141 ?_;intro E H0 K hE hK hO;cbv;apply B7 hE h<;>intro _ h
 ·cbv;cases h;exact hK hO .z
 cbv;cases h;exact hK hO .z
def c95 (N:Nat):∀n aJ aR aB r,DU N n aJ aR aB=some r→C3 prog 95 [sr eBh4 aJ,sr eBh6 aR,(U9 aB)] (.tup [vi r.1,vi r.2]):=by
 intro n
 induction n with
 |zero=>intro aJ aR aB r h;cases h
 |succ n ih=>
 intro aJ aR aB r h
 unfold DU at h
 refine N2 A8 func95 call95 ntmps95 ?_;intro E H0 K hE hK hO;cbv;apply G9 hE;cbv;apply B7 hE h<;>intro _ h
 ·cbv;refine A9 hE h (c139 N aJ aR aB) .z fun r1 h=>?_;cbv;cases h;exact hK hO .z
 cbv;replace hO:=hO.tl0 (t:=.nil) rfl;obtain⟨s4,hx,h⟩:=A7 h;refine J9 A8 hE J6 (γ:=E7) (fun s2 g=>[(0,.v (sr eBh4 aJ)),(1,.v (sr eBh6 aR)),(5,.v (.eref (Aq aB) 0)),(8,.v (.sl (Ar.lst (V.int .i64) s2.1) g)),fi 9 s2.2]) (fun s2 g H1=>K6 g∧B6 Eq H0 [.tl g] H1) (fun x e l H1=>match(generalizing:=false) x with| .inl y=>∃u1:E7,K6 u1∧e= .exit 0∧l=[(5,.v (.eref (Aq aB) 0)),(8,.v (.sl (Ar.lst (V.int .i64) y) u1))]∧B6 Eq H0 [.tl u1] H1| .inr y=>∃u1:E7,K6 u1∧e= .ret∧l=[fi 6 0,fi 7 y]∧B6 Eq H0 [.tl u1] H1) (by kernel_rfl) ?_ .nil hx ?_ ?_ ?_
 ·rintro s2 t3 H o ⟨ht3,hO⟩ h
  repeat' (cbv;first|apply B7 hE h<;>intro _ h|apply G9 hE|refine A9 hE h (ih _ _ _) .z fun r6 h=>?_|refine D8 hE eBi0 h fun _ h=>?_|(cases h;exact⟨_,_,rfl,⟨t3,ht3,rfl,rfl,hO⟩,.e2 .z,rfl⟩)|(cases h;exact⟨_,t7,rfl,.e rfl (.e4 .z),rfl,ht7,hO⟩)|refine N1 (f:=(V.int .i64)) hE (fun _=>rfl) (by decide) hO 0 rfl ht3 (l:=s2.1) (m:=[r6.1]) .z (.lstc .z (.lst0)) h fun _ t7 H hO ht7 h=>?_)
 ·exact .e rfl (.e2 (.v (.slt _ (.lst0)) (.e rfl (.z))))
 ·exact⟨trivial,hO⟩
 clear hx
 rcases s4 with y9|y13
 ·rintro e l H ⟨t10,ht10,rfl,rfl,hO⟩
  repeat' (cbv;first|apply B7 hE h<;>intro _ h|refine A9 hE h (c140 _ _ _) (.r (.cons (.ro _ _) .z)) fun _ h=>?_|refine A9 hE h (c141 _ _) .z fun _ h=>?_|(cases h;exact hK hO .z))
 rintro e l H ⟨t14,ht14,rfl,rfl,hO⟩;cbv;cases h;exact hK hO .z
def c51 (N aJ aR aB r)(h:Kq N aJ aR aB=some r):C3 prog 51 [sr eBh4 aJ,sr eBh6 aR,(U9 aB)] (.tup [vi r.1,vi r.2]):=by
 refine N2 A8 func51 call51 ntmps51 ?_;intro E H0 K hE hK hO
 repeat' (cbv;first|apply B7 hE h<;>intro _ h|refine A9 hE h (c24 _ _) .z fun _ h=>?_|refine A9 hE h (c93 _ _ _) .z fun _ h=>?_|refine A9 hE h (c94 _ _) .z fun _ h=>?_|refine A9 hE h (c95 _ _ _ _ _) .z fun _ h=>?_|(cases h;exact hK hO .z))
def cf96:=cfC [] [] [(18,8)]
def c96 (N aF r) (h:Bp N aF=some r):C3 prog 96 [sr eBg7 aF] (sr eBg7 r):=by
 refine N2 cf96 func96 call96 ntmps96 ?_;intro E H0 K hE hK hO;cbv;replace hO:=hO.tl0 (t:=.nil) rfl;obtain⟨s3,hx,h⟩:=A7 h;refine J9 cf96 hE J6 (γ:=E7) (fun s1 g=>[(0,.v (sr eBg7 aF)),(3,.v (.sl (Ar.lst eBg7 s1.1) g)),fi 4 s1.2.1,fi 5 s1.2.2]) (fun s1 g H1=>K6 g∧B6 Eq H0 [.tl g] H1) (fun x e l H1=>∃u1:E7,K6 u1∧e= .exit 0∧l=[(3,.v (.sl (Ar.lst eBg7 x.1) u1)),fi 4 x.2]∧B6 Eq H0 [.tl u1] H1) (by kernel_rfl) ?_ .nil hx ?_ ?_ ?_
 ·rintro s1 t2 H o ⟨ht2,hO⟩ h;cbv;apply G9 hE;cbv;apply B7 hE h<;>intro _ h
  ·cbv;refine D8 hE eBh1 h fun x4 h=>?_;cbv;obtain⟨s5,hx,h⟩:=A7 h;refine L5 cf96 hE J6 (fun e l H1=>∃u1:E7,K6 u1∧e= .normal∧l=[(0,.v (sr eBg7 aF)),(3,.v (.sl (Ar.lst eBg7 s5) u1)),fi 5 s1.2.2]∧B6 Eq H0 [.tl u1] H1) (by kernel_rfl) ?_ ?_
   ·clear h;have h:=hx;cbv;apply B7 hE h<;>intro _ h
    ·cbv;refine D8 hE eBh1 h fun x6 h=>?_;cbv;refine N1 (f:=eBg7) hE G8 (by decide) hO 0 rfl ht2 (l:=s1.1) (m:=[(⟨s1.2.1,Ar.ar .sub .i64 x6.Low 1⟩:A3)]) .z (.lstc (.eq (eBh1 (⟨s1.2.1,Ar.ar .sub .i64 x6.Low 1⟩:A3)) .z) (.lst0)) h fun l8 t7 H hO ht7 h=>?_;cbv;cases h;exact⟨_,⟨t7,ht7,rfl,rfl,hO⟩,.e rfl (.e2 .z),rfl⟩
    cbv;cases h;exact⟨_,⟨t2,ht2,rfl,rfl,hO⟩,.e rfl (.e2 .z),rfl⟩
   clear hx;rintro e l H ⟨t9,ht9,rfl,rfl,hO⟩;cbv;refine D8 hE eBh1 h fun x10 h=>?_;cbv;cases h;exact⟨_,t9,rfl,.e4 .z,rfl,ht9,hO⟩
  cbv;cases h;exact⟨_,_,rfl,⟨t2,ht2,rfl,rfl,hO⟩,.e2 .z,rfl⟩
 ·exact .e rfl (.v (.slt _ (.lst0)) (.e rfl (.e rfl (.z))))
 ·exact⟨trivial,hO⟩
 clear hx;rintro e l H ⟨t11,ht11,rfl,rfl,hO⟩
 repeat' (cbv;first|apply B7 hE h<;>intro _ h|(cases h;exact hK hO (.ro _ _))|refine N1 (f:=eBg7) hE G8 (by decide) hO 0 rfl ht11 (l:=s3.1) (m:=[(⟨s3.2,1099511627776⟩:A3)]) .z (.lstc (.eq (eBh1 (⟨s3.2,1099511627776⟩:A3)) .z) (.lst0)) h fun _ _ H hO _ h=>?_)
def cf142:=cfC [] [(2,9),(4,12)] [(70,11)]
def c142 (N:Nat):∀n aB aL aM r,AT N n aB aL aM=some r→C3 prog 142 [(U9 aB),vi aL,vi aM] (.tup [vi r.1,vi r.2.1,.bool r.2.2]):=by
 intro n
 induction n with
 |zero=>intro aB aL aM r h;cases h
 |succ n ih=>
 intro aB aL aM r h
 unfold AT at h
 refine N2 cf142 func142 call142 ntmps142 ?_;intro E H0 K hE hK hO;cbv;apply B7 hE h<;>intro _ h
 ·cbv;cases h;exact hK hO .z
 cbv;apply B7 hE h<;>intro _ h
 ·cbv;cases h;exact hK hO .z
 cbv;apply B7 hE h<;>intro _ h
 ·cbv;cases h;exact hK hO .z
 cbv;refine D8 hE eBi0 h fun x1 h=>?_;cbv;refine A9 hE h (ih x1 aL aM) .z fun r2 h=>?_;cbv;refine D8 hE eBi0 h fun x3 h=>?_;cbv;refine A9 hE h (ih x3 aL aM) .z fun r4 h=>?_;cbv;obtain⟨s5,hx,h⟩:=A7 h;refine L5 cf142 hE J6 (fun e l H1=>e= .normal∧l=[fi 9 r2.1,fi 10 r2.2.1,(11,.v (.bool r2.2.2)),fi 12 s5.1,fi 13 s5.2,(14,.v (.bool r4.2.2))]∧B6 Eq H0 [] H1) (by kernel_rfl) ?_ ?_
 ·clear h;have h:=hx;cbv;apply B7 hE h<;>intro _ h
  ·cbv;cases h;exact⟨_,⟨rfl,rfl,hO⟩,.e2 (.e4 .z),rfl⟩
  cbv;cases h;exact⟨_,⟨rfl,rfl,hO⟩,.e2 (.e4 .z),rfl⟩
 clear hx;rintro e l H ⟨rfl,rfl,hO⟩;cbv;cases h;exact hK hO .z
def c180 (N bA bB r)(h:HF N bA bB=some r):C3 prog 180 [vi bA,vi bB] (sr eBg7 r):=by
 refine N2 A8 func180 call180 ntmps180 ?_;intro E H0 K hE hK hO;cbv;apply B7 hE h<;>intro _ h
 ·cbv;cases h;exact hK hO (.lit _ (B5))
 cbv;cases h;exact hK hO (.lit _ (F2 ((eBh1 (⟨Ar.mx bA (-1099511627776),Ar.mn bB 1099511627776⟩:A3)).symm) (B5)))
def c181 (N aD aE r)(h:Gx N aD aE=some r):C3 prog 181 [vi aD,vi aE] (vi r):=by
 refine N2 A8 func181 call181 ntmps181 ?_;intro E H0 K hE hK hO
 repeat' (cbv;first|apply B7 hE h<;>intro _ h|(cases h;exact hK hO .z)|refine MX hE h fun h=>?_)
def c143 (N bW cB r)(h:DT N bW cB=some r):C3 prog 143 [vi bW,vi cB] (sr eBg7 r):=by
 refine N2 A8 func143 call143 ntmps143 ?_;intro E H0 K hE hK hO
 repeat' (cbv;first|apply B7 hE h<;>intro _ h|refine A9 hE h (c181 _ _ _) .z fun _ h=>?_|refine A9 hE h (c180 _ _ _) .z fun _ h=>?_|refine A9 hE h (c96 _ _) (.cons (.lit _ (B5)) .z) fun _ h=>?_|(cases h;exact hK hO .z)|(cases h;exact hK hO (.lit _ (B5))))
def cf182:=cfB [] [(6,14)]
def c182 (N aF r) (h:Hg N aF=some r):C3 prog 182 [sr eBg7 aF] (sr eBg7 r):=by
 refine N2 cf182 func182 call182 ntmps182 ?_;intro E H0 K hE hK hO;cbv;replace hO:=hO.tl0 (t:=.nil) rfl;obtain⟨s2,hx,h⟩:=A7 h;refine H5 cf182 hE J6 (fun s1=>[(0,.v (sr eBg7 aF)),(3,.v (sr eBg7 s1.1)),fi 4 s1.2]) (fun s1 H1=>B6 Eq H0 [.tl .nil] H1) (fun x e l H1=>e= .exit 0∧l=[(3,.v (sr eBg7 x))]∧B6 Eq H0 [.tl .nil] H1) (by kernel_rfl) ?_ hx ?_ hO ?_
 ·intro s1 H o hO h
  repeat' (cbv;first|apply B7 hE h<;>intro _ h|apply G9 hE|(cases h;exact⟨_,_,rfl,⟨rfl,rfl,hO⟩,.e rfl .z,rfl⟩))
  cbv;obtain⟨s4,hx,h⟩:=A7 h;refine H5 cf182 hE J6 (fun s3=>[(0,.v (sr eBg7 aF)),(3,.v (sr eBg7 s1.1)),fi 4 s1.2,fi 5 s3]) (fun s3 H1=>B6 Eq H0 [.tl .nil] H1) (fun x e l H1=>e= .exit 2∧l=[(0,.v (sr eBg7 aF)),(3,.v (sr eBg7 s1.1)),fi 4 s1.2,fi 5 x]∧B6 Eq H0 [.tl .nil] H1) (by kernel_rfl) ?_ hx ?_ hO ?_
  ·intro s3 H o hO h
   repeat' (cbv;first|apply B7 hE h<;>intro _ h|refine D8 hE eBh1 h fun _ h=>?_|(cases h;exact⟨_,rfl,.e4 .z,rfl,hO⟩)|(cases h;exact⟨_,_,rfl,⟨rfl,rfl,hO⟩,.e4 .z,rfl⟩))
  ·exact .e4 .z
  clear hx;rintro e l H ⟨rfl,rfl,hO⟩;cbv;refine MW hE (f:=eBg7) G8 h fun l7 t8 h=>?_;cbv;refine N1 (f:=eBg7) hE G8 (by decide) (hO.tl0 (t:=.full) rfl) 0 rfl trivial (l:=[]) (m:=l7) (.lst0) .z h fun l10 t9 H hO ht9 h=>?_;cbv;refine D8 hE eBh1 h fun x11 h=>?_;cbv;refine N1 (f:=eBg7) hE G8 (by decide) hO 0 rfl ht9 (l:=l10) (m:=[x11]) .z (.lstc (.eq (eBh1 x11) .z) (.lst0)) h fun l13 t12 H hO ht12 h=>?_;cbv;refine MW hE (f:=eBg7) G8 h fun l14 t15 h=>?_;cbv;refine N1 (f:=eBg7) hE G8 (by decide) hO 0 rfl ht12 (l:=l13) (m:=l14) .z .z h fun l17 t16 H hO ht16 h=>?_;cbv;cases h;exact⟨_,rfl,.e rfl (.v (.ro _ _) (.e rfl (.z))),rfl,hO.tail⟩
 ·exact .e rfl (.v (.lit _ (B5)) (.e rfl (.z)))
 clear hx;rintro e l H ⟨rfl,rfl,hO⟩;cbv;cases h;exact hK hO .z
def cf145:=cfB [6000004] [(7,14),(9,10)]
def c145 (N aF r) (h:Am N aF=some r):C3 prog 145 [sr eBg7 aF] (sr eBg7 r):=by
 refine AL (T:=TT) cf145 J6 func145 (by rfl) (by kernel_rfl) call145 ntmps145 (by rfl) (by rfl) ?_;intro E H0 K hE hK hF;have hO:B6 Eq H0 [] H0:=.start E0 rfl;cbv;refine A9 hE h (c182 N aF) .z fun r1 h=>?_;cbv;refine KA hE (f:=eBg7) hO fun q2 H hq2 hO=>?_;cbv;obtain⟨s5,hx,h⟩:=A7 h;refine J9 cf145 hE J6 (γ:=OG) (fun s3 g=>[(3,.v (sr eBg7 r1)),(4,.v (.own g.id g.lo g.n)),fi 5 s3.1]) (fun s3 g H1=>Bz g (Ar.len s3.2)∧B6 Eq H0 [ob g 2 eBg7 s3.2] H1) (fun x e l H1=>∃u1:OG,Bz u1 (Ar.len x)∧e= .exit 0∧l=[(4,.v (.own u1.id u1.lo u1.n))]∧B6 Eq H0 [ob u1 2 eBg7 x] H1) (by kernel_rfl) ?_ q2 hx ?_ ?_ ?_
 ·rintro s3 q4 H o ⟨hq4,hO⟩ h;cbv;apply G9 hE;cbv;apply B7 hE h<;>intro _ h
  ·cbv;apply KB hE hq4;cbv;apply B7 hE h<;>intro _ h
   ·cbv;refine D8 hE eBh1 h fun x6 h=>?_;cbv;refine DX (f:=eBg7) hE G8 (by decide) hO hq4 0 rfl (m:=[x6]) (Ct (f:=eBg7) hE G8 (.lstc (.eq (eBh1 x6) .z) (.lst0))) h fun l8 q7 H hq7 hO h=>?_;cbv;cases h;exact⟨_,q7,rfl,.e rfl (.e2 .z),rfl,hq7,hO⟩
   cbv;refine D8 hE eBh1 h fun x9 h=>?_;cbv;refine BF hE hO hq4 0 rfl h fun h=>?_;cbv;refine DH hE eBh1 hO hq4 0 rfl h fun x10 h=>?_;cbv;apply B7 hE h<;>intro _ h
   ·cbv;refine D8 hE eBh1 h fun x11 h=>?_;cbv;refine DX (f:=eBg7) hE G8 (by decide) hO hq4 0 rfl (m:=[x11]) (Ct (f:=eBg7) hE G8 (.lstc (.eq (eBh1 x11) .z) (.lst0))) h fun l13 q12 H hq12 hO h=>?_;cbv;cases h;exact⟨_,q12,rfl,.e rfl (.e2 .z),rfl,hq12,hO⟩
   cbv;refine D8 hE eBh1 h fun x14 h=>?_
   repeat' (cbv;first|apply B7 hE h<;>intro _ h|refine D8 hE eBh1 h fun x16 h=>?_|(cases h;exact⟨_,q4,rfl,.e rfl (.e2 .z),rfl,hq4,hO⟩)|refine BF hE hO hq4 0 rfl h fun h=>?_|refine DH hE eBh1 hO hq4 0 rfl h fun _ h=>?_|(refine BE hE (f:=eBg7) (esz:=2) (tz:=1) (off:=1) (u:=(fun x17:A3=>{x17 with cV:=x16.cV})) (fun x17=>⟨.int .i64 x16.cV,.refl _,rfl,rfl,(by rw[eBh1,eBh1];rfl)⟩) (by decide) hO hq4 0 rfl h fun _ H hq4 h hO=>?_))
  cbv;cases h;exact⟨_,_,rfl,⟨q4,hq4,rfl,rfl,hO⟩,.e rfl .z,rfl⟩
 ·exact .e rfl (.e2 .z)
 ·exact⟨hq2,hO⟩
 clear hx;rintro e l H ⟨q19,hq19,rfl,rfl,hO⟩;cbv;cases h;exact hF q19 _ _ 0 _ _ hO rfl (AN hE hq19) .z
def cf144:=cfB [] [(8,23)]
def c144 (N aD aE r) (h:Cg N aD aE=some r):C3 prog 144 [sr eBg7 aD,sr eBg7 aE] (sr eBg7 r):=by
 refine N2 cf144 func144 call144 ntmps144 ?_;intro E H0 K hE hK hO;cbv;replace hO:=hO.tl0 (t:=.nil) rfl;obtain⟨s3,hx,h⟩:=A7 h;refine J9 cf144 hE J6 (γ:=E7) (fun s1 g=>[(0,.v (sr eBg7 aD)),(1,.v (sr eBg7 aE)),(5,.v (.sl (Ar.lst eBg7 s1.1) g)),fi 6 s1.2]) (fun s1 g H1=>K6 g∧B6 Eq H0 [.tl g] H1) (fun x e l H1=>∃u1:E7,K6 u1∧e= .exit 0∧l=[(5,.v (.sl (Ar.lst eBg7 x) u1))]∧B6 Eq H0 [.tl u1] H1) (by kernel_rfl) ?_ .nil hx ?_ ?_ ?_
 ·rintro s1 t2 H o ⟨ht2,hO⟩ h;cbv;apply G9 hE;cbv;apply B7 hE h<;>intro _ h
  ·cbv;obtain⟨s6,hx,h⟩:=A7 h;refine J9 cf144 hE J6 (γ:=E7) (fun s4 g=>[(0,.v (sr eBg7 aD)),(1,.v (sr eBg7 aE)),(5,.v (.sl (Ar.lst eBg7 s4.1) g)),fi 6 s1.2,fi 7 s4.2]) (fun s4 g H1=>K6 g∧B6 Eq H0 [.tl g] H1) (fun x e l H1=>∃u1:E7,K6 u1∧e= .exit 2∧l=[(0,.v (sr eBg7 aD)),(1,.v (sr eBg7 aE)),(5,.v (.sl (Ar.lst eBg7 x) u1)),fi 6 s1.2]∧B6 Eq H0 [.tl u1] H1) (by kernel_rfl) ?_ t2 hx ?_ ?_ ?_
   ·rintro s4 t5 H o ⟨ht5,hO⟩ h;cbv;apply G9 hE;cbv;apply B7 hE h<;>intro _ h
    ·cbv;refine D8 hE eBh1 h fun x7 h=>?_;cbv;refine D8 hE eBh1 h fun x8 h=>?_;cbv;refine D8 hE eBh1 h fun x9 h=>?_;cbv;refine D8 hE eBh1 h fun x10 h=>?_;cbv;apply B7 hE h<;>intro _ h
     ·cbv;refine N1 (f:=eBg7) hE G8 (by decide) hO 0 rfl ht5 (l:=s4.1) (m:=[(⟨Ar.mx x7.Low x8.Low,Ar.mn x9.cV x10.cV⟩:A3)]) .z (.lstc (.eq (eBh1 (⟨Ar.mx x7.Low x8.Low,Ar.mn x9.cV x10.cV⟩:A3)) .z) (.lst0)) h fun l12 t11 H hO ht11 h=>?_;cbv;cases h;exact⟨_,t11,rfl,.e rfl (.e4 .z),rfl,ht11,hO⟩
     cbv;cases h;exact⟨_,t5,rfl,.e rfl (.e4 .z),rfl,ht5,hO⟩
    cbv;cases h;exact⟨_,_,rfl,⟨t5,ht5,rfl,rfl,hO⟩,.e4 .z,rfl⟩
   ·exact .e rfl (.e4 .z)
   ·exact⟨ht2,hO⟩
   clear hx;rintro e l H ⟨t13,ht13,rfl,rfl,hO⟩;cbv;cases h;exact⟨_,t13,rfl,.e4 .z,rfl,ht13,hO⟩
  cbv;cases h;exact⟨_,_,rfl,⟨t2,ht2,rfl,rfl,hO⟩,.e rfl .z,rfl⟩
 ·exact .e2 (.v (.slt _ (.lst0)) (.e rfl (.z)))
 ·exact⟨trivial,hO⟩
 clear hx;rintro e l H ⟨t14,ht14,rfl,rfl,hO⟩;cbv;refine A9 hE h (c145 N s3) (.cons (.ro _ _) .z) fun r15 h=>?_;cbv;cases h;exact hK hO .z
def c97 (N aB aL aM r)(h:CP N aB aL aM=some r):C3 prog 97 [(U9 aB),vi aL,vi aM] (.tup [sr eBg7 r.1,.bool r.2]):=by
 refine N2 A8 func97 call97 ntmps97 ?_;intro E H0 K hE hK hO
 repeat' (cbv;first|apply B7 hE h<;>intro _ h|refine A9 hE h (c142 _ _ _ _ _) .z fun _ h=>?_|refine A9 hE h (c143 _ _ _) .z fun _ h=>?_|refine A9 hE h (c144 _ _ _) .z fun _ h=>?_|refine D8 hE eBi0 h fun _ h=>?_|(cases h;exact hK hO (.tup (.cons (.lit _ (B5)) .z)))|(cases h;exact hK hO .z))
def cfo145:Cf:=⟨[6000002,6000004],[(7,14),(9,10)],[],[],[],[]⟩
def o145 (N aF r) (h:Am N aF=some r):PB prog 145 [sr eBg7 aF] 2 (Ar.lst eBg7 r):=by
 intro H0;refine Dr (T:=TT) (F:=H0) cfo145 J6 func145 (by rfl) (by kernel_rfl) call145 ntmps145 (by rfl) (by rfl) ?_;intro E K hE hK hN;have hO:B6 Eq H0 [] H0:=.start E0 rfl;cbv;refine KA hE (f:=eBg7) hO fun q1 H hq1 hO=>?_;cbv;refine A9 hE h (c182 N aF) .z fun r2 h=>?_;cbv;refine KA hE (f:=eBg7) hO fun q3 H hq3 hO=>?_;cbv;obtain⟨s6,hx,h⟩:=A7 h;refine J9 cfo145 hE J6 (γ:=OG) (fun s4 g=>[(3,.v (sr eBg7 r2)),(4,.v (.own g.id g.lo g.n)),fi 5 s4.1]) (fun s4 g H1=>Bz g (Ar.len s4.2)∧B6 Eq H0 [ob g 2 eBg7 s4.2,ob q1 2 eBg7 ([]:List A3)] H1) (fun x e l H1=>∃u1:OG,Bz u1 (Ar.len x)∧e= .exit 0∧l=[(4,.v (.own u1.id u1.lo u1.n))]∧B6 Eq H0 [ob u1 2 eBg7 x,ob q1 2 eBg7 ([]:List A3)] H1) (by kernel_rfl) ?_ q3 hx ?_ ?_ ?_
 ·rintro s4 q5 H o ⟨hq5,hO⟩ h;cbv;apply G9 hE;cbv;apply B7 hE h<;>intro _ h
  ·cbv;apply KB hE hq5;cbv;apply B7 hE h<;>intro _ h
   ·cbv;refine D8 hE eBh1 h fun x7 h=>?_;cbv;refine DX (f:=eBg7) hE G8 (by decide) hO hq5 0 rfl (m:=[x7]) (Ct (f:=eBg7) hE G8 (.lstc (.eq (eBh1 x7) .z) (.lst0))) h fun l9 q8 H hq8 hO h=>?_;cbv;cases h;exact⟨_,q8,rfl,.e rfl (.e2 .z),rfl,hq8,hO⟩
   cbv;refine D8 hE eBh1 h fun x10 h=>?_;cbv;refine BF hE hO hq5 0 rfl h fun h=>?_;cbv;refine DH hE eBh1 hO hq5 0 rfl h fun x11 h=>?_;cbv;apply B7 hE h<;>intro _ h
   ·cbv;refine D8 hE eBh1 h fun x12 h=>?_;cbv;refine DX (f:=eBg7) hE G8 (by decide) hO hq5 0 rfl (m:=[x12]) (Ct (f:=eBg7) hE G8 (.lstc (.eq (eBh1 x12) .z) (.lst0))) h fun l14 q13 H hq13 hO h=>?_;cbv;cases h;exact⟨_,q13,rfl,.e rfl (.e2 .z),rfl,hq13,hO⟩
   cbv;refine D8 hE eBh1 h fun x15 h=>?_
   repeat' (cbv;first|apply B7 hE h<;>intro _ h|refine D8 hE eBh1 h fun x17 h=>?_|(cases h;exact⟨_,q5,rfl,.e rfl (.e2 .z),rfl,hq5,hO⟩)|refine BF hE hO hq5 0 rfl h fun h=>?_|refine DH hE eBh1 hO hq5 0 rfl h fun _ h=>?_|(refine BE hE (f:=eBg7) (esz:=2) (tz:=1) (off:=1) (u:=(fun x18:A3=>{x18 with cV:=x17.cV})) (fun x18=>⟨.int .i64 x17.cV,.refl _,rfl,rfl,(by rw[eBh1,eBh1];rfl)⟩) (by decide) hO hq5 0 rfl h fun _ H hq5 h hO=>?_))
  cbv;cases h;exact⟨_,_,rfl,⟨q5,hq5,rfl,rfl,hO⟩,.e rfl .z,rfl⟩
 ·exact .e rfl (.e2 .z)
 ·exact⟨hq3,hO⟩
 clear hx;rintro e l H ⟨q20,hq20,rfl,rfl,hO⟩;cbv;cases h;exact hK q20 _ _ (AN hE hq20) (hO)
def cfo144:Cf:=⟨[6000004],[(8,23)],[],[],[],[]⟩
def o144 (N aD aE r) (h:Cg N aD aE=some r):PB prog 144 [sr eBg7 aD,sr eBg7 aE] 2 (Ar.lst eBg7 r):=by
 intro H0;refine Dr (T:=TT) (F:=H0) cfo144 J6 func144 (by rfl) (by kernel_rfl) call144 ntmps144 (by rfl) (by rfl) ?_;intro E K hE hK hN;have hO:B6 Eq H0 [] H0:=.start E0 rfl;cbv;refine KA hE (f:=eBg7) hO fun q1 H hq1 hO=>?_;cbv;replace hO:=hO.tl0 (t:=.nil) rfl;obtain⟨s4,hx,h⟩:=A7 h;refine J9 cfo144 hE J6 (γ:=E7) (fun s2 g=>[(0,.v (sr eBg7 aD)),(1,.v (sr eBg7 aE)),(5,.v (.sl (Ar.lst eBg7 s2.1) g)),fi 6 s2.2]) (fun s2 g H1=>K6 g∧B6 Eq H0 [.tl g,ob q1 2 eBg7 ([]:List A3)] H1) (fun x e l H1=>∃u1:E7,K6 u1∧e= .exit 0∧l=[(5,.v (.sl (Ar.lst eBg7 x) u1))]∧B6 Eq H0 [.tl u1,ob q1 2 eBg7 ([]:List A3)] H1) (by kernel_rfl) ?_ .nil hx ?_ ?_ ?_
 ·rintro s2 t3 H o ⟨ht3,hO⟩ h;cbv;apply G9 hE;cbv;apply B7 hE h<;>intro _ h
  ·cbv;obtain⟨s7,hx,h⟩:=A7 h;refine J9 cfo144 hE J6 (γ:=E7) (fun s5 g=>[(0,.v (sr eBg7 aD)),(1,.v (sr eBg7 aE)),(5,.v (.sl (Ar.lst eBg7 s5.1) g)),fi 6 s2.2,fi 7 s5.2]) (fun s5 g H1=>K6 g∧B6 Eq H0 [.tl g,ob q1 2 eBg7 ([]:List A3)] H1) (fun x e l H1=>∃u1:E7,K6 u1∧e= .exit 2∧l=[(0,.v (sr eBg7 aD)),(1,.v (sr eBg7 aE)),(5,.v (.sl (Ar.lst eBg7 x) u1)),fi 6 s2.2]∧B6 Eq H0 [.tl u1,ob q1 2 eBg7 ([]:List A3)] H1) (by kernel_rfl) ?_ t3 hx ?_ ?_ ?_
   ·rintro s5 t6 H o ⟨ht6,hO⟩ h;cbv;apply G9 hE;cbv;apply B7 hE h<;>intro _ h
    ·cbv;refine D8 hE eBh1 h fun x8 h=>?_;cbv;refine D8 hE eBh1 h fun x9 h=>?_;cbv;refine D8 hE eBh1 h fun x10 h=>?_;cbv;refine D8 hE eBh1 h fun x11 h=>?_;cbv;apply B7 hE h<;>intro _ h
     ·cbv;refine N1 (f:=eBg7) hE G8 (by decide) hO 0 rfl ht6 (l:=s5.1) (m:=[(⟨Ar.mx x8.Low x9.Low,Ar.mn x10.cV x11.cV⟩:A3)]) .z (.lstc (.eq (eBh1 (⟨Ar.mx x8.Low x9.Low,Ar.mn x10.cV x11.cV⟩:A3)) .z) (.lst0)) h fun l13 t12 H hO ht12 h=>?_;cbv;cases h;exact⟨_,t12,rfl,.e rfl (.e4 .z),rfl,ht12,hO⟩
     cbv;cases h;exact⟨_,t6,rfl,.e rfl (.e4 .z),rfl,ht6,hO⟩
    cbv;cases h;exact⟨_,_,rfl,⟨t6,ht6,rfl,rfl,hO⟩,.e4 .z,rfl⟩
   ·exact .e rfl (.e4 .z)
   ·exact⟨ht3,hO⟩
   clear hx;rintro e l H ⟨t14,ht14,rfl,rfl,hO⟩;cbv;cases h;exact⟨_,t14,rfl,.e4 .z,rfl,ht14,hO⟩
  cbv;cases h;exact⟨_,_,rfl,⟨t3,ht3,rfl,rfl,hO⟩,.e rfl .z,rfl⟩
 ·exact .e2 (.v (.slt _ (.lst0)) (.e rfl (.z)))
 ·exact⟨trivial,hO⟩
 clear hx;rintro e l H ⟨t15,ht15,rfl,rfl,hO⟩;cbv;refine Hh hE (f:=eBg7) h (o145 N s4) (.cons (.ro _ _) .z) hO fun l16 q17 H hq17 hO h=>?_;cbv;cases h;exact hK q17 _ _ (AN hE hq17) (hO)
def cf98:Cf:=⟨[],[],[],[],[(28,27)],[]⟩
def c98 (N aI aD aE r)(h:Cr N aI aD aE=some r):C3 prog 98 [vi aI,sr eBg7 aD,sr eBg7 aE] (sr eBg7 r):=by
 refine N2 cf98 func98 call98 ntmps98 ?_;intro E H0 K hE hK hO;cbv;apply B7 hE h<;>intro _ h
 ·cbv;refine A9 hE h (c144 N aD aE) .z fun r1 h=>?_;cbv;cases h;exact hK hO .z
 cbv;refine N1 (f:=eBg7) hE G8 (by decide) (hO.tl0 (t:=.full) rfl) 0 rfl trivial (l:=[]) (m:=aD) (.lst0) .z h fun l3 t2 H hO ht2 h=>?_;cbv;refine N1 (f:=eBg7) hE G8 (by decide) hO 0 rfl ht2 (l:=l3) (m:=aE) .z .z h fun l5 t4 H hO ht4 h=>?_;cbv;refine A9 hE h (c145 N l5) (.cons (.ro _ _) .z) fun r6 h=>?_;cbv;apply B7 hE h<;>intro _ h
 ·cbv;cases h;exact hK hO .z
 cbv;refine Hh hE (f:=eBg7) h (o144 N aD aE) .z hO fun l7 q8 H hq8 hO h=>?_;cbv;refine A9 hE h (c96 N r6) .z fun r9 h=>?_;cbv;refine DX (f:=eBg7) hE G8 (by decide) hO hq8 0 rfl (m:=r9) (Ct (f:=eBg7) hE G8 .z) h fun l11 q10 H hq10 hO h=>?_;cbv;refine NR hE hO hq10 0 rfl fun H hO=>?_;cbv;refine A9 hE h (c145 N l11) .z fun r12 h=>?_;cbv;cases h;exact hK hO .z
def cf52:=cfC [] [(3,6),(4,5)] [(64,12)]
def c52 (N:Nat):∀n aB aL aM r,BR N n aB aL aM=some r→C3 prog 52 [(U9 aB),vi aL,vi aM] (.tup [sr eBg7 r.1,.bool r.2]):=by
 intro n
 induction n with
 |zero=>intro aB aL aM r h;cases h
 |succ n ih=>
 intro aB aL aM r h
 unfold BR at h
 refine N2 cf52 func52 call52 ntmps52 ?_;intro E H0 K hE hK hO
 repeat' (cbv;first|apply B7 hE h<;>intro _ h|refine A9 hE h (ih _ _ _) .z fun _ h=>?_|refine A9 hE h (c96 _ _) .z fun _ h=>?_|refine A9 hE h (c97 _ _ _ _) .z fun _ h=>?_|refine D8 hE eBi0 h fun _ h=>?_|refine K7 hE (g:=fun r1=>sr eBg7 r1) h (c96 _ _) (.cons (.lit _ (B5)) .z) fun r1 h=>?_|(cases h;exact hK hO .z)|(cases h;exact hK hO (.tup (.cons (.lit _ (B5)) .z))))
 cbv;obtain⟨s6,hx,h⟩:=A7 h;refine L5 cf52 hE J6 (fun e l H1=>match(generalizing:=false) s6 with| .inl y=>e= .normal∧l=[fi 1 aL,fi 2 aM,(3,.v (.eref (Aq aB) 0))]∧B6 Eq H0 [] H1| .inr y=>e= .ret∧l=[(6,.v (sr eBg7 y)),(7,.b true)]∧B6 Eq H0 [] H1) (by kernel_rfl) ?_ ?_
 ·clear h;have h:=hx
  repeat' (cbv;first|apply B7 hE h<;>intro _ h|refine A9 hE h (c97 _ _ _ _) .z fun _ h=>?_|(cases h;exact⟨_,⟨rfl,rfl,hO⟩,.e rfl (.b rfl (.z)),rfl⟩)|(cases h;exact⟨_,⟨rfl,rfl,hO⟩,.e rfl (.e2 .z),rfl⟩))
 clear hx
 rcases s6 with y8|y14
 ·rintro e l H ⟨rfl,rfl,hO⟩;cbv;apply B7 hE h<;>intro _ h
  ·cbv;cases h;exact hK hO (.tup (.cons (.lit _ (B5)) .z))
  repeat' (cbv;first|refine A9 hE h (ih _ _ _) .z fun _ h=>?_|refine A9 hE h (c98 _ _ _ _) .z fun _ h=>?_|refine D8 hE eBi0 h fun _ h=>?_|(cases h;exact hK hO .z))
 rintro e l H ⟨rfl,rfl,hO⟩;cbv;cases h;exact hK hO .z
def c53 (N aC r) (h:FT N aC=some r):C3 prog 53 [(LV aC)] (vi r):=by
 refine N2 A8 func53 call53 ntmps53 ?_;intro E H0 K hE hK hO;cbv;obtain⟨s2,hx,h⟩:=A7 h;refine H5 A8 hE J6 (fun s1=>[(1,.v (.eref (Pu aC) 0)),fi 3 s1]) (fun s1 H1=>B6 Eq H0 [] H1) (fun x e l H1=>match(generalizing:=false) x with| .inl y=>e= .exit 0∧l=[]∧B6 Eq H0 [] H1| .inr y=>e= .ret∧l=[fi 2 y]∧B6 Eq H0 [] H1) (by kernel_rfl) ?_ hx ?_ hO ?_
 ·intro s1 H o hO h
  repeat' (cbv;first|apply B7 hE h<;>intro _ h|apply G9 hE|refine D8 hE eBi9 h fun _ h=>?_|(cases h;exact⟨_,_,rfl,⟨rfl,rfl,hO⟩,.e rfl .z,rfl⟩)|(cases h;exact⟨_,rfl,.e2 .z,rfl,hO⟩)|(cases h;exact⟨_,_,rfl,⟨rfl,rfl,hO⟩,.z,rfl⟩))
 ·exact .e2 .z
 clear hx
 rcases s2 with y4|y5
 ·rintro e l H ⟨rfl,rfl,hO⟩;cbv;cases h;exact hK hO .z
 rintro e l H ⟨rfl,rfl,hO⟩;cbv;cases h;exact hK hO .z
def cf55:=cfA [2]
def c55 (N aA r) (h:FQ N aA=some r):C3 prog 55 [(J8 aA)] (.tup [(J8 r.1),vi r.2]):=by
 refine N2 cf55 func55 call55 ntmps55 ?_;intro E H0 K hE hK hO;cbv;refine E5 hE hO fun b1 H hO=>?_;cbv;obtain⟨s3,hx,h⟩:=A7 h;refine H5 cf55 hE J6 (fun s2=>[(1,.v (.eref (Bg aA) 0)),(2,.v (.ref b1 0)),fi 4 s2]) (fun s2 H1=>B6 Eq H0 [cb b1 [.sl [] .nil]] H1) (fun x e l H1=>match(generalizing:=false) x with| .inl y=>e= .exit 0∧l=[(1,.v (.eref (Bg aA) 0)),(2,.v (.ref b1 0))]∧B6 Eq H0 [cb b1 [.sl [] .nil]] H1| .inr y=>e= .ret∧l=[(2,.v (.ref b1 0)),fi 3 5]∧B6 Eq H0 [cb b1 [.sl [] .nil]] H1) (by kernel_rfl) ?_ hx ?_ hO ?_
 ·intro s2 H o hO h
  repeat' (cbv;first|apply B7 hE h<;>intro _ h|apply G9 hE|refine D8 hE eBh5 h fun _ h=>?_|refine B9 hE hO 0 rfl rfl fun H hO=>?_|(cases h;exact⟨_,_,rfl,⟨rfl,rfl,hO⟩,.e2 .z,rfl⟩)|(cases h;exact⟨_,rfl,.e rfl (.e2 .z),rfl,hO⟩))
 ·exact .e rfl (.e2 .z)
 clear hx
 rcases s3 with y5|y6
 ·rintro e l H ⟨rfl,rfl,hO⟩;cbv;refine B9 hE hO 0 rfl rfl fun H hO=>?_;cbv;apply D0 hE hO 0 rfl;cbv;cases h;exact hK hO .z
 rintro e l H ⟨rfl,rfl,hO⟩;cbv;apply D0 hE hO 0 rfl;cbv;cases h;exact hK hO (.tup (.cons (.agg (.cons (.lit _ (B5)) .z)) .z))
def cfo54:Cf:=⟨[2],[],[],[],[],[]⟩
def o54 (N aJ r)(h:NI N aJ=some r):Al8 prog 54 [vi aJ] 1 (Ar.lst eBh3 r.cX) (fun o=>.agg [o]):=by
 intro H0;refine At5 (T:=TT) (F:=H0) (mk:=fun o=>.agg [o]) (GS.agg [.bad] 0 (by simp)) cfo54 J6 func54 (by rfl) (by kernel_rfl) call54 ntmps54 (by rfl) (by rfl) ?_;intro E K hE hK hN;have hO:B6 Eq H0 [] H0:=.start E0 rfl;cbv;refine E5 hE hO fun b1 H hO=>?_;cbv;refine SL hE (f:=eBh3) (by decide) (z0:=([]:List A3)) ((.eq (eBh5 _) (.lit _ (B5)))) hO h fun l3 q2 H hq2 h hO=>?_;cbv;refine B9 hE hO 1 rfl rfl fun H hO=>?_;cbv;apply D0 hE hO 1 rfl;cbv;cases h;exact hK q2 _ 0 _ (AN hE hq2) rfl hO
def cf27:Cf:=⟨[8,17],[(18,12)],[],[],[(86,1000017)],[]⟩
def c27 (N aJ aV bI aL r) (h:Mh N aJ aV bI aL=some r):C3 prog 27 [sr eBh4 aJ,vi aV,(U9 bI),vi aL] (.tup [(J8 r.1),vi r.2]):=by
 refine N2 cf27 func27 call27 ntmps27 ?_;intro E H0 K hE hK hO
 repeat' (cbv;first|apply B7 hE h<;>intro _ h|apply G9 hE|refine A9 hE h (c24 _ _) .z fun _ h=>?_|apply D0 hE hO 0 rfl|refine B9 hE hO 0 rfl rfl fun H hO=>?_|refine E5 hE hO fun b1 H hO=>?_|(cases h;exact hK hO (.tup (.cons (.agg (.cons (.lit _ (B5)) .z)) .z))))
 cbv;replace hO:=hO.tl0 (t:=.nil) rfl;obtain⟨s5,hx,h⟩:=A7 h;refine J9 cf27 hE J6 (γ:=E7) (fun s3 g=>[(0,.v (sr eBh4 aJ)),fi 1 aV,fi 3 aL,(6,.v (.eref (Aq bI) 0)),(8,.v (.ref b1 0)),(11,.v (.sl (Ar.lst eBh6 s3.1) g)),fi 12 s3.2]) (fun s3 g H1=>K6 g∧B6 Eq H0 [.tl g,cb b1 [.sl [] .nil]] H1) (fun x e l H1=>∃u1:E7,K6 u1∧e= .exit 0∧l=[(0,.v (sr eBh4 aJ)),fi 1 aV,fi 3 aL,(6,.v (.eref (Aq bI) 0)),(8,.v (.ref b1 0)),(11,.v (.sl (Ar.lst eBh6 x) u1))]∧B6 Eq H0 [.tl u1,cb b1 [.sl [] .nil]] H1) (by kernel_rfl) ?_ .nil hx ?_ ?_ ?_
 ·rintro s3 t4 H o ⟨ht4,hO⟩ h;cbv;apply B7 hE h<;>intro _ h
  ·cbv;refine N1 (f:=eBh6) hE Oz (by decide) hO 0 rfl ht4 (l:=s3.1) (m:=[(⟨⟨#[]⟩,aV⟩:B3)]) .z (.lstc (.eq (eBj0 (⟨⟨#[]⟩,aV⟩:B3)) .z) (.lst0)) h fun l7 t6 H hO ht6 h=>?_;cbv;cases h;exact⟨_,t6,rfl,.e rfl (.e2 (.e4 .z)),rfl,ht6,hO⟩
  cbv;cases h;exact⟨_,_,rfl,⟨t4,ht4,rfl,rfl,hO⟩,.e2 (.e4 .z),rfl⟩
 ·exact .e rfl (.e4 (.v (.slt _ (.lst0)) (.e rfl (.z))))
 ·exact⟨trivial,hO⟩
 clear hx;rintro e l H ⟨t8,ht8,rfl,rfl,hO⟩
 repeat' (cbv;first|apply B7 hE h<;>intro _ h|apply G9 hE|refine A9 hE h (c51 _ _ _ _) (.r (.cons (.ro _ _) .z)) fun _ h=>?_|refine Wa hE (f:=eBh3) (g:=fun l13=>l13.cX) (mk:=fun l13 o=>.agg [o]) h (o54 N (Ar.len aJ)) .z hO fun l13 _ H hq14 hO h=>?_|refine A9 hE h (c55 _ _) .z fun _ h=>?_|refine D8 hE eBi7 h fun _ h=>?_|apply D0 hE hO 1 rfl|apply D0 hE hO 0 rfl|apply D0 hE hO 2 rfl|refine B9 hE hO 1 rfl rfl fun H hO=>?_|refine B9 hE hO 0 rfl rfl fun H hO=>?_|refine B9 hE hO 2 rfl rfl fun H hO=>?_|refine K7 hE (g:=fun r11=>vi r11) h (c53 _ _) .z fun r11 h=>?_|refine K7 hE (g:=fun r12=>.tup [sr eBg7 r12.1,.bool r12.2]) h (c52 _ _ _ _ _) .z fun r12 h=>?_|refine E5 hE hO fun _ H hO=>?_|(cases h;exact hK hO (.tup (.cons (.agg (.cons (.lit _ (B5)) .z)) .z)))|(cases h;exact hK hO .z)|refine BF hE hO hq14 1 rfl h fun h=>?_|(refine BE hE (f:=eBh3) (esz:=1) (tz:=1) (off:=0) (u:=(fun x16:List A3=>r12.1)) (fun _=>⟨_,.eq (eBh5 _) .z,(by rw[eBh5];rfl),FN _,rfl⟩) (by decide) hO hq14 1 rfl h fun _ H hq14 h hO=>?_)|refine Rx hE hO hq14 0 1 rfl rfl rfl (by decide) fun H hO=>?_)
def cf7:Cf:=⟨[4,10,12],[],[(80,23)],[],[(94,2000010)],[]⟩
def c7 (N aJ aA r) (h:Cw N aJ aA=some r):C3 prog 7 [sr eBh4 aJ,(C9 aA)] (.tup [(X0 r.1),vi r.2]):=by
 refine N2 cf7 func7 call7 ntmps7 ?_;intro E H0 K hE hK hO;cbv;refine E5 hE hO fun b1 H hO=>?_
 repeat' (cbv;first|apply B7 hE h<;>intro _ h|apply G9 hE|refine A9 hE h (c24 _ _) .z fun _ h=>?_|refine A9 hE h (c25 _ _) .z fun r3 h=>?_|refine A9 hE h (c26 _ _ _) .z fun _ h=>?_|apply D0 hE hO 0 rfl|refine B9 hE hO 0 rfl rfl fun H hO=>?_|refine E5 hE hO fun b7 H hO=>?_|(cases h;exact hK hO (.tup (.cons (.agg (.r (.cons (.lit _ (B5)) (.cons (.lit _ (B5)) .z)))) .z)))|refine SL hE (f:=V.bool) (by decide) (z0:=(false:Bool)) (.z) hO h fun _ q5 H hq5 h hO=>?_|refine BF hE hO hq5 1 rfl h fun h=>?_|refine BE hE (f:=V.bool) (esz:=1) (tz:=1) (off:=0) (u:=(fun x8:Bool=>true)) (fun _=>⟨.bool true,.refl _,rfl,rfl,rfl⟩) (by decide) hO hq5 1 rfl h fun l9 H hq5 h hO=>?_)
 cbv;replace hO:=hO.cast (L':=[cb b7 [vi (Ar.len aJ),.own q5.id q5.lo q5.n,.sl (Ar.lst eBh7 ([])) .nil],ob q5 1 V.bool l9,cb b1 [vi 0,.sl [] .nil,.sl [] .nil]]) (by simp only[ob,cb,sr,←B5]<;>rfl);replace hO:=hO.tl0 (t:=.nil) rfl;obtain⟨s12,hx,h⟩:=A7 h;refine J9 cf7 hE J6 (γ:=E7) (fun s10 g=>[(0,.v (sr eBh4 aJ)),(4,.v (.ref b1 0)),(7,.v (.eref (MI r3.1) 0)),fi 9 (Ar.len r3.1.cZ),(10,.v (.ref b7 0)),fi 11 s10.1]) (fun s10 g H1=>K6 g∧B6 Eq H0 [.tl g,cb b7 [vi s10.2.dJ,.own q5.id q5.lo q5.n,.sl (Ar.lst eBh7 s10.2.dA) g],ob q5 1 V.bool l9,cb b1 [vi 0,.sl [] .nil,.sl [] .nil]] H1) (fun x e l H1=>match(generalizing:=false) x with| .inl y=>∃u1:E7,K6 u1∧e= .exit 0∧l=[(4,.v (.ref b1 0)),(10,.v (.ref b7 0))]∧B6 Eq H0 [.tl u1,cb b7 [vi y.dJ,.own q5.id q5.lo q5.n,.sl (Ar.lst eBh7 y.dA) u1],ob q5 1 V.bool l9,cb b1 [vi 0,.sl [] .nil,.sl [] .nil]] H1| .inr y=>∃u1:E7,K6 u1∧e= .ret∧l=[(4,.v (.ref b1 0)),fi 5 y.1]∧B6 Eq H0 [.tl u1,cb b7 [vi y.2.dJ,.own q5.id q5.lo q5.n,.sl (Ar.lst eBh7 y.2.dA) u1],ob q5 1 V.bool l9,cb b1 [vi 0,.sl [] .nil,.sl [] .nil]] H1) (by kernel_rfl) ?_ .nil hx ?_ ?_ ?_
 ·rintro s10 t11 H o ⟨ht11,hO⟩ h
  repeat' (cbv;first|apply B7 hE h<;>intro _ h|apply G9 hE|refine A9 hE h (c27 _ _ _ _ _) .z fun r15 h=>?_|refine D8 hE eBi6 h fun _ h=>?_|apply D0 hE hO 0 rfl|refine B9 hE hO 0 rfl rfl fun H hO=>?_|refine B9 hE hO 4 rfl rfl fun H hO=>?_|refine E5 hE hO fun b14 H hO=>?_|(cases h;exact⟨_,_,rfl,⟨t11,ht11,rfl,rfl,hO.tail⟩,.e2 .z,rfl⟩)|(cases h;exact⟨_,_,rfl,⟨t11,ht11,rfl,rfl,hO⟩,.e2 .z,rfl⟩))
  cbv;obtain⟨s16,hx,h⟩:=A7 h;refine L5 cf7 hE J6 (fun e l H1=>e= .normal∧l=[(0,.v (sr eBh4 aJ)),(4,.v (.ref b1 0)),(7,.v (.eref (MI r3.1) 0)),fi 9 (Ar.len r3.1.cZ),(10,.v (.ref b7 0)),fi 11 s10.1,(12,.v (.ref b14 0)),(13,.v (.eref (Bg r15.1) 0))]∧B6 Eq H0 [cb b14 (U3 s16),.tl t11,cb b7 [vi s10.2.dJ,.own q5.id q5.lo q5.n,.sl (Ar.lst eBh7 s10.2.dA) t11],ob q5 1 V.bool l9,cb b1 [vi 0,.sl [] .nil,.sl [] .nil]] H1) (by kernel_rfl) ?_ ?_
  ·clear h;have h:=hx
   repeat' (cbv;first|apply B7 hE h<;>intro _ h|refine B9 hE hO 0 rfl rfl fun H hO=>?_|(cases h;exact⟨_,⟨rfl,rfl,hO⟩,.e4 (.e4 .z),rfl⟩))
  clear hx;rintro e l H ⟨rfl,rfl,hO⟩
  repeat' (cbv;first|apply D0 hE hO 2 rfl|apply D0 hE hO 0 rfl|refine B9 hE hO 2 rfl rfl fun H hO=>?_|(cases h;exact⟨_,t17,rfl,.e2 (.e4 .z),rfl,ht17,hO.tail⟩)|refine N1 (f:=eBh7) hE OA (by decide) hO 1 rfl ht11 (l:=s10.2.dA) (m:=[(⟨s16.dE,s16.To,r15.1⟩:K0)]) .z (.lstc (.eq (eBi2 (⟨s16.dE,s16.To,r15.1⟩:K0)) .z) (.lst0)) h fun _ t17 H hO ht17 h=>?_)
 ·exact .e2 (.e4 .z)
 ·exact⟨trivial,hO⟩
 clear hx
 rcases s12 with y19|y21
 ·rintro e l H ⟨t20,ht20,rfl,rfl,hO⟩;cbv;refine Rx hE hO hq5 1 2 rfl rfl rfl (by decide) fun H hO=>?_;cbv;apply D0 hE hO 1 rfl;cbv;refine B9 hE hO 2 rfl rfl fun H hO=>?_;cbv;apply D0 hE hO 2 rfl;cbv;cases h;exact hK hO (.tup (.cons (.agg (.r (.r (.cons (.ro _ _) .z)))) .z))
 rintro e l H ⟨t22,ht22,rfl,rfl,hO⟩;cbv;apply D0 hE hO 3 rfl;cbv;cases h;exact hK hO (.tup (.cons (.agg (.r (.cons (.lit _ (B5)) (.cons (.lit _ (B5)) .z)))) .z))
def c3 (N aJ aA r)(h:Br N aJ aA=some r):C3 prog 3 [sr eBh4 aJ,(C9 aA)] (.bool r):=by
 refine N2 A8 func3 call3 ntmps3 ?_;intro E H0 K hE hK hO
 repeat' (cbv;first|apply B7 hE h<;>intro _ h|apply G9 hE|refine A9 hE h (c5 _) .z fun _ h=>?_|refine A9 hE h (c4 _ _) .z fun _ h=>?_|refine A9 hE h (c6 _ _ _) .z fun _ h=>?_|refine A9 hE h (c7 _ _ _) .z fun _ h=>?_|refine A9 hE h (c8 _ _ _) .z fun _ h=>?_|(cases h;exact hK hO .z))
end Go.Ab
namespace Go.Ab
open Go.RowKit Go.ChangeShapes Go.WideShapes
variable [N9]
def g0 (W:World):Gh:=⟨fun _=>none,fun _=>⟨0,0,0⟩,fun _=>none,fun b o=>∃v,W.cell? ⟨b,o,none⟩=some v,0,W.heap.size⟩
def rl0 {W:World}(hg:∀n,VR (g0 W) W (.pointer (some ⟨n,0,none⟩)) (N9.gl n)):Rl (g0 W) (fun _=>none) W:=
 ⟨fun id b h=>(by cases h),fun id id' b h=>(by simp[Gh.at]at h),fun b o h=>h,fun id _=>⟨rfl,rfl,rfl⟩,D5 _,hg⟩
def FI (g:Gh)(w:World)(cs:List Value)(xs:List V):Prop:=
 cs.length=xs.length∧∀i,i<xs.length→(cs.getD i undef).oneCell'=true∧VR g w (cs.getD i undef) (xs.getD i .bad)
def FI.nil (g:Gh)(w:World):FI g w [] []:=⟨rfl,fun i hi=>by simp at hi⟩
theorem FI.one {g:Gh}{w:World}{v:Value}{x:V}(h1:v.oneCell'=true)(h:VR g w v x):FI g w [v] [x]:=by
 simp_all[FI]
def FI.append {g:Gh}{w:World}{cs ds:List Value}{xs ys:List V}(h:FI g w cs xs)(k:FI g w ds ys):FI g w (cs++ds) (xs++ys):=by
 grind[FI]
def FI.join {g:Gh}{w:World}{cs:List Value}{xs ys:List V}{a n m:Nat}(h:FI g w ((cs.drop a).take n) xs)(k:FI g w ((cs.drop (a+n)).take m) ys):FI g w ((cs.drop a).take (n+m)) (xs++ys):=by
 have:=h.append k
 rwa[show(cs.drop (a+n))=(cs.drop a).drop n by rw[Gk],←List.take_add]at this
def FI.agg {g:Gh} {w:World} {cs:Array Value} {xs:List V} (h:FI g w cs.toList xs):VR g w (.agg cs) (.agg xs):=by
 refine .agg (by simpa using h.1) (fun i hi=>?_) fun i hi=>?_
 ·have:=(h.2 i hi).1
  simp_all
 have:=(h.2 i hi).2
 simp_all
section
variable {H α:Type}{enc:TypeId×Value→H}{P:Program}{W:World}{base:Nat}{spare:Nat→Bool}{held:Bool}{t e:TypeId}{n:Nat}
def Opens (enc:TypeId×Value→H)(P:Program)(W:World)(base:Nat)(spare:Nat→Bool)(held:Bool)(t:TypeId)(f:α→V)(R:α→DataW H→Prop)(n:Nat):Prop:=
 ∀cs x,DataW.trod enc P W base spare held n t cs=some x→∃a,FI (g0 W) W cs (f a).cells∧R a x.1
def PX {k:IntKind}(ht:P.underlying t=some (.int k)):Opens enc P W base spare held t (V.int k) (fun a d=>d= .lit (.int k a)) n:=by
 intro cs x h;obtain⟨a,rfl,rfl,_⟩:=DataW.trod_int ht h;exact⟨a,.one rfl (.int _ _),rfl⟩
def Kv (ht:P.underlying t=some .bool):Opens enc P W base spare held t V.bool (fun a d=>d= .lit (.bool a)) n:=by
 intro cs x h;obtain⟨a,rfl,rfl⟩:=DataW.trod_bool ht h;exact⟨a,.one rfl (.bool _),rfl⟩
def Ap5 (ht:P.underlying t=some .string):Opens enc P W base spare held t V.str (fun a d=>d= .lit (.string a.data.toList)∧a.size≤maxLen) n:=by
 intro cs x h;obtain⟨a,rfl,rfl,hl⟩:=DataW.trod_string ht h;exact⟨a,.one rfl (.str _),rfl,hl⟩
def RL (R:α→DataW H→Prop)(l:List α)(ds:List (DataW H)):Prop:=l.length=ds.length∧∀(i:Nat) a d,l[i]? =some a→ds[i]? =some d→R a d
def RS (R:α→DataW H→Prop)(l:List α)(d:DataW H):Prop:=l.length≤maxLen∧((d= .nil∧l=[])∨∃es sp,d= .slice es sp∧RL R l es)
def IW {f:α→V} {R:α→DataW H→Prop} (ht:P.underlying t=some (.slice e)) (hc:0<P.cellsOf e) (he:Opens enc P W base spare held e f R n):
 Opens enc P W base spare held t (fun l:List α=>.sl (l.map f) .ro) (RS R) (n+1):=by
 intro cs x h
 rcases DataW.trod_slice ht h with⟨rfl,rfl⟩|⟨a,len,cap,elems,rest,n',hn,rfl,rfl,hb,hl,hm,hlen,hel,hsp,hns⟩
 ·exact⟨[],.one rfl (.sl0 rfl),BW _,.inl ⟨rfl,rfl⟩⟩
 have hn':n'=n:=by omega
 subst hn'
 rcases Nat.eq_zero_or_pos len with h0|h0
 ·subst h0;have:elems=[]:=List.length_eq_zero_iff.1 hlen;subst this;exact⟨[],.one rfl (.sle (.inl rfl)),BW _,.inr ⟨_,_,rfl,rfl,fun i a d hi=>by simp at hi⟩⟩
 have one:∀i,i<len→∃cs' y b,W.cells? base (a.add (i*P.cellsOf e)) (P.cellsOf e)=some cs'∧elems[i]? =some y∧FI (g0 W) W cs' (f b).cells∧R b y.1:=by
  grind[Option.bind_eq_some_iff,Opens]
 obtain⟨_,_,b0,_⟩:=one 0 h0
 haveI:Inhabited α:=⟨b0⟩
 obtain⟨A,hA⟩:=Deep.choose_lt (α:=α) (p:=fun i b=>∃cs' y,W.cells? base (a.add (i*P.cellsOf e)) (P.cellsOf e)=some cs'∧elems[i]? =some y∧FI (g0 W) W cs' (f b).cells∧R b y.1)
  (fun i hi=>let⟨cs',y,b,h1,h2,h3,h4⟩:=one i hi;⟨b,cs',y,h1,h2,h3,h4⟩)
 have hspot:a.spot=none:=by
  obtain⟨cs',y,h1,_,_,_⟩:=hA 0 h0;obtain⟨_,hcl,hcell⟩:=LE h1;have h2:=hcell 0 hc
  have e0:(a.add (0*P.cellsOf e)).add 0=a:=by simp[Addr.add]
  rw[e0]at h2
  have h3:cs'[0]? =some (cs'[0]'(by omega)):=by grind
  rw[h3]at h2
  unfold World.cell? at h2
  split at h2
  ·simp_all
  cases h2
 obtain⟨b,o,s⟩:=a
 simp only at hspot
 subst hspot
 let l:=(List.range len).map A
 have hll:l.length=len:=by simp[l]
 have hg:∀i,i<len→(l.map f).getD i .bad=f (A i):=fun i hi=>by grind
 have cell:∀i j,i<len→j<P.cellsOf e→∃v,W.cell? ⟨b,o+i*P.cellsOf e+j,none⟩=some v∧v.oneCell'=true∧VR (g0 W) W v ((f (A i)).cells.getD j .bad):=by
  intro i j hi hj;obtain⟨cs',y,h1,_,hr,_⟩:=hA i hi;obtain⟨_,hcl,hcell⟩:=LE h1;have h2:=hcell j hj
  rw[Aj,Aj]at h2
  have h3:cs'[j]? =some (cs'.getD j undef):=by simp_all
  rw[h3]at h2
  have:=hr.2 j (by rw[←hr.1,hcl];exact hj)
  simp_all
 refine⟨l,.one rfl ?_,by omega,.inr ⟨_,_,rfl,by simp_all,fun i a' d hi hd=>?_⟩⟩
 ·have hz:∀i,i<len→((l.map f).getD i .bad).cells.length=P.cellsOf e:=fun i hi=>by
   obtain⟨cs',y,h1,_,hr,_⟩:=hA i hi;obtain⟨_,hcl,_⟩:=LE h1;rw[hg i hi,←hr.1,hcl]
  refine .sl (sz:=P.cellsOf e) (fun i j=>(W.cell? ⟨b,o+i*P.cellsOf e+j,none⟩).getD undef) (by simp[hll]) hl hz (fun i j hi hj=>?_) (fun i j hi hj=>?_) (fun i j hi hj=>?_) (fun i j hi hj=>?_) trivial
  ·grind[g0]
  ·grind
  ·grind
  grind
 grind
def Ac1 {fs:Array Field} {xs:List (DataW H×List MemPlace)} {cs:List Value} {n:Nat} (hl:xs.length=fs.size)
 (hf:∀(i:Nat) (f:Field),fs[i]? =some f→DataW.trod enc P W base spare held n f.type ((cs.drop f.offset).take (P.cellsOf f.type))=xs[i]?) (i:Nat) {f:Field} (h:fs[i]? =some f):
 ∃y,xs[i]? =some y∧DataW.trod enc P W base spare held n f.type ((cs.drop f.offset).take (P.cellsOf f.type))=some y:=by
 have hi:i<fs.size:=by
  grind
 have h1:xs[i]? =some (xs[i]'(by omega)):=by grind
 grind
end
end Go.Ab
namespace Go.Ab
noncomputable instance arInst :Ar where
 cmp:=Ij
 cmp_eq:=fun _ _ _=>rfl
 ar:=arI
 ar_eq:=fun _ _ _ _=>rfl
 sh:=shI
 sh_eq:=fun _ _ _ _=>rfl
 neg:=fun k n=>k.wrap (0-n)
 neg_eq:=fun _ _=>rfl
 wr:=fun k n=>k.wrap n
 wr_eq:=fun _ _=>rfl
 scmp:=AZ1
 scmp_eq:=fun _ _ _=>rfl
 cat:=fun a b=>a++b
 cat_eq:=fun _ _=>rfl
 slen:=fun s=>s.size
 slen_eq:=fun _=>rfl
 sat:=fun s i=>match s[i.toNat]? with|some b=>(b.toNat:Int)|none=>0
 sat_eq:=fun _ _=>rfl
 beq:=fun a b=>a==b
 beq_eq:=fun _ _=>rfl
 nt:=fun a=> !a
 nt_eq:=fun _=>rfl
 an:=fun a b=>a&&b
 an_eq:=fun _ _=>rfl
 or:=fun a b=>a||b
 or_eq:=fun _ _=>rfl
 pk:=fun c a b=>if c then a else b
 pk_eq:=fun _ _ _=>rfl
 mx:=fun a b=>if a<b then b else a
 mx_eq:=fun _ _=>rfl
 mn:=fun a b=>if b<a then b else a
 mn_eq:=fun _ _=>rfl
 ofs:=fun a b=>a+b
 ofs_eq:=fun _ _=>rfl
 ofN:=fun n=>n
 ofN_eq:=fun _=>rfl
 len:=fun l=>l.length
 len_eq:=fun _=>rfl
 lst:=fun f l=>l.map f
 lst_eq:=fun _ _=>rfl
theorem C5 (a b:Int):Ar.cmp .lss a b=decide (a<b):=rfl
theorem Jg (a b:Int):Ar.cmp .leq a b=decide (a≤b):=rfl
theorem N6 (a b:Int):Ar.cmp .gtr a b=decide (b<a):=rfl
theorem U8 (a b:Int):Ar.cmp .geq a b=decide (b≤a):=rfl
theorem D9 (a b:Int):Ar.cmp .eql a b=decide (a=b):=rfl
theorem G2 (a b:Int):Ar.cmp .neq a b= !decide (a=b):=rfl
theorem N7 (a:Bool):Ar.nt a= !a:=rfl
theorem P5 (a b:Bool):Ar.an a b=(a&&b):=rfl
theorem K9 (a b:Bool):Ar.or a b=(a||b):=rfl
theorem B2 {α:Type}(l:List α):Ar.len l=(l.length:Int):=rfl
theorem Jr (a b:Int):Ar.mx a b=if a<b then b else a:=rfl
def LZ (s:ByteArray):Ar.slen s=(s.size:Int):=rfl
def Ey {n:Int} (h0: -9223372036854775808≤n) (h1:n<9223372036854775808):IntKind.wrap .i64 n=n:=by
 have e:IntKind.wrap .i64 n=(if n % 18446744073709551616≥9223372036854775808 then n % 18446744073709551616-18446744073709551616 else n % 18446744073709551616):=by
  unfold IntKind.wrap;simp[IntKind.bits,IntKind.signed]
 rw[e]
 split<;>omega
theorem J1 {a b:Int}(h0: -9223372036854775808≤a+b)(h1:a+b<9223372036854775808):Ar.ar .add .i64 a b=a+b:=Ey h0 h1
def Yg {S σ R α:Type} (l:List α) (hl:l.length<1000000000000) (step:S→Option (S⊕R)) (mk:σ→Int→S) (body:σ→α→Option (σ⊕R)) (fin:σ→R)
 (hstep:∀s (i:Nat) x,l[i]? =some x→step (mk s i)=(body s x).bind fun o=>match o with| .inl s'=>some (.inl (mk s' (i+1)))| .inr r=>some (.inr r))
 (hend:∀s,step (mk s l.length)=some (.inr (fin s))):
 ∀(k:Nat) (i:Nat) (s:σ) (N:Nat),i+k=l.length→k<N→loopN step N (mk s i)=(G3 body (l.drop i) s).bind fun o=>match o with| .inl s=>some (fin s)| .inr r=>some r:=by
 intro k
 induction k with
 |zero=>
  intro i s N hi hN;obtain⟨N,rfl⟩:∃M,N=M+1:=⟨N-1,by omega⟩;have e:l.drop i=[]:=LN (by omega)
  have ei:((i:Nat):Int)=l.length:=by omega
  rw[e,ei]
  grind[loopN,G3]
 | succ k ih=>
  intro i s N hi hN;obtain⟨N,rfl⟩:∃M,N=M+1:=⟨N-1,by omega⟩
  have hlt:i<l.length:=by omega
  have hx:l[i]? =some l[i]:=by simp[hlt]
  have e:l.drop i=l[i]::l.drop (i+1):=S3 hlt;rw[e];simp only[loopN,hstep s i _ hx,G3]
  cases hb:body s l[i]with
  |none=>rfl
  | some o=>
   cases o with
   |inl s'=>
    simp only[A4];have:=ih (i+1) s' N (by omega) (by omega);rw[show((i:Int)+1)=((i+1:Nat):Int) by omega];exact this
   |inr r=>rfl
theorem G4 {α:Type}{l:List α}{i:Nat}:B8 l (i:Int)=l[i]? :=by simp[B8]
def We {β S σ R α:Type} (l:List α) (step:S→Option (List β×(S⊕R))) (mk:σ→Int→S) (body:σ→α→Option (List β×(σ⊕R))) (fin:σ→R)
 (hstep:∀s (i:Nat) x,l[i]? =some x→step (mk s i)=(body s x).bind fun o=>match o with|(w,.inl s')=>some (w,.inl (mk s' (i+1)))|(w,.inr r)=>some (w,.inr r))
 (hend:∀s,step (mk s l.length)=some ([],.inr (fin s))):
 ∀(k:Nat) (i:Nat) (s:σ) (N:Nat),i+k=l.length→k<N→Z5 step N (mk s i)=(CU body (l.drop i) s).bind fun o=>match o with|(w,.inl s)=>some (w,fin s)|(w,.inr r)=>some (w,r):=by
 intro k
 induction k with
 |zero=>
  intro i s N hi hN;obtain⟨N,rfl⟩:∃M,N=M+1:=⟨N-1,by omega⟩;have e:l.drop i=[]:=LN (by omega)
  have ei:((i:Nat):Int)=l.length:=by omega
  rw[e,ei]
  grind[Z5,CU]
 | succ k ih=>
  intro i s N hi hN;obtain⟨N,rfl⟩:∃M,N=M+1:=⟨N-1,by omega⟩
  have hlt:i<l.length:=by omega
  have hx:l[i]? =some l[i]:=by simp[hlt]
  have e:l.drop i=l[i]::l.drop (i+1):=S3 hlt;rw[e];simp only[Z5,hstep s i _ hx,CU]
  cases hb:body s l[i]with
  |none=>rfl
  | some o=>
   obtain⟨w,o⟩:=o
   cases o with
   |inl s'=>
    simp only[A4];have:=ih (i+1) s' N (by omega) (by omega);rw[show((i:Int)+1)=((i+1:Nat):Int) by omega,this]
    grind
   |inr r=>rfl
def X4 {S σ R α:Type} (l:List α) (hl:l.length<1000000000000) {step:S→Option (S⊕R)} (mk:σ→Int→S) (body:σ→α→Option (σ⊕R)) (fin:σ→R) (s:σ) {N:Nat} (hN:l.length<N)
 (hstep:∀s (i:Nat) x,l[i]? =some x→(i:Int)<l.length→step (mk s i)=(body s x).bind fun o=>match o with| .inl s'=>some (.inl (mk s' (i+1)))| .inr r=>some (.inr r))
 (hend:∀s,step (mk s l.length)=some (.inr (fin s))):loopN step N (mk s 0)=(G3 body l s).bind fun o=>match o with| .inl s=>some (fin s)| .inr r=>some r:=by
 have:=Yg l hl step mk body fin (fun s i x h=>hstep s i x h (by
  grind)) hend l.length 0 s N (by omega) hN
 simp_all
def Aa6 {β S σ R α:Type} (l:List α) {step:S→Option (List β×(S⊕R))} (mk:σ→Int→S) (body:σ→α→Option (List β×(σ⊕R))) (fin:σ→R) (s:σ) {N:Nat} (hN:l.length<N)
 (hstep:∀s (i:Nat) x,l[i]? =some x→(i:Int)<l.length→step (mk s i)=(body s x).bind fun o=>match o with|(w,.inl s')=>some (w,.inl (mk s' (i+1)))|(w,.inr r)=>some (w,.inr r))
 (hend:∀s,step (mk s l.length)=some ([],.inr (fin s))):Z5 step N (mk s 0)=(CU body l s).bind fun o=>match o with|(w,.inl s)=>some (w,fin s)|(w,.inr r)=>some (w,r):=by
 have:=We l step mk body fin (fun s i x h=>hstep s i x h (by
  grind)) hend l.length 0 s N (by omega) hN
 simp_all
def Hn {α σ R:Type} {step:σ→α→Option (σ⊕R)} (I:List α→σ→Prop) (hs:∀x r s,I (x::r) s→∃s',step s x=some (.inl s')∧I r s'):∀{l:List α} {s:σ},I l s→∃s',G3 step l s=some (.inl s')∧I [] s'
 |[],s,h=>⟨s,rfl,h⟩
 |x::l,s,h=>by
  obtain⟨s',h1,h2⟩:=hs x l s h;obtain⟨s2,h3,h4⟩:=Hn I hs h2
  simp_all[G3]
def Sw {α β σ R:Type} {step:σ→α→Option (List β×(σ⊕R))} (I:List α→List β→σ→Prop) (hs:∀x r w s,I (x::r) w s→∃w' s',step s x=some (w',.inl s')∧I r (w++w') s'):
 ∀{l:List α} {w:List β} {s:σ},I l w s→∃w' s',CU step l s=some (w',.inl s')∧I [] (w++w') s'
 |[],w,s,h=>⟨[],s,rfl,by grind⟩
 |x::l,w,s,h=>by
  obtain⟨w1,s1,h1,h2⟩:=hs x l w s h;obtain⟨w2,s2,h3,h4⟩:=Sw I hs h2
  grind[CU]
def Ff {α:Type}(f:α→Int):List α→Int
 |[]=>0
 |x::l=>if f x=0 then Ff f l else f x
theorem Hu {α:Type} {f:α→Int}:∀{l:List α},Ff f l=0↔∀x∈l,f x=0
 |[]=>by simp[Ff]
 |x::l=>by
  unfold Ff
  split
  ·rename_i h;rw[Hu];simp[h]
  simp_all
def Rf {α:Type} {f:α→Int}:∀{l m:List α},Ff f (l++m)=if Ff f l=0 then Ff f m else Ff f l
 |[],m=>by simp[Ff]
 |x::l,m=>by
  simp only[Gs,Ff]
  split
  ·rw[Rf]
  omega
def UC {α:Type} {F:α→Option Int} {f:α→Int}:∀{l:List α},(∀x∈l,F x=some (f x))→
 G3 (fun(_:Unit) x=>(F x).bind fun r=>if Ar.cmp .neq r 0=true then some (Sum.inr r)else some (.inl ())) l ()=some (if Ff f l=0 then .inl ()else .inr (Ff f l))
 |[],_=>rfl
 |x::l,h=>by
  have h1:=UC (l:=l) fun y hy=>h y (by simp[hy]);unfold G3;simp only[h x (by simp),A4,G2,Ff]
  by_cases hz:f x=0
  ·simp_all[G2]
  simp[hz]
noncomputable def IJ {α:Type}(F:α→Option Int)(_:Unit)(a:α):Option (Unit⊕(Unit⊕Int)):=(F a).bind fun r=>if Ar.cmp .neq r 0=true then some (.inr (.inr r))else some (.inl ())
def FV {α:Type} {F:α→Option Int} {f:α→Int}:∀{l:List α},(∀x∈l,F x=some (f x))→G3 (IJ F) l ()=some (if Ff f l=0 then .inl ()else .inr (.inr (Ff f l)))
 |[],_=>rfl
 |x::l,h=>by
  have h1:=FV (l:=l) fun y hy=>h y (by simp[hy]);unfold G3 IJ;simp only[h x (by simp),A4,G2,Ff]
  by_cases hz:f x=0
  ·simp only[hz,K3,R3,D6,C7,B4];exact h1
  simp[hz]
end Go.Ab
namespace Go.Ab
open Go.RowKit Go.ChangeShapes Go.WideShapes
variable [N9]
section
variable {H α:Type}{enc:TypeId×Value→H}{P:Program}{W:World}{base:Nat}{spare:Nat→Bool}{held:Bool}{t e:TypeId}{n:Nat}
def UA {cs:List Value} {sz:Nat} {f:α→V}:∀(l:List α) (o:Nat),(∀(i:Nat) a,l[i]? =some a→FI (g0 W) W ((cs.drop (o+i*sz)).take sz) (f a).cells)→FI (g0 W) W ((cs.drop o).take (l.length*sz)) (l.flatMap fun a=>(f a).cells)
 |[],o,_=>by simp;exact .nil _ _
 | a::l,o,h=>by
  have h0:=h 0 a rfl
  rw[Nat.zero_mul,BX]at h0
  have h1:=UA l (o+sz) fun i b hi=>by
   have:=h (i+1) b (by grind)
   rwa[show o+(i+1)*sz=o+sz+i*sz by rw[I1];omega]at this
  have:=h0.join h1;rw[U0,Ix,show(l.length+1)*sz=sz+l.length*sz by rw[I1];omega];exact this
def XQ {f:α→V} {R:α→DataW H→Prop} {m:Nat} (ht:P.underlying t=some (.array m e)) (hct:P.cellsOf t=m*P.cellsOf e) (hm:0<m) (he:∀n,Opens enc P W base spare held e f R n) {cs:List Value} {x:DataW H×List MemPlace}
 (h:DataW.trod enc P W base spare held n t cs=some x):∃l:List α,FI (g0 W) W cs (l.flatMap fun a=>(f a).cells)∧∃ds,x.1= .agg ds∧RL R l ds:=by
 cases n with
 |zero=>simp[DataW.trod]at h
 | succ n=>
  simp only[DataW.trod,ht]at h
  split at h
  ·rename_i hl;obtain⟨xs,hmm,rfl⟩:=Option.map_eq_some_iff.1 h
   have hxl:xs.length=m:=by simpa using mapM_some_length hmm
   have one:∀i,i<m→∃b,FI (g0 W) W ((cs.drop (i*P.cellsOf e)).take (P.cellsOf e)) (f b).cells∧∀y,xs[i]? =some y→R b y.1:=by
    intro i hi;have h1:=mapM_some_get hmm i i (by simp[hi])
    have h2:xs[i]? =some (xs[i]'(by omega)):=by grind
    rw[h2]at h1
    obtain⟨b,hr,hR⟩:=he n _ _ h1
    grind
   obtain⟨b0,_⟩:=one 0 hm
   haveI:Inhabited α:=⟨b0⟩
   obtain⟨A,hA⟩:=Deep.choose_lt one
   have hat:∀(i:Nat) a,((List.range m).map A)[i]? =some a→i<m∧a=A i:=fun i a hi=>by
    grind
   refine⟨(List.range m).map A,?_,_,rfl,by simp[hxl],fun i a d hi hd=>?_⟩
   ·have:=UA (cs:=cs) (sz:=P.cellsOf e) (f:=f) (W:=W) ((List.range m).map A) 0 (fun i a hi=>by
     grind)
    grind
   grind
  cases h
def Yr {g:Nat} {cs:Array Value} {xs:List V} {name:String} (hg:P.globalNamed name=some g) (hv:W.var? P name=some cs) (hr:FI (g0 W) W cs.toList xs):VR (g0 W) W (.pointer (some ⟨g,0,none⟩)) (.eref xs 0):=by
 have cell:∀j,j<xs.length→W.cell? ⟨g,0+j,none⟩=some (cs.toList.getD j undef):=fun j hj=>by
  have h1:=World.var?_cell hg hv j
  have h2:j<cs.size:=by have:=hr.1;simp_all
  rw[L8,h1]
  simp_all
 exact .eref (g:=g0 W) (o:=0) (off:=0) (fun j=>cs.toList.getD j undef) (fun j hj=>(⟨_,cell j hj⟩:∃v,W.cell? ⟨g,0+j,none⟩=some v)) (fun j hj=>cell j hj) (fun j hj=>(hr.2 j hj).1) fun j hj=>(hr.2 j hj).2
end
section
variable {H:Type}{enc:TypeId×Value→H}{P:Program}{W:World}{base:Nat}{spare:Nat→Bool}{held:Bool}{t e:TypeId}{n:Nat}
end
end Go.Ab
namespace Go.Ab
mutual
def B1.bulk:B1→Nat
 |⟨_,args,_,_,_,v⟩=>B1.bulks args+v.Text.size+9
def B1.bulks:List B1→Nat
 |[]=>1
 |a::r=>B1.bulk a+B1.bulks r
end
mutual
def A0.bulk:A0→Nat
 |⟨_,args,_,_,_,_,c⟩=>A0.bulks args+B1.bulk c+6
def A0.bulks:List A0→Nat
 |[]=>1
 |a::r=>A0.bulk a+A0.bulks r
end
mutual
def B1.pre:B1→List B1
 |⟨op,args,var,field,kind,val⟩=>⟨op,args,var,field,kind,val⟩::B1.pres args
def B1.pres:List B1→List B1
 |[]=>[]
 |a::r=>B1.pre a++B1.pres r
end
mutual
def B1.dep:B1→Nat
 |⟨_,args,_,_,_,_⟩=>B1.deps args+1
def B1.deps:List B1→Nat
 |[]=>0
 |a::r=>max (B1.dep a) (B1.deps r)
end
mutual
def A0.pre:A0→List A0
 |⟨op,args,typ,var,scope,span,c⟩=>⟨op,args,typ,var,scope,span,c⟩::A0.pres args
def A0.pres:List A0→List A0
 |[]=>[]
 |a::r=>A0.pre a++A0.pres r
end
mutual
def A0.dep:A0→Nat
 |⟨_,args,_,_,_,_,_⟩=>A0.deps args+1
def A0.deps:List A0→Nat
 |[]=>0
 |a::r=>max (A0.dep a) (A0.deps r)
end
theorem B1.pre_eq (x:B1):x.pre=x::B1.pres x.cT:=by cases x;simp[B1.pre]
theorem A0.pre_eq (x:A0):x.pre=x::A0.pres x.cT:=by cases x;grind[A0.pre]
theorem B1.dep_eq (x:B1):x.dep=B1.deps x.cT+1:=by cases x;simp[B1.dep]
theorem A0.dep_eq (x:A0):x.dep=A0.deps x.cT+1:=by cases x;grind[A0.dep]
theorem B1.bulk_eq (x:B1):x.bulk=B1.bulks x.cT+x.Value.Text.size+9:=by cases x;simp[B1.bulk]
theorem A0.bulk_eq (x:A0):x.bulk=A0.bulks x.cT+x.cU.bulk+6:=by cases x;grind[A0.bulk]
def RE:∀(l:List B1),(∀a∈l,B1.bulk a≤B1.bulks l)∧l.length≤B1.bulks l
 |[]=>⟨fun a h=>by simp at h,by simp_all⟩
 |b::l=>by
  have h:=RE l;have hb:=B1.bulk_eq b
  grind[B1.bulks]
def RD:∀(l:List A0),(∀a∈l,A0.bulk a≤A0.bulks l)∧l.length≤A0.bulks l
 |[]=>⟨fun a h=>by simp at h,by simp_all⟩
 |b::l=>by
  have h:=RD l;have hb:=A0.bulk_eq b
  grind[A0.bulks]
mutual
def ZW:∀x:B1,x.pre.length≤x.bulk
 |⟨op,args,var,field,kind,val⟩=>by
  have:=IU args
  grind[B1.pre,B1.bulk]
def IU:∀l:List B1,(B1.pres l).length≤B1.bulks l
 |[]=>by simp[B1.pres]
 |a::l=>by
  have h1:=ZW a;have h2:=IU l
  grind[B1.pres,B1.bulks]
end
mutual
def HL:∀x:A0,x.pre.length≤x.bulk
 |⟨op,args,typ,var,scope,span,c⟩=>by
  have:=GA args
  grind[A0.pre,A0.bulk]
def GA:∀l:List A0,(A0.pres l).length≤A0.bulks l
 |[]=>by grind[A0.pres]
 |a::l=>by
  have h1:=HL a;have h2:=GA l
  grind[A0.pres,A0.bulks]
end
mutual
def Ad1:∀x:B1,x.dep≤x.bulk
 |⟨op,args,var,field,kind,val⟩=>by
  have:=Je args
  grind[B1.dep,B1.bulk]
def Je:∀l:List B1,B1.deps l≤B1.bulks l
 |[]=>by simp[B1.deps]
 |a::l=>by
  have h1:=Ad1 a;have h2:=Je l
  grind[B1.deps,B1.bulks]
end
mutual
def Ad0:∀x:A0,x.dep≤x.bulk
 |⟨op,args,typ,var,scope,span,c⟩=>by
  have:=Jd args
  grind[A0.dep,A0.bulk]
def Jd:∀l:List A0,A0.deps l≤A0.bulks l
 |[]=>by grind[A0.deps]
 |a::l=>by
  have h1:=Ad0 a;have h2:=Jd l
  grind[A0.deps,A0.bulks]
end
def Cut (lim:Int)(cnt:Nat)(r:Int):Prop:=1≤r∧r≤cnt∧(r=cnt∨lim<r)
section
variable {α:Type}
def Mk {lim:Int} {f:α→Option Int} {cnt:α→Nat} {B:Nat} (hB:B≤1000000000000):∀(l:List α) (s:Int),0≤s→s+(l.map cnt).sum≤B→(∀a∈l,∃r,f a=some r∧Cut lim (cnt a) r)→
 ∃o,G3 (fun(s:Int) x=>if s≤lim then(f x).bind fun r=>some (.inl (Ar.ar .add .i64 s r))else some (.inr s)) l s=some o∧
  ∃v,v=(match o with| .inl s=>s| .inr s=>s)∧s≤v∧v≤s+(l.map cnt).sum∧(v=s+(l.map cnt).sum∨lim<v)
 |[],s,h0,_,_=>⟨.inl s,rfl,s,rfl,S0 _,by simp,.inl (by simp)⟩
 | a::l,s,h0,hb,hf=>by
  simp only[E9,Il]at hb ⊢
  unfold G3
  by_cases hs:s≤lim
  ·obtain⟨r,h1,h2,h3,h4⟩:=hf a (by simp);simp only[A2 hs,h1,A4];have e:Ar.ar .add .i64 s r=s+r:=J1 (by omega) (by omega);rw[e];obtain⟨o,k1,v,k2,k3,k4,k5⟩:=Mk hB l (s+r) (by omega) (by omega) fun b hb=>hf b (by simp[hb])
   grind
  simp only[A1 hs]
  grind
end
def NA:∀l:List A0,(l.map fun a=>a.pre.length).sum=(A0.pres l).length
 |[]=>rfl
 |a::l=>by simp[A0.pres,NA l]
def NB:∀l:List B1,(l.map fun a=>a.pre.length).sum=(B1.pres l).length
 |[]=>rfl
 |a::l=>by simp[B1.pres,NB l]
def WW {N:Nat} (hN:Bgn N) (lim:Int):∀(n:Nat) (x:A0),x.bulk≤n→x.bulk≤16777216→∃r,AV N n x lim=some r∧Cut lim x.pre.length r:=by
 intro n
 induction n with
 |zero=>grind[A0.bulk_eq]
 | succ n ih=>
  intro x hx hb;have hxb:=A0.bulk_eq x;have hB:=RD x.cT;have hpb:=GA x.cT;unfold AV;rw[X4 x.cT (by omega) (mk:=fun(s:Int) i=>(s,i)) (body:=fun(s:Int) a=>if s≤lim then(AV N n a lim).bind fun r=>some (.inl (Ar.ar .add .i64 s r))else some (.inr s)) (fin:=fun s=>s) (s:=1) (by omega) ?_ ?_]
  ·obtain⟨o,k1,v,k2,k3,k4,k5⟩:=Mk (lim:=lim) (f:=fun a=>AV N n a lim) (cnt:=fun a=>a.pre.length) (B:=40000000) (by omega) x.cT 1 (by omega) (by rw[NA];omega) fun a ha=>ih a (by have:=hB.1 a ha;omega) (by have:=hB.1 a ha;omega)
   rw[NA]at k4 k5
   have hpe:x.pre.length=(A0.pres x.cT).length+1:=by rw[A0.pre_eq];rfl
   simp only[k1,A4];refine⟨v,?_,by omega,by omega,?_⟩
   ·cases o<;>simp_all
   omega
  ·intro s i a ha hi;have e:Ar.ar .add .i64 (i:Int) 1=i+1:=J1 (by omega) (by omega);simp only[C5,Jg,P5,B2,hi,K3,Gg,G4,ha,A4,e,C8]
   grind
  grind[C5,P5,B2]
end Go.Ab
