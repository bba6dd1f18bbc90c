/- . -/
import Derived.Test.YtildiiggamckaaaGreatDoorK14
set_option linter.all false
open Go.Ab.Ar (ar lst mx neg nt_eq)
namespace Go.Ab
open Go.RowKit Go.Proofs Go.Proofs.Tryz K8
variable [Ar][K8]
set_option maxRecDepth 100000
def c130 (N aA r) (h:CL N aA=some r):C7 prog 130 [(E5 aA)] (.tup [sr eAD8 r.1,vi r.2]):=by
 unfold CL at h
 refine P6 cf0 func130 call130 ntmps130 ?_;intro E H0 K hE hK hO;cbv;refine A9 hE h (c169 N aA) (.refl _) fun r1 h=>?_;cbv;refine B0 hE h (fun _ h=>?_) fun _ h=>?_
 ·cbv;cases h;exact hK hO (.tup (.cons (.lit _ (B4)) (.refl _)))
 cbv;replace hO:=hO.tl0 (t:=.full) rfl;obtain⟨s4,hx,h⟩:=bind_some h;refine H8 cf0 hE J9 (γ:=D2) (fun s2 g=>[(5,.v (.sl (lst eAD8 s2.1) g)),fi 6 s2.2]) (fun s2 g H1=>G3 g∧B6 Eq H0 [.tl g] H1) (fun x e l H1=>match(generalizing:=false) x with| .inl y=>∃u1:D2,G3 u1∧e= .exit 0∧l=[(5,.v (.sl (lst eAD8 y) u1))]∧B6 Eq H0 [.tl u1] H1| .inr y=>∃u1:D2,G3 u1∧e= .ret∧l=[(2,.v (.sl [] .nil)),fi 3 y]∧B6 Eq H0 [.tl u1] H1) (by kernel_rfl) ?_ .full hx ?_ ?_ ?_
 ·rintro s2 t3 H o ⟨ht3,hO⟩ h;clear hx;cbv;refine E9 hE ?_;cbv;refine B0 hE h (fun _ h=>?_) fun _ h=>?_
  ·cbv;refine D0 hE eAE6 h fun x5 h=>?_;cbv;refine SK hE (f:=eAE0) (g:=fun l6=>l6.1) (mk:=fun l6 o=>.tup [o,sr eAD8 l6.2.1,vi l6.2.2]) h (o170 N x5) (.refl _) hO fun l6 q7 H hq7 hO h=>?_;cbv;refine B0 hE h (fun _ h=>?_) fun _ h=>?_
   ·cbv;cases h;exact⟨_,_,rfl,⟨t3,ht3,rfl,rfl,hO.tail⟩,.e2 .z,rfl⟩
   cbv;refine E9 hE ?_;cbv;obtain⟨s10,hx,h⟩:=bind_some h;refine H8 cf0 hE J9 (γ:=D2) (fun s8 g=>[(5,.v (.sl (lst eAD8 s8.1) g)),fi 6 s2.2,(37,.v (sr eAD8 l6.2.1)),fi 38 (Ar.len l6.2.1),fi 39 s8.2]) (fun s8 g H1=>G3 g∧B6 Eq H0 [ob q7 17 eAE0 l6.1,.tl g] H1) (fun x e l H1=>∃u1:D2,G3 u1∧e= .exit 2∧l=[(5,.v (.sl (lst eAD8 x) u1)),fi 6 s2.2]∧B6 Eq H0 [ob q7 17 eAE0 l6.1,.tl u1] H1) (by kernel_rfl) ?_ t3 hx ?_ ?_ ?_
   ·rintro s8 t9 H o ⟨ht9,hO⟩ h;clear hx;cbv;refine B0 hE h (fun _ h=>?_) fun _ h=>?_
    ·cbv;refine D0 hE eAE6 h fun x11 h=>?_;cbv;refine A9 hE h (c171 N s8.1 x11) (.cons (.ro _ _) (.refl _)) fun r12 h=>?_;cbv;refine B0 hE h (fun _ h=>?_) fun _ h=>?_
     ·cbv;refine K7 (f:=eAD8) hE Bm (by decide) hO 1 rfl ht9 (l:=s8.1) (m:=[x11]) (.refl _) (.lstc (.eq (eAE6 x11) (.refl _)) (.lst0)) h fun l14 t13 H hO ht13 h=>?_;cbv;cases h;exact⟨_,t13,rfl,.e rfl (.e4 .z),rfl,ht13,hO⟩
     cbv;cases h;exact⟨_,t9,rfl,.e rfl (.e4 .z),rfl,ht9,hO⟩
    cbv;cases h;exact⟨_,_,rfl,⟨t9,ht9,rfl,rfl,hO⟩,.e2 .z,rfl⟩
   ·exact .e rfl (.e4 .z)
   ·exact⟨ht3,hO⟩
   clear hx;rintro e l H ⟨t15,ht15,rfl,rfl,hO⟩;cbv;refine E9 hE ?_;cbv;refine B0 hE h (fun _ h=>?_) fun _ h=>?_
   ·cbv;cases h;exact⟨_,_,rfl,⟨t15,ht15,rfl,rfl,hO.tail⟩,.e2 .z,rfl⟩
   cbv;cases h;exact⟨_,t15,rfl,.e2 .z,rfl,ht15,hO.tail⟩
  cbv;cases h;exact⟨_,_,rfl,⟨t3,ht3,rfl,rfl,hO⟩,.e rfl .z,rfl⟩
 ·exact .v (.slt _ (.lstc (.eq (eAE6 aA) (.refl _)) (.lst0))) (.e rfl .z)
 ·exact⟨trivial,hO⟩
 clear hx
 rcases s4 with y16|y18
 ·rintro e l H ⟨t17,ht17,rfl,rfl,hO⟩;cbv;cases h;exact hK hO (.tup (.cons (.ro _ _) (.refl _)))
 rintro e l H ⟨t19,ht19,rfl,rfl,hO⟩;cbv;cases h;exact hK hO (.tup (.cons (.lit _ (B4)) (.refl _)))
def c131 (N aA r)(h:HT N aA=some r):C7 prog 131 [(E5 aA)] (.tup [vi r.1,vi r.2.1,vi r.2.2]):=by
 unfold HT at h
 refine P6 cf0 func131 call131 ntmps131 ?_;intro E H0 K hE hK hO;cbv;refine A9 hE h (c169 N aA) (.refl _) fun r1 h=>?_;cbv;refine B0 hE h (fun _ h=>?_) fun _ h=>?_
 ·cbv;cases h;exact hK hO (.refl _)
 cbv;refine A9 hE h (c172 N aA) (.refl _) fun r2 h=>?_;cbv;cases h;exact hK hO (.refl _)
def c217 (N aH aG r)(h:EM N aH aG=some r):C7 prog 217 [(E5 aH),.eref (G7 aG) 0] (.bool r):=by
 unfold EM at h
 refine P6 cf0 func217 call217 ntmps217 ?_;intro E H0 K hE hK hO;cbv;refine A9 hE h (c215 N N aH aG) (.refl _) fun r1 h=>?_;cbv;cases h;exact hK hO (.refl _)
def c175 (N aE aA r)(h:IS N aE aA=some r):C7 prog 175 [sr eAD8 aE,(E5 aA)] (vi r):=by
 unfold IS at h
 refine P6 cf0 func175 call175 ntmps175 ?_;intro E H0 K hE hK hO;cbv;refine A9 hE (g:=fun r1=>vi r1) h (fun r1 hx=>c134 N aE (.func (.func 217) [] [.eref (G7 aA) 0]) (fun y1=>EM N y1 aA) (fun y1 r hx=>C7.value (F:=[]) (C:=[.eref (G7 aA) 0]) (c217 N y1 aA r hx)) r1 hx) (.refl _) fun r1 h=>?_;cbv;cases h;exact hK hO (.refl _)
def cfo174:Cf:=⟨[6000002],[],[],[],[],[]⟩
def o174 (N aA r)(h:Df N aA=some r):Aj5 prog 174 [(E5 aA)] 17 (lst eAE0 r.1) (fun o=>.tup [o,sr eAD8 r.2.1,vi r.2.2]):=by
 unfold Df at h
 intro H0;refine Qv (T:=TT) (F:=H0) (mk:=fun o=>.tup [o,sr eAD8 r.2.1,vi r.2.2]) (Ib.tup [.bad,sr eAD8 r.2.1,vi r.2.2] 0 (by simp)) cfo174 J9 func174 (by rfl) (by kernel_rfl) call174 ntmps174 (by rfl) (by rfl) ?_;intro E K hE hK hN;have hO:B6 Eq H0 [] H0:=.start C5 rfl;cbv;refine LL hE (f:=eAE0) hO fun q1 H hq1 hO=>?_;cbv;refine A9 hE h (c176 N aA) (.refl _) fun r2 h=>?_;cbv;refine B0 hE h (fun _ h=>?_) fun _ h=>?_
 ·cbv;refine LL hE (f:=eAE0) hO fun q3 H hq3 hO=>?_;cbv;cases h;exact hK q3 _ 0 _ _ (Z5 hE hq3) rfl hO (.tup (.cons (.refl _) (.cons (.lit _ (B4)) (.refl _))))
 cbv;refine SK hE (f:=eAE0) (g:=fun l4=>l4.1) (mk:=fun l4 o=>.tup [o,sr eAD8 l4.2.1,vi l4.2.2]) h (o170 N aA) (.refl _) hO fun l4 q5 H hq5 hO h=>?_;cbv;cases h;exact hK q5 _ 0 _ _ (Z5 hE hq5) rfl hO (.tup (.refl _))
def cf173:Cf:=⟨[4],[(10,10)],[],[],[(55,5)],[]⟩
def c173 (N aG r) (h:Fe N aG=some r):It prog 173 (fun yv=>[yv,.eref [sr eAD8 aG] 0]) (List.map (fun(x:(Int×(List E4)))=>[vi x.1,sr eAE0 x.2]) r) rbN:=by
 unfold Fe at h
 obtain⟨⟨w0,u0⟩,h1,hr⟩:=bind_some h;clear h;have hr:=I9 hr;subst hr;have h:=h1;clear h1;refine T3 cf173 J9 func173 (by rfl) (by kernel_rfl) call173 ntmps173 (by rfl) (fun _=>rfl) ?_;intro yv I D hI hD hy tl F E H K hE hO hK hKD
 have hO:B6 (I (List.map (fun(x:(Int×(List E4)))=>[vi x.1,sr eAE0 x.2]) (w0++[])++tl)) F [] H:=by rw[G9];exact hO
 cbv;refine E9 hE ?_;cbv;obtain⟨w2,w3,s6,hx,h1,he⟩:=R7 h;clear h;have h:=h1;clear h1
 rw[he,F6]at hO
 clear he;refine KX cf173 hE J9 (γ:=Unit) (fun s1 g=>[(0,.v (yv)),(1,.v (.eref [sr eAD8 aG] 0)),(10,.v (sr eAD8 aG)),fi 11 (Ar.len aG),fi 12 s1]) (fun s1 g w H1=>B6 (I (List.map (fun(x:(Int×(List E4)))=>[vi x.1,sr eAE0 x.2]) w++tl)) F [] H1) (fun x e l w H1=>e= .exit 0∧l=[]∧B6 (I (List.map (fun(x:(Int×(List E4)))=>[vi x.1,sr eAE0 x.2]) w++tl)) F [] H1) (fun e l H1=>(e= .ret∧l=[]∧B6 D F [] H1)) (by kernel_rfl) ?_ (w':=w3++[]) () hx ?_ ?_ ?_ ?_
 ·rintro s1 _ w4 w5 H o hO h;clear hx
  skip
  cbv;refine B0 hE h (fun _ h=>?_) fun _ h=>?_
  ·cbv;refine D0 hE eAE6 h fun x7 h=>?_;cbv;refine D8 hE hO fun b8 H hO=>?_;cbv;refine A7 hE hO 0 rfl rfl fun H hO=>?_;cbv;refine A8 hE hO 0 rfl ?_;cbv;refine SK hE (f:=eAE0) (g:=fun l9=>l9.1) (mk:=fun l9 o=>.tup [o,sr eAD8 l9.2.1,vi l9.2.2]) h (o174 N x7) (.refl _) hO fun l9 q10 H hq10 hO h=>?_;cbv;refine Fc hE hq10 ?_;cbv;obtain⟨w13,w14,s17,hx,h1,he⟩:=R7 h;clear h;have h:=h1;clear h1
   rw[he,F6]at hO
   clear he;refine KX cf173 hE J9 (γ:=OG) (fun s11 g=>[(0,.v (yv)),(1,.v (.eref [sr eAD8 aG] 0)),fi 3 s1,(5,.v (.own g.id g.lo g.n)),(6,.v (sr eAD8 l9.2.1)),(10,.v (sr eAD8 aG)),fi 11 (Ar.len aG),fi 12 s1,fi 24 (Ar.len l9.1),fi 25 s11.1]) (fun s11 g w H1=>Z0 g (Ar.len s11.2)∧B6 (I (List.map (fun(x:(Int×(List E4)))=>[vi x.1,sr eAE0 x.2]) w++tl)) F [ob g 17 eAE0 s11.2,cb b8 (G7 x7)] H1) (fun x e l w H1=>∃u1:OG,Z0 u1 (Ar.len x)∧e= .exit 2∧l=[(0,.v (yv)),(1,.v (.eref [sr eAD8 aG] 0)),fi 3 s1,(5,.v (.own u1.id u1.lo u1.n)),(10,.v (sr eAD8 aG)),fi 11 (Ar.len aG),fi 12 s1]∧B6 (I (List.map (fun(x:(Int×(List E4)))=>[vi x.1,sr eAE0 x.2]) w++tl)) F [ob u1 17 eAE0 x,cb b8 (G7 x7)] H1) (fun e l H1=>False) (by kernel_rfl) ?_ (w':=w14++w5) q10 hx ?_ ?_ ?_ ?_
   ·rintro s11 q12 w15 w16 H o ⟨hq12,hO⟩ h;clear hx
    skip
    cbv;refine B0 hE h (fun _ h=>?_) fun _ h=>?_
    ·cbv;refine N9 hE hO hq12 0 rfl h fun h=>?_;cbv;refine Q8 hE (f:=eAE0) (esz:=17) (tz:=1) (off:=0) (u:=(fun x18:E4=>{x18 with cW:=s1})) (fun x18=>⟨.int .i64 s1,.refl _,rfl,rfl,(by rw[eAF8,eAF8];rfl)⟩) (by decide) hO hq12 0 rfl h fun l19 H hq12 h hO=>?_;cbv;refine U4 hE eAF8 hO hq12 0 rfl h fun x20 h=>?_;cbv;refine B0 hE h (fun _ h=>?_) fun _ h=>?_
     ·cbv;refine U4 hE eAF8 hO hq12 0 rfl h fun x21 h=>?_;cbv;refine D0 hE eAE6 h fun x22 h=>?_;cbv;refine M9 hE (g:=fun r23=>vi r23) h (c175 N aG x22) (.refl _) fun r23 h=>?_;cbv;refine Q8 hE (f:=eAE0) (esz:=17) (tz:=1) (off:=1) (u:=(fun x24:E4=>{x24 with To:=r23})) (fun x24=>⟨.int .i64 r23,.refl _,rfl,rfl,(by rw[eAF8,eAF8];rfl)⟩) (by decide) hO hq12 0 rfl h fun l25 H hq12 h hO=>?_;cbv;obtain⟨hw,rfl⟩:=F9 h
      rw[←hw]at hO
      exact⟨_,q12,rfl,.e2 (.e4 (.e4 .z)),rfl,⟨hq12,hO⟩⟩
     cbv;obtain⟨hw,rfl⟩:=F9 h
     rw[←hw]at hO
     exact⟨_,q12,rfl,.e2 (.e4 (.e4 .z)),rfl,⟨hq12,hO⟩⟩
    cbv;obtain⟨hw,rfl⟩:=F9 h
    rw[←hw]at hO
    exact .inl ⟨_,_,rfl,⟨q12,hq12,rfl,rfl,hO⟩,.e rfl (.e2 (.e4 .z)),rfl⟩
   ·exact .e2 (.e4 (.e4 .z))
   ·exact⟨hq10,hO⟩
   ·rintro e l H ⟨t26,ht26,rfl,rfl,hO⟩;clear hx;cbv;refine Nl hE hO ht26 0 rfl fun H hO=>?_;cbv;obtain⟨w27,h1,he⟩:=Y0 h;clear h;have h:=h1;clear h1
    rw[he,F6]at hO
    clear he;have hO:B6 (I ([vi s1,sr eAE0 s17]::(List.map (fun(x:(Int×(List E4)))=>[vi x.1,sr eAE0 x.2]) (w27++w5)++tl))) F [cb b8 (G7 x7)] _:=hO;refine Dt hE hI hD hy hO (.refl _) (fun H hO=>?_) (fun H hO=>?_)
    ·cbv;refine Ko hE (nt_eq _) ?_;cbv;obtain⟨hw,rfl⟩:=F9 h
     rw[←hw]at hO
     exact⟨_,(),rfl,.e rfl (.e4 .z),rfl,hO.tail⟩
    clear h;cbv;refine Kn hE (nt_eq _) ?_;cbv;exact .inr ⟨_,⟨rfl,rfl,hO.tail⟩,.z,rfl⟩
   rintro e l H hX;exact hX.elim
  cbv;obtain⟨hw,rfl⟩:=F9 h
  rw[←hw]at hO
  exact .inl ⟨_,_,rfl,⟨rfl,rfl,hO⟩,.z,rfl⟩
 ·exact .e rfl (.e4 .z)
 ·exact hO
 ·rintro e l H ⟨rfl,rfl,hO⟩;clear hx;cbv;obtain⟨hw,_⟩:=F9 h
  rw[←hw]at hO
  exact hK _ _ _ hO trivial
 rintro e l H hX;obtain⟨rfl,rfl,hO⟩:=hX;clear h;cbv;exact hKD _ _ _ hO trivial
def c132 (N aE r)(h:He N aE=some r):EP prog 132 [sr eAD8 aE] (fun v=>Gu prog v (r.map fun(x:(Int×(List E4)))=>[vi x.1,sr eAE0 x.2])):=by
 unfold He at h
 refine X0 cf0 J9 func132 (by rfl) (by kernel_rfl) call132 ntmps132 (by rfl) (by rfl) ?_;intro E H0 K hE hK;have hO:B6 Eq H0 [] H0:=.start C5 rfl;cbv;exact hK _ _ _ hO (W8 call173 (c173 N aE r h))
def cf177:Cf:=⟨[],[],[(8,5),(51,17)],[],[],[]⟩
def c177 (N:Nat):∀n aA r,U2 N n aA=some r→C7 prog 177 [(E5 aA)] (sr eAF7 r):=by
 intro n
 induction n with
 |zero=>intro aA r h;cases h
 |succ n ih=>
 intro aA r h
 unfold U2 at h
 refine P6 cf177 func177 call177 ntmps177 ?_;intro E H0 K hE hK hO;cbv;obtain⟨s1,hx,h⟩:=bind_some h;refine O1 cf177 hE J9 (fun e l H1=>e= .normal∧l=[(1,.v (.eref (G7 aA) 0)),(3,.v (.sl [] .nil)),fi 7 aA.Op,(8,.v (.bool s1))]∧B6 Eq H0 [] H1) (by kernel_rfl) ?_ ?_
 ·clear h;have h:=hx;clear hx;cbv;refine B0 hE h (fun _ h=>?_) fun _ h=>?_
  ·cbv;cases h;exact⟨_,⟨rfl,rfl,hO⟩,.e4 .z,rfl⟩
  cbv;cases h;exact⟨_,⟨rfl,rfl,hO⟩,.e4 .z,rfl⟩
 clear hx;rintro e l H ⟨rfl,rfl,hO⟩;cbv;refine B0 hE h (fun _ h=>?_) fun _ h=>?_
 ·cbv;refine D0 hE eAE6 h fun x2 h=>?_;cbv;refine A9 hE h (ih x2) (.refl _) fun r3 h=>?_;cbv;cases h;exact hK hO (.refl _)
 cbv;refine B0 hE h (fun _ h=>?_) fun _ h=>?_
 ·cbv;refine E9 hE ?_;cbv;replace hO:=hO.tl0 (t:=.nil) rfl;obtain⟨s6,hx,h⟩:=bind_some h;refine H8 cf177 hE J9 (γ:=D2) (fun s4 g=>[(3,.v (.sl (lst eAF7 s4.1) g)),(19,.v (sr eAD8 aA.dA)),fi 20 (Ar.len aA.dA),fi 21 s4.2]) (fun s4 g H1=>G3 g∧B6 Eq H0 [.tl g] H1) (fun x e l H1=>∃u1:D2,G3 u1∧e= .exit 1∧l=[(3,.v (.sl (lst eAF7 x) u1))]∧B6 Eq H0 [.tl u1] H1) (by kernel_rfl) ?_ .nil hx ?_ ?_ ?_
  ·rintro s4 t5 H o ⟨ht5,hO⟩ h;clear hx;cbv;refine B0 hE h (fun _ h=>?_) fun _ h=>?_
   ·cbv;refine D0 hE eAE6 h fun x7 h=>?_;cbv;refine A9 hE h (ih x7) (.refl _) fun r8 h=>?_;cbv;refine K7 (f:=eAF7) hE Na (by decide) hO 0 rfl ht5 (l:=s4.1) (m:=r8) (.refl _) (.refl _) h fun l10 t9 H hO ht9 h=>?_;cbv;cases h;exact⟨_,t9,rfl,.e4 .z,rfl,ht9,hO⟩
   cbv;cases h;exact⟨_,_,rfl,⟨t5,ht5,rfl,rfl,hO⟩,.e rfl .z,rfl⟩
  ·exact .v (.slt _ (.lst0)) (.e rfl (.e2 .z))
  ·exact⟨trivial,hO⟩
  clear hx;rintro e l H ⟨t11,ht11,rfl,rfl,hO⟩;cbv;cases h;exact hK hO (.ro _ _)
 cbv;refine B0 hE h (fun _ h=>?_) fun _ h=>?_
 ·cbv;refine K7 (f:=eAF7) hE Na (by decide) (hO.tl0 (t:=.nil) rfl) 0 rfl trivial (l:=[]) (m:=[(⟨aA.dC,aA.Typ,aA.Var,aA.cY⟩:Gq)]) (.lst0) (.lstc (.eq (eAI1 (⟨aA.dC,aA.Typ,aA.Var,aA.cY⟩:Gq)) (.refl _)) (.lst0)) h fun l13 t12 H hO ht12 h=>?_;cbv;refine D0 hE eAE6 h fun x14 h=>?_;cbv;refine A9 hE h (ih x14) (.refl _) fun r15 h=>?_;cbv;refine K7 (f:=eAF7) hE Na (by decide) hO 0 rfl ht12 (l:=l13) (m:=r15) (.refl _) (.refl _) h fun l17 t16 H hO ht16 h=>?_;cbv;cases h;exact hK hO (.ro _ _)
 cbv;obtain⟨s18,hx,h⟩:=bind_some h;refine O1 cf177 hE J9 (fun e l H1=>e= .normal∧l=[(1,.v (.eref (G7 aA) 0)),(3,.v (.sl [] .nil)),(51,.v (.bool s18))]∧B6 Eq H0 [] H1) (by kernel_rfl) ?_ ?_
 ·clear h;have h:=hx;clear hx;cbv;refine B0 hE h (fun _ h=>?_) fun _ h=>?_
  ·cbv;cases h;exact⟨_,⟨rfl,rfl,hO⟩,.e rfl (.e2 .z),rfl⟩
  cbv;cases h;exact⟨_,⟨rfl,rfl,hO⟩,.e rfl (.e2 .z),rfl⟩
 clear hx;rintro e l H ⟨rfl,rfl,hO⟩;cbv;refine B0 hE h (fun _ h=>?_) fun _ h=>?_
 ·cbv;refine D0 hE eAE6 h fun x19 h=>?_;cbv;refine A9 hE h (ih x19) (.refl _) fun r20 h=>?_;cbv;cases h;exact hK hO (.refl _)
 cbv;cases h;exact hK hO (.lit _ (B4))
def c133 (N aA r)(h:EL N aA=some r):C7 prog 133 [(E5 aA)] (.tup [sr eAF7 r.1,vi r.2]):=by
 unfold EL at h
 refine P6 cf0 func133 call133 ntmps133 ?_;intro E H0 K hE hK hO;cbv;refine A9 hE h (c176 N aA) (.refl _) fun r1 h=>?_;cbv;refine B0 hE h (fun _ h=>?_) fun _ h=>?_
 ·cbv;cases h;exact hK hO (.tup (.cons (.lit _ (B4)) (.refl _)))
 cbv;refine A9 hE h (c177 N N aA) (.refl _) fun r2 h=>?_;cbv;cases h;exact hK hO (.refl _)
def cf97:Cf:=⟨[2,3,4,7],[(17,3),(3000014,0),(3000014,1),(3000014,2),(3000014,3),(3000014,6),(3000014,7),(3000014,8),(3000014,10),(3000014,12)],[],[2000014],[],[(17,2,[2])]⟩
set_option maxHeartbeats 2000000 in
def c97 (N aA r) (h:Ff N aA=some r):C7 prog 97 [(E5 aA)] (.tup [(NY r.1),sr eAD8 r.2.1,vi r.2.2]):=by
 unfold Ff at h
 refine P6 cf97 func97 call97 ntmps97 ?_;intro E H0 K hE hK hO;cbv;refine D8 hE hO fun b1 H hO=>?_;cbv;refine D8 hE hO fun b2 H hO=>?_;cbv;refine D8 hE hO fun b3 H hO=>?_;cbv;refine A9 hE h (c130 N aA) (.refl _) fun r4 h=>?_;cbv;refine B0 hE h (fun _ h=>?_) fun _ h=>?_
 ·cbv;refine A7 hE hO 2 rfl rfl fun H hO=>?_;cbv;refine A7 hE hO 1 rfl rfl fun H hO=>?_;cbv;refine A7 hE hO 0 rfl rfl fun H hO=>?_;cbv;refine A8 hE hO 2 rfl ?_;cbv;refine A8 hE hO 1 rfl ?_;cbv;refine A8 hE hO 0 rfl ?_;cbv;cases h;exact hK hO (.tup (.cons (.agg (.cons (.refl _) (.cons (.refl _) (.cons (.lit _ (B4)) (.cons (.lit _ (B4)) (.refl _)))))) (.cons (.lit _ (B4)) (.refl _))))
 cbv;refine D8 hE hO fun b5 H hO=>?_;cbv;refine A9 hE h (c131 N aA) (.refl _) fun r6 h=>?_;cbv;refine A7 hE hO 0 rfl rfl fun H hO=>?_;cbv;refine A7 hE hO 0 rfl rfl fun H hO=>?_;cbv;refine B0 hE h (fun _ h=>?_) fun _ h=>?_
 ·cbv;refine A7 hE hO 3 rfl rfl fun H hO=>?_;cbv;refine A7 hE hO 2 rfl rfl fun H hO=>?_;cbv;refine A7 hE hO 1 rfl rfl fun H hO=>?_;cbv;refine A8 hE hO 3 rfl ?_;cbv;refine A8 hE hO 2 rfl ?_;cbv;refine A8 hE hO 1 rfl ?_;cbv;cases h;exact hK hO (.tup (.cons (.agg (.cons (.refl _) (.cons (.refl _) (.cons (.lit _ (B4)) (.cons (.lit _ (B4)) (.refl _)))))) (.cons (.lit _ (B4)) (.refl _))))
 cbv;refine T9 hE h (c132 N r4.1) (.refl _) fun r7 v8 hv8 h=>?_;cbv;replace hO:=hO.cast (L':=[cb b5 [vi r6.1,vi r6.2.1,.sl (lst eAF5 ([])) .nil,.sl (lst eAE0 ([])) .nil],cb b3 [vi 0],cb b2 [.sl [] .nil],cb b1 [vi 0,vi 0,.sl [] .nil,.sl [] .nil]]) (by simp only[ob,cb,sr,←B4]<;>rfl);replace hO:=hO.tl0 (t:=.nil) rfl;replace hO:=hO.tl0 (t:=.nil) rfl;obtain⟨o15,hx,h⟩:=bind_some h;refine Cc cf97 hE J9 (ι:=Unit) (enc:=fun(x:(Int×(List E4)))=>[vi x.1,sr eAE0 x.2]) (fun(s10:P7) F H=>∃g:D2×D2,(G3 g.1∧G3 g.2)∧B6 Eq F [.tl g.1,.tl g.2,cb b5 [vi s10.Vars,vi s10.dK,.sl (lst eAF5 s10.dD) g.2,.sl (lst eAE0 s10.dE) g.1],cb b3 [vi 0],cb b2 [.sl [] .nil],cb b1 [vi 0,vi 0,.sl [] .nil,.sl [] .nil]] H) (fun(r:(P7×Int)) e F H=>∃g:D2×D2,(e= .ret∧G3 g.1∧G3 g.2)∧B6 Eq F [.tl g.1,.tl g.2,cb b5 [vi r.1.Vars,vi r.1.dK,.sl (lst eAF5 r.1.dD) g.2,.sl (lst eAE0 r.1.dE) g.1],cb b3 [vi r.2],cb b2 [.sl [] .nil],cb b1 [vi 0,vi 0,.sl [] .nil,.sl [] .nil]] H) (fun i s10 y9=>[(2,.v (.ref b1 0)),(3,.v (.ref b2 0)),(4,.v (.ref b3 0)),(5,.v (.eref [sr eAD8 r4.1] 0)),(7,.v (.ref b5 0)),fi 8 y9.1,(9,.v (sr eAE0 y9.2))]) (fun i s10 y9 F H=>∃g:D2×D2,(G3 g.1∧G3 g.2)∧B6 Eq F [.tl g.1,.tl g.2,cb b5 [vi s10.Vars,vi s10.dK,.sl (lst eAF5 s10.dD) g.2,.sl (lst eAE0 s10.dE) g.1],cb b3 [vi 0],cb b2 [.sl [] .nil],cb b1 [vi 0,vi 0,.sl [] .nil,.sl [] .nil]] H) (fun _=>D9.ex fun _=>B6.stable C5 _) (fun _ _=>D9.ex fun _=>B6.stable C5 _) (fun _ _ _=>D9.ex fun _=>B6.stable C5 _) hv8 hx (⟨⟨.nil,.nil⟩,⟨trivial,trivial⟩,hO⟩) (by decide) (fun _=>rfl) (by kernel_rfl) (by kernel_rfl) ?_ ?_ ?_ ?_
 ·rintro E i12 y9 s10 F11 H hE ⟨⟨t13,t14⟩,⟨ht13,ht14⟩,hO⟩;clear hx h;cbv;exact⟨(),⟨⟨t13,t14⟩,⟨ht13,ht14⟩,hO⟩,.e rfl (.e2 (.e4 .z)),rfl⟩
 ·rintro E i12 _ y9 s10 F11 H o hE hF h ⟨⟨t13,t14⟩,⟨ht13,ht14⟩,hO⟩;clear hx;cbv;refine D0 hE eAE6 h fun x16 h=>?_;cbv;refine A9 hE h (c133 N x16) (.refl _) fun r17 h=>?_;cbv;refine B0 hE h (fun _ h=>?_) fun _ h=>?_
  ·cbv;refine A7 hE hO 5 rfl rfl fun H hO=>?_;cbv;refine A7 hE hO 4 rfl rfl fun H hO=>?_;cbv;refine A7 hE hO 3 rfl rfl fun H hO=>?_;cbv;cases h;exact⟨_,rfl,rfl,⟨⟨t13,t14⟩,⟨rfl,⟨ht13,ht14⟩⟩,hO⟩⟩
  cbv;obtain⟨s18,hx,h⟩:=bind_some h;refine O1 cf97 hE J9 (fun e l H1=>∃u1:D2,G3 u1∧∃u2:D2,G3 u2∧e= .normal∧l=[]∧B6 Eq F11 [.tl u1,.tl u2,cb b5 [vi s18.Vars,vi s18.dK,.sl (lst eAF5 s18.dD) u2,.sl (lst eAE0 s18.dE) u1],cb b3 [vi 0],cb b2 [.sl [] .nil],cb b1 [vi 0,vi 0,.sl [] .nil,.sl [] .nil]] H1) (by kernel_rfl) ?_ ?_
  ·clear h;have h:=hx;clear hx;cbv;obtain⟨l220,el220,h⟩:=bind_some h;obtain⟨l380,el380,h⟩:=bind_some h
   repeat' first|refine And.intro ?_ ?_|(refine A8 hE hO 2 rfl ?_;cbv)|(refine K7 (f:=eAF5) hE XX (by decide) hO 1 rfl ht14 (l:=s10.dD) (m:=[(⟨r17.1⟩:Mc)]) (.refl _) (.lstc (.eq (eAI2 (⟨r17.1⟩:Mc)) (.refl _)) (.lst0)) (CP el220) fun l220 t219 H hO ht219 hh=>?_;obtain rfl:=I9 hh;cbv)|(refine K7 (f:=eAE0) hE Pd (by decide) hO 0 rfl ht13 (l:=s10.dE) (m:=y9.2) (.refl _) (.refl _) (CP el380) fun l380 t379 H hO ht379 hh=>?_;obtain rfl:=I9 hh;cbv)|(refine A7 hE hO 2 rfl rfl fun H hO=>?_;cbv)|(have h:=I9 h;subst h;exact⟨_,⟨t379,ht379,t219,ht219,rfl,rfl,hO⟩,.z,rfl⟩)
  clear hx;rintro e l H ⟨t619,ht619,t620,ht620,rfl,rfl,hO⟩;cbv;cases h;exact⟨_,rfl,⟨⟨t619,t620⟩,⟨ht619,ht620⟩,hO⟩⟩
 ·rintro d621 s625 H rfl hd ⟨⟨t626,t627⟩,⟨ht626,ht627⟩,hO⟩;have hO:B6 Eq H0 [.tl t626,.tl t627,cb b5 [vi s625.Vars,vi s625.dK,.sl (lst eAF5 s625.dD) t627,.sl (lst eAE0 s625.dE) t626],cb b3 [vi 0],cb b2 [.sl [] .nil],cb b1 [vi 0,vi 0,.sl [] .nil,.sl [] .nil],.blk d621 DB] H:=B6.dblk hd hO;clear hd;clear hx;cbv;refine A8 hE hO 2 rfl ?_;cbv;refine E9 hE ?_;cbv;refine B0 hE h (fun _ h=>?_) fun _ h=>?_
  ·cbv;refine A7 hE hO 5 rfl rfl fun H hO=>?_;cbv;refine A7 hE hO 4 rfl rfl fun H hO=>?_;cbv;refine A7 hE hO 3 rfl rfl fun H hO=>?_;cbv;refine Ez hE hO 6 rfl fun H hO=>?_;cbv;refine A8 hE hO 5 rfl ?_;cbv;refine A8 hE hO 4 rfl ?_;cbv;refine A8 hE hO 3 rfl ?_;cbv;cases h;exact hK hO (.tup (.cons (.agg (.cons (.refl _) (.cons (.refl _) (.cons (.lit _ (B4)) (.cons (.lit _ (B4)) (.refl _)))))) (.cons (.lit _ (B4)) (.refl _))))
  cbv;refine SF hE hO 5 rfl fun H1 hT hW=>?_;cbv;refine A8 hE hW 2 rfl ?_;cbv;refine Gd hE trivial ?_;cbv;refine SI hE hO 5 rfl hT fun H hO=>?_;cbv;refine A7 hE hO 4 rfl rfl fun H hO=>?_;cbv;refine A7 hE hO 3 rfl rfl fun H hO=>?_;cbv;refine Ez hE hO 6 rfl fun H hO=>?_;cbv;refine A8 hE hO 5 rfl ?_;cbv;refine A8 hE hO 4 rfl ?_;cbv;refine A8 hE hO 3 rfl ?_;cbv;cases h;exact hK hO (.tup (.cons (.agg (.cons (.refl _) (.cons (.refl _) (.cons (.ro _ _) (.cons (.ro _ _) (.refl _)))))) (.refl _)))
 rintro d621 y628 e H rfl hd hX;clear hx
 rcases hX with⟨⟨t629,t630⟩,⟨rfl,ht629,ht630⟩,hO⟩
 have hO:B6 Eq H0 [.tl t629,.tl t630,cb b5 [vi y628.1.Vars,vi y628.1.dK,.sl (lst eAF5 y628.1.dD) t630,.sl (lst eAE0 y628.1.dE) t629],cb b3 [vi y628.2],cb b2 [.sl [] .nil],cb b1 [vi 0,vi 0,.sl [] .nil,.sl [] .nil],.blk d621 DB] H:=B6.dblk hd hO;clear hd;cbv;refine Ez hE hO 6 rfl fun H hO=>?_;cbv;refine A8 hE hO 5 rfl ?_;cbv;refine A8 hE hO 4 rfl ?_;cbv;refine A8 hE hO 3 rfl ?_;cbv;cases h;exact hK hO (.tup (.cons (.agg (.cons (.refl _) (.cons (.refl _) (.cons (.lit _ (B4)) (.cons (.lit _ (B4)) (.refl _)))))) (.cons (.lit _ (B4)) (.refl _))))
def cf52:Cf:=⟨[2],[],[],[],[],[]⟩
def c52 (N aA r)(h:Gk N aA=some r):C7 prog 52 [(E5 aA)] (.tup [(NY r.1),vi r.2]):=by
 unfold Gk at h
 refine P6 cf52 func52 call52 ntmps52 ?_;intro E H0 K hE hK hO;cbv;refine D8 hE hO fun b1 H hO=>?_;cbv;refine A9 hE h (c97 N aA) (.refl _) fun r2 h=>?_;cbv;refine A7 hE hO 0 rfl rfl fun H hO=>?_;cbv;refine A8 hE hO 0 rfl ?_;cbv;cases h;exact hK hO (.refl _)
def c98 (N:Nat)(aB:List B1)(aX:V)(aQ:B1→Option Bool)(bE:∀y1 q,aQ y1=some q→X9 prog aX [(E5 y1)] (.bool q))(r:Bool)(h:Q2 N aB aQ=some r):C7 prog 98 [sr eAD8 aB,aX] (.bool r):=by
 unfold Q2 at h
 refine P6 cf0 func98 call98 ntmps98 ?_;intro E H0 K hE hK hO;cbv;refine A9 hE h (c134 N aB aX aQ bE) (.refl _) fun r1 h=>?_;cbv;cases h;exact hK hO (.refl _)
def cf53:Cf:=⟨[],[],[(5,4)],[],[],[]⟩
def K53 (N n:Nat):Prop:=∀(aA:B1) (r:Bool),AZ N n aA=some r→C7 prog 53 [(E5 aA)] (.bool r)
def K99 (N n:Nat):Prop:=∀(aC:B1) (r:Bool),AY N n aC=some r→C7 prog 99 [(E5 aC)] (.bool r)
def k53 (N n:Nat) (ih99:K99 N n):K53 N (n+1):=by
 intro aA r h
 unfold AZ at h
 refine P6 cf53 func53 call53 ntmps53 ?_;intro E H0 K hE hK hO;cbv;obtain⟨s1,hx,h⟩:=bind_some h;refine O1 cf53 hE J9 (fun e l H1=>e= .normal∧l=[(1,.v (.eref (G7 aA) 0)),(5,.v (.bool s1))]∧B6 Eq H0 [] H1) (by kernel_rfl) ?_ ?_
 ·clear h;have h:=hx;clear hx;cbv;refine B0 hE h (fun _ h=>?_) fun _ h=>?_
  ·cbv;cases h;exact⟨_,⟨rfl,rfl,hO⟩,.e2 .z,rfl⟩
  cbv;refine B0 hE h (fun _ h=>?_) fun _ h=>?_
  ·cbv;cases h;exact⟨_,⟨rfl,rfl,hO⟩,.e2 .z,rfl⟩
  cbv;refine B0 hE h (fun _ h=>?_) fun _ h=>?_
  ·cbv;cases h;exact⟨_,⟨rfl,rfl,hO⟩,.e2 .z,rfl⟩
  cbv;refine B0 hE h (fun _ h=>?_) fun _ h=>?_
  ·cbv;cases h;exact⟨_,⟨rfl,rfl,hO⟩,.e2 .z,rfl⟩
  cbv;cases h;exact⟨_,⟨rfl,rfl,hO⟩,.e2 .z,rfl⟩
 clear hx;rintro e l H ⟨rfl,rfl,hO⟩;cbv;refine B0 hE h (fun _ h=>?_) fun _ h=>?_
 ·cbv;refine A9 hE (g:=fun r2=>.bool r2) h (fun r2 hx=>c98 N aA.dA (.func (.func 99) [] []) (fun y1=>AY N n y1) (fun y1 r hx=>C7.value (F:=[]) (C:=[]) (ih99 y1 r hx)) r2 hx) (.refl _) fun r2 h=>?_;cbv;cases h;exact hK hO (.refl _)
 cbv;cases h;exact hK hO (.refl _)
def k99 (N n:Nat)(ih53:K53 N n):K99 N (n+1):=by
 intro aC r h
 unfold AY at h
 refine P6 cf0 func99 call99 ntmps99 ?_;intro E H0 K hE hK hO;cbv;refine A9 hE h (ih53 aC) (.refl _) fun r1 h=>?_;cbv;cases h;exact hK hO (.refl _)
def Ax0 (N:Nat):∀n,K53 N n∧K99 N n:=by
 intro n
 induction n with
 |zero=>exact⟨(by intro aA r h;unfold AZ at h;cases h),(by intro aC r h;unfold AY at h;cases h)⟩
 |succ n ih=>
  obtain⟨ih53,ih99⟩:=ih;exact⟨k53 N n ih99,k99 N n ih53⟩
def c53 (N n aA r)(h:AZ N n aA=some r):C7 prog 53 [(E5 aA)] (.bool r):=(Ax0 N n).1 aA r h
def cf181:Cf:=⟨[],[(7,9)],[],[],[],[]⟩
def c181 (N aZ aF r) (h:Gj N aZ aF=some r):C7 prog 181 [(Mk aZ),(Db aF)] (.tup [vi r.1,vi r.2]):=by
 unfold Gj at h
 refine P6 cf181 func181 call181 ntmps181 ?_;intro E H0 K hE hK hO;cbv;refine B0 hE h (fun _ h=>?_) fun _ h=>?_
 ·cbv;cases h;exact hK hO (.refl _)
 cbv;refine E9 hE ?_;cbv;refine B0 hE h (fun _ h=>?_) fun _ h=>?_
 ·cbv;cases h;exact hK hO (.refl _)
 cbv;refine B0 hE h (fun _ h=>?_) fun _ h=>?_
 ·cbv;cases h;exact hK hO (.refl _)
 cbv;refine D0 hE eAH0 h fun x1 h=>?_;cbv;refine D0 hE eAH3 h fun x2 h=>?_;cbv;refine E9 hE ?_;cbv;refine B0 hE h (fun _ h=>?_) fun _ h=>?_
 ·cbv;cases h;exact hK hO (.refl _)
 cbv;refine D0 hE eAH8 h fun x3 h=>?_;cbv;refine B0 hE h (fun _ h=>?_) fun _ h=>?_
 ·cbv;refine B0 hE h (fun _ h=>?_) fun _ h=>?_
  ·cbv;cases h;exact hK hO (.refl _)
  cbv;refine A9 hE h (c223 N aF.Kind (⟨x3.Kind,0,⟨#[]⟩⟩:X8)) (.refl _) fun r4 h=>?_;cbv;refine B0 hE h (fun _ h=>?_) fun _ h=>?_
  ·cbv;cases h;exact hK hO (.refl _)
  cbv;cases h;exact hK hO (.refl _)
 cbv;cases h;exact hK hO (.refl _)
def cf182:Cf:=⟨[],[],[(15,8),(22,13)],[],[],[]⟩
def c182 (N aM bA r) (h:HY N aM bA=some r):C7 prog 182 [vi aM,sr (V.int .i64) bA] (vi r):=by
 unfold HY at h
 refine P6 cf182 func182 call182 ntmps182 ?_;intro E H0 K hE hK hO;cbv;refine E9 hE ?_;cbv;obtain⟨s2,hx,h⟩:=bind_some h;refine K1 cf182 hE J9 (fun s1=>[fi 0 aM,(1,.v (sr (V.int .i64) bA)),(8,.v (sr (V.int .i64) bA)),fi 9 (Ar.len bA),fi 10 s1]) (fun s1 H1=>B6 Eq H0 [] H1) (fun x e l H1=>match(generalizing:=false) x with| .inl y=>e= .exit 0∧l=[]∧B6 Eq H0 [] H1| .inr y=>e= .ret∧l=[fi 4 9]∧B6 Eq H0 [] H1) (by kernel_rfl) ?_ hx ?_ hO ?_
 ·intro s1 H o hO h;clear hx;cbv;refine B0 hE h (fun _ h=>?_) fun _ h=>?_
  ·cbv;refine D0 hE (fun _=>rfl) h fun x3 h=>?_;cbv;obtain⟨s4,hx,h⟩:=bind_some h;refine O1 cf182 hE J9 (fun e l H1=>e= .normal∧l=[fi 0 aM,(1,.v (sr (V.int .i64) bA)),fi 6 x3,(7,.b true),(8,.v (sr (V.int .i64) bA)),fi 9 (Ar.len bA),fi 10 s1,fi 14 aM,(15,.v (.bool s4))]∧B6 Eq H0 [] H1) (by kernel_rfl) ?_ ?_
   ·clear h;have h:=hx;clear hx;cbv;refine B0 hE h (fun _ h=>?_) fun _ h=>?_
    ·cbv;cases h;exact⟨_,⟨rfl,rfl,hO⟩,.e rfl (.e2 (.b rfl (.e rfl (.e rfl (.e rfl (.e rfl (.e rfl (.z)))))))),rfl⟩
    cbv;refine B0 hE h (fun _ h=>?_) fun _ h=>?_
    ·cbv;cases h;exact⟨_,⟨rfl,rfl,hO⟩,.e rfl (.e2 (.b rfl (.e rfl (.e rfl (.e rfl (.e rfl (.e rfl (.z)))))))),rfl⟩
    cbv;refine B0 hE h (fun _ h=>?_) fun _ h=>?_
    ·cbv;cases h;exact⟨_,⟨rfl,rfl,hO⟩,.e rfl (.e2 (.b rfl (.e rfl (.e rfl (.e rfl (.e rfl (.e rfl (.z)))))))),rfl⟩
    cbv;cases h;exact⟨_,⟨rfl,rfl,hO⟩,.e rfl (.e2 (.b rfl (.e rfl (.e rfl (.e rfl (.e rfl (.e rfl (.z)))))))),rfl⟩
   clear hx;rintro e l H ⟨rfl,rfl,hO⟩;cbv;refine B0 hE h (fun _ h=>?_) fun _ h=>?_
   ·cbv;refine B0 hE h (fun _ h=>?_) fun _ h=>?_
    ·cbv;cases h;exact⟨_,_,rfl,⟨rfl,rfl,hO⟩,.e rfl .z,rfl⟩
    cbv;cases h;exact⟨_,rfl,.e rfl (.e4 .z),rfl,hO⟩
   cbv;obtain⟨s5,hx,h⟩:=bind_some h;refine O1 cf182 hE J9 (fun e l H1=>e= .normal∧l=[fi 0 aM,(1,.v (sr (V.int .i64) bA)),fi 6 x3,(7,.b true),(8,.v (sr (V.int .i64) bA)),fi 9 (Ar.len bA),fi 10 s1,fi 14 aM,(22,.v (.bool s5))]∧B6 Eq H0 [] H1) (by kernel_rfl) ?_ ?_
   ·clear h;have h:=hx;clear hx;cbv;refine B0 hE h (fun _ h=>?_) fun _ h=>?_
    ·cbv;cases h;exact⟨_,⟨rfl,rfl,hO⟩,.e rfl (.e2 (.b rfl (.e rfl (.e rfl (.e rfl (.e rfl (.e rfl (.z)))))))),rfl⟩
    cbv;refine B0 hE h (fun _ h=>?_) fun _ h=>?_
    ·cbv;cases h;exact⟨_,⟨rfl,rfl,hO⟩,.e rfl (.e2 (.b rfl (.e rfl (.e rfl (.e rfl (.e rfl (.e rfl (.z)))))))),rfl⟩
    cbv;cases h;exact⟨_,⟨rfl,rfl,hO⟩,.e rfl (.e2 (.b rfl (.e rfl (.e rfl (.e rfl (.e rfl (.e rfl (.z)))))))),rfl⟩
   clear hx;rintro e l H ⟨rfl,rfl,hO⟩;cbv;refine B0 hE h (fun _ h=>?_) fun _ h=>?_
   ·cbv;refine B0 hE h (fun _ h=>?_) fun _ h=>?_
    ·cbv;cases h;exact⟨_,_,rfl,⟨rfl,rfl,hO⟩,.e rfl .z,rfl⟩
    cbv;cases h;exact⟨_,rfl,.e rfl (.e4 .z),rfl,hO⟩
   cbv;refine B0 hE h (fun _ h=>?_) fun _ h=>?_
   ·cbv;refine D0 hE (fun _=>rfl) h fun x6 h=>?_;cbv;refine B0 hE h (fun _ h=>?_) fun _ h=>?_
    ·cbv;cases h;exact⟨_,_,rfl,⟨rfl,rfl,hO⟩,.e rfl .z,rfl⟩
    cbv;cases h;exact⟨_,rfl,.e rfl (.e4 .z),rfl,hO⟩
   cbv;cases h;exact⟨_,rfl,.e rfl (.e4 .z),rfl,hO⟩
  cbv;cases h;exact⟨_,_,rfl,⟨rfl,rfl,hO⟩,.z,rfl⟩
 ·exact .e rfl (.e4 .z)
 clear hx
 rcases s2 with y7|y8
 ·rintro e l H ⟨rfl,rfl,hO⟩;cbv;cases h;exact hK hO (.refl _)
 rintro e l H ⟨rfl,rfl,hO⟩;cbv;cases h;exact hK hO (.refl _)
def c136 (N:Nat):∀n aZ aF r,Dv N n aZ aF=some r→C7 prog 136 [(Mk aZ),(Db aF)] (.tup [vi r.1,vi r.2]):=by
 intro n
 induction n with
 |zero=>intro aZ aF r h;cases h
 |succ n ih=>
 intro aZ aF r h
 unfold Dv at h
 refine P6 cf0 func136 call136 ntmps136 ?_;intro E H0 K hE hK hO;cbv;refine E9 hE ?_;cbv;refine B0 hE h (fun _ h=>?_) fun _ h=>?_
 ·cbv;refine A9 hE h (c181 N aZ aF) (.refl _) fun r1 h=>?_;cbv;cases h;exact hK hO (.refl _)
 cbv;refine E9 hE ?_;cbv;replace hO:=hO.tl0 (t:=.nil) rfl;obtain⟨s4,hx,h⟩:=bind_some h;refine H8 cf0 hE J9 (γ:=D2) (fun s2 g=>[(2,.v (.eref (MP aZ) 0)),(3,.v (.eref (Fi aF) 0)),(6,.v (.sl (lst (V.int .i64) s2.1) g)),(22,.v (sr eAE4 aF.dA)),fi 23 (Ar.len aF.dA),fi 24 s2.2]) (fun s2 g H1=>G3 g∧B6 Eq H0 [.tl g] H1) (fun x e l H1=>match(generalizing:=false) x with| .inl y=>∃u1:D2,G3 u1∧e= .exit 0∧l=[(3,.v (.eref (Fi aF) 0)),(6,.v (.sl (lst (V.int .i64) y) u1))]∧B6 Eq H0 [.tl u1] H1| .inr y=>∃u1:D2,G3 u1∧e= .ret∧l=[fi 4 0,fi 5 y]∧B6 Eq H0 [.tl u1] H1) (by kernel_rfl) ?_ .nil hx ?_ ?_ ?_
 ·rintro s2 t3 H o ⟨ht3,hO⟩ h;clear hx;cbv;refine B0 hE h (fun _ h=>?_) fun _ h=>?_
  ·cbv;refine D0 hE eAF1 h fun x5 h=>?_;cbv;refine A9 hE h (ih aZ x5) (.refl _) fun r6 h=>?_;cbv;refine B0 hE h (fun _ h=>?_) fun _ h=>?_
   ·cbv;cases h;exact⟨_,_,rfl,⟨t3,ht3,rfl,rfl,hO⟩,.e2 .z,rfl⟩
   cbv;refine K7 (f:=(V.int .i64)) hE (fun _=>rfl) (by decide) hO 0 rfl ht3 (l:=s2.1) (m:=[r6.1]) (.refl _) (.lstc (.refl _) (.lst0)) h fun l8 t7 H hO ht7 h=>?_;cbv;cases h;exact⟨_,t7,rfl,.e2 (.e4 .z),rfl,ht7,hO⟩
  cbv;cases h;exact⟨_,_,rfl,⟨t3,ht3,rfl,rfl,hO⟩,.e2 .z,rfl⟩
 ·exact .e2 (.v (.slt _ (.lst0)) (.e rfl (.e rfl (.e rfl (.z)))))
 ·exact⟨trivial,hO⟩
 clear hx
 rcases s4 with y9|y12
 ·rintro e l H ⟨t10,ht10,rfl,rfl,hO⟩;cbv;refine A9 hE h (c182 N aF.Op y9) (.cons (.refl _) (.cons (.ro _ _) (.refl _))) fun r11 h=>?_;cbv;refine B0 hE h (fun _ h=>?_) fun _ h=>?_
  ·cbv;cases h;exact hK hO (.refl _)
  cbv;refine B0 hE h (fun _ h=>?_) fun _ h=>?_
  ·cbv;cases h;exact hK hO (.refl _)
  cbv;cases h;exact hK hO (.refl _)
 rintro e l H ⟨t13,ht13,rfl,rfl,hO⟩;cbv;cases h;exact hK hO (.refl _)
def c100 (N aK bI aF r) (h:Nt N aK bI aF=some r):C7 prog 100 [sr eAF4 aK,sr eAF0 bI,(Db aF)] (.tup [vi r.1,vi r.2]):=by
 unfold Nt at h
 refine P6 cf0 func100 call100 ntmps100 ?_;intro E H0 K hE hK hO;cbv;refine A9 hE h (c51 N aK) (.refl _) fun r1 h=>?_;cbv;refine B0 hE h (fun _ h=>?_) fun _ h=>?_
 ·cbv;cases h;exact hK hO (.refl _)
 cbv;refine E9 hE ?_;cbv;refine B0 hE h (fun _ h=>?_) fun _ h=>?_
 ·cbv;cases h;exact hK hO (.refl _)
 cbv;refine E9 hE ?_;cbv;obtain⟨s3,hx,h⟩:=bind_some h;refine K1 cf0 hE J9 (fun s2=>[(0,.v (sr eAF4 aK)),(1,.v (sr eAF0 bI)),(5,.v (.eref (Fi aF) 0)),(20,.v (sr eAF0 bI)),fi 21 (Ar.len bI),fi 22 s2]) (fun s2 H1=>B6 Eq H0 [] H1) (fun x e l H1=>match(generalizing:=false) x with| .inl y=>e= .exit 0∧l=[(0,.v (sr eAF4 aK)),(1,.v (sr eAF0 bI)),(5,.v (.eref (Fi aF) 0))]∧B6 Eq H0 [] H1| .inr y=>e= .ret∧l=[fi 6 0,fi 7 6]∧B6 Eq H0 [] H1) (by kernel_rfl) ?_ hx ?_ hO ?_
 ·intro s2 H o hO h;clear hx;cbv;refine B0 hE h (fun _ h=>?_) fun _ h=>?_
  ·cbv;refine D0 hE eAH0 h fun x4 h=>?_;cbv;refine E9 hE ?_;cbv;refine B0 hE h (fun _ h=>?_) fun _ h=>?_
   ·cbv;cases h;exact⟨_,_,rfl,⟨rfl,rfl,hO⟩,.e2 .z,rfl⟩
   cbv;cases h;exact⟨_,rfl,.e2 (.e4 .z),rfl,hO⟩
  cbv;cases h;exact⟨_,_,rfl,⟨rfl,rfl,hO⟩,.e rfl (.e2 .z),rfl⟩
 ·exact .e2 (.e4 .z)
 clear hx
 rcases s3 with y5|y8
 ·rintro e l H ⟨rfl,rfl,hO⟩;cbv;refine A9 hE h (c135 N aF) (.refl _) fun r6 h=>?_;cbv;refine B0 hE h (fun _ h=>?_) fun _ h=>?_
  ·cbv;cases h;exact hK hO (.refl _)
  cbv;refine A9 hE h (c136 N N (⟨aK,bI⟩:Bp) aF) (.refl _) fun r7 h=>?_;cbv;cases h;exact hK hO (.refl _)
 rintro e l H ⟨rfl,rfl,hO⟩;cbv;cases h;exact hK hO (.refl _)
def c184 (N aH aO r)(h:LZ N aH aO=some r):C7 prog 184 [.int .u64 aH,.int .u64 aO] (.tup [.int .u64 r.1,.int .u64 r.2]):=by
 unfold LZ at h
 refine P6 cf0 func184 call184 ntmps184 ?_;intro E H0 K hE hK hO;cbv;refine KV hE (Ir hE rfl) ?_;cbv;refine KV hE (Ir hE rfl) ?_;cbv;refine KV hE (Ir hE rfl) ?_;cbv;refine KV hE (Ir hE rfl) ?_;cbv;refine KV hE (Ir hE rfl) ?_;cbv;cases h;exact hK hO (.refl _)
def c137 (N aH aO r)(h:Qz N aH aO=some r):C7 prog 137 [.int .u64 aH,.int .u64 aO] (.tup [.int .u64 r.1,.int .u64 r.2]):=by
 unfold Qz at h
 refine P6 cf0 func137 call137 ntmps137 ?_;intro E H0 K hE hK hO;cbv;refine A9 hE h (c184 N aH aO) (.refl _) fun r1 h=>?_;cbv;cases h;exact hK hO (.refl _)
def cf101:Cf:=⟨[],[(9,7),(1000009,0)],[(10,3),(26,6)],[],[],[]⟩
def c101 (N aH bS r) (h:T6 N aH bS=some r):C7 prog 101 [sr eAF0 aH,vi bS] (sr eAF0 r):=by
 unfold T6 at h
 refine Q9 (T:=TT) cf101 J9 func101 (by rfl) (by kernel_rfl) call101 ntmps101 (by rfl) (by rfl) ?_;intro E H0 K hE hK hF;have hO:B6 Eq H0 [] H0:=.start C5 rfl;cbv;obtain⟨s1,hx,h⟩:=bind_some h;refine O1 cf101 hE J9 (fun e l H1=>e= .normal∧l=[(0,.v (sr eAF0 aH)),fi 1 bS]∧B6 Eq H0 [] H1) (by kernel_rfl) ?_ ?_
 ·clear h;have h:=hx;clear hx;cbv;refine B0 hE h (fun _ h=>?_) fun _ h=>?_
  ·cbv;cases h
  cbv;cases h;exact⟨_,⟨rfl,rfl,hO⟩,.e2 .z,rfl⟩
 clear hx;rintro e l H ⟨rfl,rfl,hO⟩;cbv;refine E9 hE ?_;cbv;refine A9 hE h (c137 N (Ar.wr .u64 (Ar.len aH)) (Ar.wr .u64 bS)) (.refl _) fun r2 h=>?_;cbv;obtain⟨s3,hx,h⟩:=bind_some h;refine O1 cf101 hE J9 (fun e l H1=>e= .normal∧l=[(0,.v (sr eAF0 aH)),(6,.v (.int .u64 r2.2))]∧B6 Eq H0 [] H1) (by kernel_rfl) ?_ ?_
 ·clear h;have h:=hx;clear hx;cbv;refine B0 hE h (fun _ h=>?_) fun _ h=>?_
  ·cbv;cases h
  cbv;cases h;exact⟨_,⟨rfl,rfl,hO⟩,.e2 .z,rfl⟩
 clear hx;rintro e l H ⟨rfl,rfl,hO⟩;cbv;refine Mt hE (f:=eAF0) (by decide) (z0:=((⟨⟨#[]⟩,0⟩:S7):S7)) ((.eq (eAH0 _) (.refl _))) hO h fun l5 q4 H hq4 h hO=>?_;cbv;refine Ao3 (f:=eAF0) hE hO hq4 0 rfl (m:=aH) (Cz (f:=eAF0) hE Sf (.refl _)) h fun p6 H hq4 hO h=>?_;cbv;obtain⟨s9,hx,h⟩:=bind_some h;refine H8 cf101 hE J9 (γ:=OG) (fun s7 g=>[(7,.v (.own g.id g.lo g.n)),fi 8 s7.1]) (fun s7 g H1=>Z0 g (Ar.len s7.2)∧B6 Eq H0 [ob g 2 eAF0 s7.2] H1) (fun x e l H1=>∃u1:OG,Z0 u1 (Ar.len x)∧e= .exit 0∧l=[(7,.v (.own u1.id u1.lo u1.n))]∧B6 Eq H0 [ob u1 2 eAF0 x] H1) (by kernel_rfl) ?_ q4 hx ?_ ?_ ?_
 ·rintro s7 q8 H o ⟨hq8,hO⟩ h;clear hx;cbv;refine Fc hE hq8 ?_;cbv;refine B0 hE h (fun _ h=>?_) fun _ h=>?_
  ·cbv;refine YH hE hO hq8 0 rfl h fun l11 q10 hq10 h=>?_;cbv;refine YG hE hO hq8 0 rfl h fun l13 q12 hq12 h=>?_;cbv;refine Uw (f:=eAF0) hE hO hq8 0 rfl hq10 (m:=l13) (hq12) h fun p14 H hq8 hO h=>?_;cbv;cases h;exact⟨_,q8,rfl,.e2 .z,rfl,hq8,hO⟩
  cbv;cases h;exact⟨_,_,rfl,⟨q8,hq8,rfl,rfl,hO⟩,.e rfl .z,rfl⟩
 ·exact .e2 .z
 ·exact⟨hq4,hO⟩
 clear hx;rintro e l H ⟨q15,hq15,rfl,rfl,hO⟩;cbv;cases h;exact hF q15 _ _ 0 _ _ hO rfl (Z5 hE hq15) (.refl _)
def c188 (N aE r)(h:Bg N aE=some r):C7 prog 188 [sr eAD7 aE] (.tup [sr eAD7 r.1,vi r.2]):=by
 unfold Bg at h
 refine P6 cf0 func188 call188 ntmps188 ?_;intro E H0 K hE hK hO;cbv;refine E9 hE ?_;cbv;refine B0 hE h (fun _ h=>?_) fun _ h=>?_
 ·cbv;cases h;exact hK hO (.tup (.cons (.lit _ (B4)) (.refl _)))
 cbv;cases h;exact hK hO (.refl _)
def c206 (N aC aD r)(h:Fv N aC aD=some r):C7 prog 206 [sr eAD7 aC,sr eAD7 aD] (vi r):=by
 unfold Fv at h
 refine P6 cf0 func206 call206 ntmps206 ?_;intro E H0 K hE hK hO;cbv;refine A9 hE h (c94 N aC) (.refl _) fun r1 h=>?_;cbv;refine B0 hE h (fun _ h=>?_) fun _ h=>?_
 ·cbv;cases h;exact hK hO (.refl _)
 cbv;refine A9 hE h (c94 N aD) (.refl _) fun r2 h=>?_;cbv;cases h;exact hK hO (.refl _)
def cf270:Cf:=⟨[22],[],[],[],[],[]⟩
def c270 (N aB aI r) (h:N5 N aB aI=some r):Lu prog 270 [.sl [] .nil,vi aI] 2 (lst eAD7 r):=by
 unfold N5 at h
 obtain⟨h1,h2,hr⟩:=Io (f:=eAD7) h;rw[hr];clear hr h;intro H0
 have hneg:∀b,Ar.cmp .lss aI 0=b→b=false:=fun b h=>by rw[Ar.cmp_eq]at h;subst h;simp[Fg];omega
 have hsub:ar .sub .i64 aI (ar .sub .i64 0 0)=aI:=by rw[Ar.ar_eq,Ar.ar_eq];simp only[arI];rw[show(0:Int)-0=0 from rfl,wrap_small 0 (by omega) (by omega),DL];exact wrap_small _ (by omega) (by omega)
 have hgt:∀b,Ar.cmp .gtr (ar .sub .i64 aI (ar .sub .i64 0 0)) 0=b→(b=false→aI=0):=fun b h=>by rw[hsub,Ar.cmp_eq]at h;subst h;simp[Fg];omega
 have hbn:aI.toNat*16≤140737488355328:=by have:=HF (a:=aI.toNat) (b:=0) (by_:=16) (by omega) (by decide);simpa using this
 have hl0:(0:Int)=(([]:List V).length:Nat):=rfl;refine BU (T:=TT) cf270 J9 func270 (by rfl) (by kernel_rfl) call270 ntmps270 (by rfl) (by rfl) ?_;intro E K hE hK hN;cbv;refine Kh hE (fun hc=>absurd (hneg _ hc) (by decide)) (fun hc=>?_);cbv;refine Ng hE hl0 ?_;cbv;refine Kh hE (fun hc2=>?_) (fun hc2=>?_)
 ·cbv;refine KR hE ?_;cbv;refine Il hE aI hsub (.inl rfl) h1 hbn fun t m row j ht hm hrow=>?_;obtain⟨RL,hRL,hR0⟩:∃RL:Int,RL=(row.length:Nat)∧0≤RL:=⟨_,rfl,by omega⟩;cbv;refine Ng hE hl0 ?_;cbv;refine T8 hE (D6 _ _ _) hRL 0 0 rfl rfl (O9 _) (O9 _) hR0 fun l' n' q1 q2=>?_;cbv
  have e1:0=l':=by omega
  have e2:0=n':=by omega
  subst e1 e2;exact hK ⟨t,0,0,[],row⟩ [] _ ⟨rfl,rfl⟩ ((B6.start C5 rfl).push ht rfl)
 cbv;exact hN rfl [] H0 (.start C5 rfl)
def c240 (N aJ r) (h:M1 N aJ=some r):C7 prog 240 [sr eAE3 aJ] (sr eAD7 r):=by
 unfold M1 at h
 refine Q9 (T:=TT) cf0 J9 func240 (by rfl) (by kernel_rfl) call240 ntmps240 (by rfl) (by rfl) ?_;intro E H0 K hE hK hF;have hO:B6 Eq H0 [] H0:=.start C5 rfl;cbv;refine E9 hE ?_;cbv;obtain⟨s2,hx,h⟩:=bind_some h;refine K1 cf0 hE J9 (fun s1=>[(0,.v (sr eAE3 aJ)),fi 3 s1.1,(9,.v (sr eAE3 aJ)),fi 10 (Ar.len aJ),fi 11 s1.2]) (fun s1 H1=>B6 Eq H0 [] H1) (fun x e l H1=>e= .exit 0∧l=[(0,.v (sr eAE3 aJ)),fi 3 x]∧B6 Eq H0 [] H1) (by kernel_rfl) ?_ hx ?_ hO ?_
 ·intro s1 H o hO h;clear hx;cbv;refine B0 hE h (fun _ h=>?_) fun _ h=>?_
  ·cbv;refine D0 hE eAE5 h fun x3 h=>?_;cbv;refine E9 hE ?_;cbv;refine B0 hE h (fun _ h=>?_) fun _ h=>?_
   ·cbv;cases h
   cbv;cases h;exact⟨_,rfl,.e rfl (.e4 .z),rfl,hO⟩
  cbv;cases h;exact⟨_,_,rfl,⟨rfl,rfl,hO⟩,.e2 .z,rfl⟩
 ·exact .e rfl (.e4 .z)
 clear hx;rintro e l H ⟨rfl,rfl,hO⟩;cbv;refine Fs hE (f:=eAD7) h (c270 N [] s2) (.cons (.refl _) (.cons (.refl _) .nil)) hO fun l4 q5 H hq5 hO h=>?_;cbv;refine E9 hE ?_;cbv;obtain⟨s8,hx,h⟩:=bind_some h;refine H8 cf0 hE J9 (γ:=OG) (fun s6 g=>[(6,.v (.own g.id g.lo g.n)),(25,.v (sr eAE3 aJ)),fi 26 (Ar.len aJ),fi 27 s6.1]) (fun s6 g H1=>Z0 g (Ar.len s6.2)∧B6 Eq H0 [ob g 2 eAD7 s6.2] H1) (fun x e l H1=>∃u1:OG,Z0 u1 (Ar.len x)∧e= .exit 2∧l=[(6,.v (.own u1.id u1.lo u1.n))]∧B6 Eq H0 [ob u1 2 eAD7 x] H1) (by kernel_rfl) ?_ q5 hx ?_ ?_ ?_
 ·rintro s6 q7 H o ⟨hq7,hO⟩ h;clear hx;cbv;refine B0 hE h (fun _ h=>?_) fun _ h=>?_
  ·cbv;refine D0 hE eAE5 h fun x9 h=>?_;cbv;refine Ey (f:=eAD7) hE K6 (by decide) hO hq7 0 rfl (m:=x9) (Cz (f:=eAD7) hE K6 (.refl _)) h fun l11 q10 H hq10 hO h=>?_;cbv;cases h;exact⟨_,q10,rfl,.e4 .z,rfl,hq10,hO⟩
  cbv;cases h;exact⟨_,_,rfl,⟨q7,hq7,rfl,rfl,hO⟩,.e rfl .z,rfl⟩
 ·exact .e4 .z
 ·exact⟨hq5,hO⟩
 clear hx;rintro e l H ⟨q12,hq12,rfl,rfl,hO⟩;cbv;cases h;exact hF q12 _ _ 0 _ _ hO rfl (Z5 hE hq12) (.refl _)
def c241 (N aB r)(h:CA N aB=some r):Aj3 prog 241 aB r:=WF Go.Proofs.Tryz.laysNm189 call241 h
def c242 (N aB r)(h:Bb N aB=some r):NE prog 242 [] 1 (lst (V.int .i64) aB) (lst (V.int .i64) r):=Qt Go.Proofs.Tryz.laysNm220 call242 h
def cf243:Cf:=⟨[],[(2,12),(3,12)],[],[],[],[]⟩
def c243 (N aE aH r) (h:BT N aE aH=some r):NE prog 243 [(V9 aH)] 2 (lst eAD7 aE) (lst eAD7 r):=by
 unfold BT at h
 intro H0 q0 hq0 hk0;refine BU (T:=TT) (F:=upd H0 q0.id none) cf243 J9 func243 (by rfl) (by kernel_rfl) call243 ntmps243 (by rfl) (by rfl) ?_;intro E K hE hK hN;have hO:B6 Eq (upd H0 q0.id none) [ob q0 2 eAD7 aE] H0:=B6.startO hk0;have hq0:Z0 q0 (Ar.len aE):=Ao2 hq0;cbv;refine Fc hE hq0 ?_;cbv;refine B0 hE h (fun _ h=>?_) fun _ h=>?_
 ·cbv;refine N9 hE hO hq0 0 rfl h fun h=>?_;cbv;refine U4 hE eAE2 hO hq0 0 rfl h fun x1 h=>?_;cbv;refine B0 hE h (fun _ h=>?_) fun _ h=>?_
  ·cbv;refine N9 hE hO hq0 0 rfl h fun h=>?_;cbv;refine U4 hE eAE2 hO hq0 0 rfl h fun x2 h=>?_;cbv;refine N9 hE hO hq0 0 rfl h fun h=>?_;cbv;refine Q8 hE (f:=eAD7) (esz:=2) (tz:=1) (off:=1) (u:=(fun x3:A2=>{x3 with cZ:=mx x2.cZ aH.cZ})) (fun x3=>⟨.int .i64 (mx x2.cZ aH.cZ),.refl _,rfl,rfl,(by rw[eAE2,eAE2];rfl)⟩) (by decide) hO hq0 0 rfl h fun l4 H hq0 h hO=>?_;cbv;cases h;exact hK q0 _ _ (Z5 hE hq0) (hO)
  cbv;refine Ey (f:=eAD7) hE K6 (by decide) hO hq0 0 rfl (m:=[aH]) (Cz (f:=eAD7) hE K6 (.lstc (.eq (eAE2 aH) (.refl _)) (.lst0))) h fun l6 q5 H hq5 hO h=>?_;cbv;cases h;exact hK q5 _ _ (Z5 hE hq5) (hO)
 cbv;refine Ey (f:=eAD7) hE K6 (by decide) hO hq0 0 rfl (m:=[aH]) (Cz (f:=eAD7) hE K6 (.lstc (.eq (eAE2 aH) (.refl _)) (.lst0))) h fun l8 q7 H hq7 hO h=>?_;cbv;cases h;exact hK q7 _ _ (Z5 hE hq7) (hO)
def cf207:Cf:=⟨[6000007,6000010],[(13,13),(14,12)],[],[],[],[]⟩
def c207 (N:Nat) (aC:List A2) (aD:List A2) (bO:V) (bJ:Bool→Bool→Option Bool) (cM:∀y1 y2 q,bJ y1 y2=some q→X9 prog bO [.bool y1,.bool y2] (.bool q)) (r:(List A2)) (h:CJ N aC aD bJ=some r):C7 prog 207 [sr eAD7 aC,sr eAD7 aD,bO] (sr eAD7 r):=by
 unfold CJ at h
 refine Q9 (T:=TT) cf207 J9 func207 (by rfl) (by kernel_rfl) call207 ntmps207 (by rfl) (by rfl) ?_;intro E H0 K hE hK hF;have hO:B6 Eq H0 [] H0:=.start C5 rfl;cbv;refine LL hE (f:=(V.int .i64)) hO fun q1 H hq1 hO=>?_;cbv;refine A9 hE h (c240 N ([aC,aD])) (.cons (.lit _ (E3 ((eAE5 aC).symm) (E3 ((eAE5 aD).symm) (B4)))) (.refl _)) fun r2 h=>?_;cbv;refine E9 hE ?_;cbv;obtain⟨s5,hx,h⟩:=bind_some h;refine H8 cf207 hE J9 (γ:=OG) (fun s3 g=>[(0,.v (sr eAD7 aC)),(1,.v (sr eAD7 aD)),(2,.v (bO)),(7,.v (.own g.id g.lo g.n)),(15,.v (sr eAD7 r2)),fi 16 (Ar.len r2),fi 17 s3.1]) (fun s3 g H1=>Z0 g (Ar.len s3.2)∧B6 Eq H0 [ob g 1 (V.int .i64) s3.2] H1) (fun x e l H1=>∃u1:OG,Z0 u1 (Ar.len x)∧e= .exit 0∧l=[(0,.v (sr eAD7 aC)),(1,.v (sr eAD7 aD)),(2,.v (bO)),(7,.v (.own u1.id u1.lo u1.n))]∧B6 Eq H0 [ob u1 1 (V.int .i64) x] H1) (by kernel_rfl) ?_ q1 hx ?_ ?_ ?_
 ·rintro s3 q4 H o ⟨hq4,hO⟩ h;clear hx;cbv;refine B0 hE h (fun _ h=>?_) fun _ h=>?_
  ·cbv;refine D0 hE eAE2 h fun x6 h=>?_;cbv;refine Ey (f:=(V.int .i64)) hE (fun _=>rfl) (by decide) hO hq4 0 rfl (m:=[x6.Low,ar .add .i64 x6.cZ 1]) (Cz (f:=(V.int .i64)) hE (fun _=>rfl) (.lstc (.refl _) (.lstc (.refl _) (.lst0)))) h fun l8 q7 H hq7 hO h=>?_;cbv;cases h;exact⟨_,q7,rfl,.e rfl (.e2 (.e4 .z)),rfl,hq7,hO⟩
  cbv;cases h;exact⟨_,_,rfl,⟨q4,hq4,rfl,rfl,hO⟩,.e4 .z,rfl⟩
 ·exact .e rfl (.e2 (.e4 .z))
 ·exact⟨hq1,hO⟩
 clear hx;rintro e l H ⟨q9,hq9,rfl,rfl,hO⟩;cbv;refine Ao4 hE hO hq9 0 rfl h (c241 N s5) fun l10 H hq9 hO h=>?_;cbv;refine Mw hE (f:=(V.int .i64)) hO hq9 0 rfl h (c242 N l10) (.refl _) fun l11 q12 H hq12 hO h=>?_;cbv;refine LL hE (f:=eAD7) hO fun q13 H hq13 hO=>?_;cbv;obtain⟨s16,hx,h⟩:=bind_some h;refine H8 cf207 hE J9 (γ:=OG) (fun s14 g=>[(0,.v (sr eAD7 aC)),(1,.v (sr eAD7 aD)),(2,.v (bO)),(7,.v (.own q12.id q12.lo q12.n)),(10,.v (.own g.id g.lo g.n)),fi 11 s14.1]) (fun s14 g H1=>Z0 g (Ar.len s14.2)∧B6 Eq H0 [ob g 2 eAD7 s14.2,ob q12 1 (V.int .i64) l11] H1) (fun x e l H1=>∃u1:OG,Z0 u1 (Ar.len x)∧e= .exit 2∧l=[(10,.v (.own u1.id u1.lo u1.n))]∧B6 Eq H0 [ob u1 2 eAD7 x,ob q12 1 (V.int .i64) l11] H1) (by kernel_rfl) ?_ q13 hx ?_ ?_ ?_
 ·rintro s14 q15 H o ⟨hq15,hO⟩ h;clear hx;cbv;refine Fc hE hq12 ?_;cbv;refine B0 hE h (fun _ h=>?_) fun _ h=>?_
  ·cbv;refine N9 hE hO hq12 1 rfl h fun h=>?_;cbv;refine U4 hE (fun _=>rfl) hO hq12 1 rfl h fun x17 h=>?_;cbv;refine M9 hE (g:=fun r18=>.bool r18) h (c124 N aC x17) (.refl _) fun r18 h=>?_;cbv;refine N9 hE hO hq12 1 rfl h fun h=>?_;cbv;refine U4 hE (fun _=>rfl) hO hq12 1 rfl h fun x19 h=>?_;cbv;refine M9 hE (g:=fun r20=>.bool r20) h (c124 N aD x19) (.refl _) fun r20 h=>?_;cbv;refine Du hE (g:=fun r21=>.bool r21) h (fun r21 hx=>cM r18 r20 r21 hx) (.refl _) fun r21 h=>?_;cbv;refine B0 hE h (fun _ h=>?_) fun _ h=>?_
   ·cbv;refine N9 hE hO hq12 1 rfl h fun h=>?_;cbv;refine U4 hE (fun _=>rfl) hO hq12 1 rfl h fun x22 h=>?_;cbv;refine N9 hE hO hq12 1 rfl h fun h=>?_;cbv;refine U4 hE (fun _=>rfl) hO hq12 1 rfl h fun x23 h=>?_;cbv;refine Mw hE (f:=eAD7) hO hq15 0 rfl h (c243 N s14.2 (⟨x22,ar .sub .i64 x23 1⟩:A2)) (.refl _) fun l24 q25 H hq25 hO h=>?_;cbv;cases h;exact⟨_,q25,rfl,.e2 (.e4 .z),rfl,hq25,hO⟩
   cbv;cases h;exact⟨_,q15,rfl,.e2 (.e4 .z),rfl,hq15,hO⟩
  cbv;cases h;exact⟨_,_,rfl,⟨q15,hq15,rfl,rfl,hO⟩,.e rfl .z,rfl⟩
 ·exact .e2 (.e4 .z)
 ·exact⟨hq13,hO⟩
 clear hx;rintro e l H ⟨q26,hq26,rfl,rfl,hO⟩;cbv;cases h;exact hF q26 _ _ 0 _ _ hO rfl (Z5 hE hq26) (.refl _)
def c160 (N:Nat)(aC:List A2)(aD:List A2)(bO:V)(bJ:Bool→Bool→Option Bool)(cM:∀y1 y2 q,bJ y1 y2=some q→X9 prog bO [.bool y1,.bool y2] (.bool q))(r:((List A2)×Int))(h:W5 N aC aD bJ=some r):C7 prog 160 [sr eAD7 aC,sr eAD7 aD,bO] (.tup [sr eAD7 r.1,vi r.2]):=by
 unfold W5 at h
 refine P6 cf0 func160 call160 ntmps160 ?_;intro E H0 K hE hK hO;cbv;refine A9 hE h (c206 N aC aD) (.refl _) fun r1 h=>?_;cbv;refine B0 hE h (fun _ h=>?_) fun _ h=>?_
 ·cbv;cases h;exact hK hO (.tup (.cons (.lit _ (B4)) (.refl _)))
 cbv;refine A9 hE h (c207 N aC aD bO bJ cM) (.refl _) fun r2 h=>?_;cbv;refine A9 hE h (c188 N r2) (.refl _) fun r3 h=>?_;cbv;cases h;exact hK hO (.refl _)
def c161 (N aH aO r)(h:X4 N aH aO=some r):C7 prog 161 [.bool aH,.bool aO] (.bool r):=by
 unfold X4 at h
 refine P6 cf0 func161 call161 ntmps161 ?_;intro E H0 K hE hK hO;cbv;cases h;exact hK hO (.refl _)
def c120 (N aC aD r)(h:O2 N aC aD=some r):C7 prog 120 [sr eAD7 aC,sr eAD7 aD] (.tup [sr eAD7 r.1,vi r.2]):=by
 unfold O2 at h
 refine P6 cf0 func120 call120 ntmps120 ?_;intro E H0 K hE hK hO;cbv;refine A9 hE (g:=fun r1=>.tup [sr eAD7 r1.1,vi r1.2]) h (fun r1 hx=>c160 N aC aD (.func (.func 161) [] []) (fun y1 y2=>X4 N y1 y2) (fun y1 y2 r hx=>C7.value (F:=[]) (C:=[]) (c161 N y1 y2 r hx)) r1 hx) (.refl _) fun r1 h=>?_;cbv;cases h;exact hK hO (.refl _)
def cf138:Cf:=⟨[6,10],[(3,9),(5,12)],[(37,8),(62,12)],[],[],[(3,6,[6]),(5,6,[6])]⟩
def c138 (N:Nat):∀n aF aW aS r,Ae N n aF aW aS=some r→C7 prog 138 [(Db aF),vi aW,vi aS] (.tup [(CT r.1),.bool r.2]):=by
 intro n
 induction n with
 |zero=>intro aF aW aS r h;cases h
 |succ n ih=>
 intro aF aW aS r h
 unfold Ae at h
 refine P6 cf138 func138 call138 ntmps138 ?_;intro E H0 K hE hK hO;cbv;refine D8 hE hO fun b1 H hO=>?_;cbv;refine B0 hE h (fun _ h=>?_) fun _ h=>?_
 ·cbv;refine SF hE hO 0 rfl fun H1 hT hW=>?_;cbv;refine Gd hE trivial ?_;cbv;refine SI hE hO 0 rfl hT fun H hO=>?_;cbv;refine A8 hE hO 0 rfl ?_;cbv;cases h;exact hK hO (.refl _)
 cbv;refine B0 hE h (fun _ h=>?_) fun _ h=>?_
 ·cbv;refine SF hE hO 0 rfl fun H1 hT hW=>?_;cbv;refine Gd hE trivial ?_;cbv;refine SI hE hO 0 rfl hT fun H hO=>?_;cbv;refine A8 hE hO 0 rfl ?_;cbv;cases h;exact hK hO (.refl _)
 cbv;obtain⟨s2,hx,h⟩:=bind_some h;refine O1 cf138 hE J9 (fun e l H1=>e= .normal∧l=[fi 1 aW,fi 2 aS,(3,.v (.eref (Fi aF) 0)),(6,.v (.ref b1 0)),(37,.v (.bool s2))]∧B6 Eq H0 [cb b1 [vi 0,vi 0]] H1) (by kernel_rfl) ?_ ?_
 ·clear h;have h:=hx;clear hx;cbv;refine B0 hE h (fun _ h=>?_) fun _ h=>?_
  ·cbv;cases h;exact⟨_,⟨rfl,rfl,hO⟩,.e rfl (.e4 .z),rfl⟩
  cbv;cases h;exact⟨_,⟨rfl,rfl,hO⟩,.e rfl (.e4 .z),rfl⟩
 clear hx;rintro e l H ⟨rfl,rfl,hO⟩;cbv;refine B0 hE h (fun _ h=>?_) fun _ h=>?_
 ·cbv;refine D0 hE eAF1 h fun x3 h=>?_;cbv;refine A9 hE h (ih x3 aW aS) (.refl _) fun r4 h=>?_;cbv;refine D0 hE eAF1 h fun x5 h=>?_;cbv;refine A9 hE h (ih x5 aW aS) (.refl _) fun r6 h=>?_;cbv;refine D8 hE hO fun b7 H hO=>?_;cbv;refine A7 hE hO 0 rfl rfl fun H hO=>?_;cbv;obtain⟨s8,hx,h⟩:=bind_some h;refine O1 cf138 hE J9 (fun e l H1=>e= .normal∧l=[(6,.v (.ref b1 0)),(8,.v (.eref (Fh r4.1) 0)),(9,.v (.bool r4.2)),(10,.v (.ref b7 0)),(11,.v (.bool r6.2))]∧B6 Eq H0 [cb b7 (Fh s8),cb b1 [vi 0,vi 0]] H1) (by kernel_rfl) ?_ ?_
  ·clear h;have h:=hx;clear hx;cbv;refine B0 hE h (fun _ h=>?_) fun _ h=>?_
   ·cbv;refine A8 hE hO 0 rfl ?_;cbv;refine A8 hE hO 0 rfl ?_;cbv;refine A7 hE hO 0 rfl rfl fun H hO=>?_;cbv;cases h;exact⟨_,⟨rfl,rfl,hO⟩,.e rfl (.e4 .z),rfl⟩
   cbv;cases h;exact⟨_,⟨rfl,rfl,hO⟩,.e rfl (.e4 .z),rfl⟩
  clear hx;rintro e l H ⟨rfl,rfl,hO⟩;cbv;refine A8 hE hO 0 rfl ?_;cbv;refine A8 hE hO 0 rfl ?_;cbv;refine A7 hE hO 1 rfl rfl fun H hO=>?_;cbv;refine A8 hE hO 1 rfl ?_;cbv;cases h;exact hK hO (.refl _)
 cbv;refine A7 hE hO 0 rfl rfl fun H hO=>?_;cbv;refine A8 hE hO 0 rfl ?_;cbv;cases h;exact hK hO (.refl _)
def c224 (N bF bG r)(h:Cb N bF bG=some r):C7 prog 224 [vi bF,vi bG] (sr eAD7 r):=by
 unfold Cb at h
 refine P6 cf0 func224 call224 ntmps224 ?_;intro E H0 K hE hK hO;cbv;refine B0 hE h (fun _ h=>?_) fun _ h=>?_
 ·cbv;cases h;exact hK hO (.lit _ (B4))
 cbv;cases h;exact hK hO (.lit _ (E3 ((eAE2 (⟨mx bF (-1099511627776),Ar.mn bG 1099511627776⟩:A2)).symm) (B4)))
def c225 (N aC aD r)(h:Eu N aC aD=some r):C7 prog 225 [vi aC,vi aD] (vi r):=by
 unfold Eu at h
 refine P6 cf0 func225 call225 ntmps225 ?_;intro E H0 K hE hK hO;cbv;refine Mu hE h fun h=>?_;cbv;refine Mu hE h fun h=>?_;cbv;refine B0 hE h (fun _ h=>?_) fun _ h=>?_
 ·cbv;cases h;exact hK hO (.refl _)
 cbv;cases h;exact hK hO (.refl _)
def c185 (N aC r)(h:Bc N aC=some r):C7 prog 185 [(CT aC)] (sr eAD7 r):=by
 unfold Bc at h
 refine P6 cf0 func185 call185 ntmps185 ?_;intro E H0 K hE hK hO;cbv;refine B0 hE h (fun _ h=>?_) fun _ h=>?_
 ·cbv;refine A9 hE h (c225 N (neg .i64 aC.plus) aC.times) (.refl _) fun r1 h=>?_;cbv;refine A9 hE h (c224 N (-1099511627776) r1) (.refl _) fun r2 h=>?_;cbv;cases h;exact hK hO (.refl _)
 cbv;refine B0 hE h (fun _ h=>?_) fun _ h=>?_
 ·cbv;refine A9 hE h (c225 N (neg .i64 aC.plus) (neg .i64 aC.times)) (.refl _) fun r3 h=>?_;cbv;refine A9 hE h (c224 N (neg .i64 r3) 1099511627776) (.refl _) fun r4 h=>?_;cbv;cases h;exact hK hO (.refl _)
 cbv;refine B0 hE h (fun _ h=>?_) fun _ h=>?_
 ·cbv;refine A9 hE h (c89 N) (.refl _) fun r5 h=>?_;cbv;cases h;exact hK hO (.refl _)
 cbv;cases h;exact hK hO (.lit _ (B4))
def cf139:Cf:=⟨[8],[(8,13)],[],[],[],[]⟩
def c139 (N aM aC aD r)(h:DD N aM aC aD=some r):C7 prog 139 [vi aM,(CT aC),(CT aD)] (.tup [sr eAD7 r.1,vi r.2]):=by
 unfold DD at h
 refine P6 cf139 func139 call139 ntmps139 ?_;intro E H0 K hE hK hO;cbv;refine D8 hE hO fun b1 H hO=>?_;cbv;refine A7 hE hO 0 rfl rfl fun H hO=>?_;cbv;refine B0 hE h (fun _ h=>?_) fun _ h=>?_
 ·cbv;refine A8 hE hO 0 rfl ?_;cbv;refine A7 hE hO 0 rfl rfl fun H hO=>?_;cbv;refine A8 hE hO 0 rfl ?_;cbv;refine A9 hE h (c185 N (⟨ar .sub .i64 aC.times aD.times,ar .add .i64 (ar .sub .i64 aC.plus aD.plus) 1⟩:G4)) (.refl _) fun r2 h=>?_;cbv;cases h;exact hK hO (.refl _)
 cbv;refine B0 hE h (fun _ h=>?_) fun _ h=>?_
 ·cbv;refine A8 hE hO 0 rfl ?_;cbv;refine A9 hE h (c185 N (⟨ar .sub .i64 aC.times aD.times,ar .sub .i64 aC.plus aD.plus⟩:G4)) (.refl _) fun r3 h=>?_;cbv;cases h;exact hK hO (.refl _)
 cbv;refine A8 hE hO 0 rfl ?_;cbv;refine M9 hE (g:=fun r4=>sr eAD7 r4) h (c185 N (⟨ar .sub .i64 aC.times aD.times,ar .sub .i64 aC.plus aD.plus⟩:G4)) (.refl _) fun r4 h=>?_;cbv;refine A8 hE hO 0 rfl ?_;cbv;refine A8 hE hO 0 rfl ?_;cbv;refine M9 hE (g:=fun r5=>sr eAD7 r5) h (c185 N (⟨neg .i64 (ar .sub .i64 aC.times aD.times),neg .i64 (ar .sub .i64 aC.plus aD.plus)⟩:G4)) (.refl _) fun r5 h=>?_;cbv;refine M9 hE (g:=fun r6=>.tup [sr eAD7 r6.1,vi r6.2]) h (c120 N r4 r5) (.refl _) fun r6 h=>?_;cbv;cases h;exact hK hO (.refl _)
def c186 (N aH aO r)(h:CW N aH aO=some r):C7 prog 186 [.bool aH,.bool aO] (.bool r):=by
 unfold CW at h
 refine P6 cf0 func186 call186 ntmps186 ?_;intro E H0 K hE hK hO;cbv;cases h;exact hK hO (.refl _)
def c140 (N aC aD r)(h:EB N aC aD=some r):C7 prog 140 [sr eAD7 aC,sr eAD7 aD] (.tup [sr eAD7 r.1,vi r.2]):=by
 unfold EB at h
 refine P6 cf0 func140 call140 ntmps140 ?_;intro E H0 K hE hK hO;cbv;refine A9 hE (g:=fun r1=>.tup [sr eAD7 r1.1,vi r1.2]) h (fun r1 hx=>c160 N aC aD (.func (.func 186) [] []) (fun y1 y2=>CW N y1 y2) (fun y1 y2 r hx=>C7.value (F:=[]) (C:=[]) (c186 N y1 y2 r hx)) r1 hx) (.refl _) fun r1 h=>?_;cbv;cases h;exact hK hO (.refl _)
def c226 (N aG r) (h:Gf N aG=some r):It prog 226 (fun yv=>[yv,.eref [sr eAD7 aG] 0]) (List.map (fun(x:A2)=>[(V9 x)]) r) rbN:=by
 unfold Gf at h
 obtain⟨⟨w0,u0⟩,h1,hr⟩:=bind_some h;clear h;have hr:=I9 hr;subst hr;have h:=h1;clear h1;refine T3 cf0 J9 func226 (by rfl) (by kernel_rfl) call226 ntmps226 (by rfl) (fun _=>rfl) ?_;intro yv I D hI hD hy tl F E H K hE hO hK hKD
 have hO:B6 (I (List.map (fun(x:A2)=>[(V9 x)]) (w0++[])++tl)) F [] H:=by rw[G9];exact hO
 cbv;refine E9 hE ?_;cbv;obtain⟨w2,w3,s6,hx,h1,he⟩:=R7 h;clear h;have h:=h1;clear h1
 rw[he,F6]at hO
 clear he;refine KX cf0 hE J9 (γ:=Unit) (fun s1 g=>[(0,.v (yv)),fi 3 s1.1,(6,.v (sr eAD7 aG)),fi 7 (Ar.len aG),fi 8 s1.2]) (fun s1 g w H1=>B6 (I (List.map (fun(x:A2)=>[(V9 x)]) w++tl)) F [] H1) (fun x e l w H1=>e= .exit 0∧l=[(0,.v (yv)),fi 3 x]∧B6 (I (List.map (fun(x:A2)=>[(V9 x)]) w++tl)) F [] H1) (fun e l H1=>(e= .ret∧l=[]∧B6 D F [] H1)) (by kernel_rfl) ?_ (w':=w3++[]) () hx ?_ ?_ ?_ ?_
 ·rintro s1 _ w4 w5 H o hO h;clear hx
  skip
  cbv;refine B0 hE h (fun _ h=>?_) fun _ h=>?_
  ·cbv;refine D0 hE eAE2 h fun x7 h=>?_;cbv;refine B0 hE h (fun _ h=>?_) fun _ h=>?_
   ·cbv;obtain⟨w8,h1,he⟩:=Y0 h;clear h;have h:=h1;clear h1
    rw[he,F6]at hO
    clear he;have hO:B6 (I ([.agg [vi s1.1,vi (ar .sub .i64 x7.Low 1)]]::(List.map (fun(x:A2)=>[(V9 x)]) (w8++w5)++tl))) F [] _:=hO;refine Dt hE hI hD hy hO (.refl _) (fun H hO=>?_) (fun H hO=>?_)
    ·cbv;refine Ko hE (nt_eq _) ?_;cbv;obtain⟨hw,rfl⟩:=F9 h
     rw[←hw]at hO
     exact⟨_,(),rfl,.e rfl (.e4 .z),rfl,hO⟩
    clear h;cbv;refine Kn hE (nt_eq _) ?_;cbv;exact .inr ⟨_,⟨rfl,rfl,hO⟩,.z,rfl⟩
   cbv;obtain⟨hw,rfl⟩:=F9 h
   rw[←hw]at hO
   exact⟨_,(),rfl,.e rfl (.e4 .z),rfl,hO⟩
  cbv;obtain⟨hw,rfl⟩:=F9 h
  rw[←hw]at hO
  exact .inl ⟨_,_,rfl,⟨rfl,rfl,hO⟩,.e2 .z,rfl⟩
 ·exact .e rfl (.e4 .z)
 ·exact hO
 ·rintro e l H ⟨rfl,rfl,hO⟩;clear hx;cbv;refine B0 hE h (fun _ h=>?_) fun _ h=>?_
  ·cbv;obtain⟨w9,h1,he⟩:=Y0 h;clear h;have h:=h1;clear h1
   rw[he,F6]at hO
   clear he;have hO:B6 (I ([.agg [vi s6,vi 1099511627776]]::(List.map (fun(x:A2)=>[(V9 x)]) (w9++[])++tl))) F [] _:=hO;refine Dt hE hI hD hy hO (.refl _) (fun H hO=>?_) (fun H hO=>?_)
   ·cbv;obtain⟨hw,_⟩:=F9 h
    rw[←hw]at hO
    exact hK _ _ _ hO trivial
   clear h;cbv;exact hKD _ _ _ hO trivial
  cbv;obtain⟨hw,_⟩:=F9 h
  rw[←hw]at hO
  exact hK _ _ _ hO trivial
 rintro e l H hX;obtain⟨rfl,rfl,hO⟩:=hX;clear h;cbv;exact hKD _ _ _ hO trivial
def c187 (N aE r)(h:HX N aE=some r):EP prog 187 [sr eAD7 aE] (fun v=>Gu prog v (r.map fun(x:A2)=>[(V9 x)])):=by
 unfold HX at h
 refine X0 cf0 J9 func187 (by rfl) (by kernel_rfl) call187 ntmps187 (by rfl) (by rfl) ?_;intro E H0 K hE hK;have hO:B6 Eq H0 [] H0:=.start C5 rfl;cbv;exact hK _ _ _ hO (W8 call226 (c226 N aE r h))
def cf141:Cf:=⟨[5],[],[],[],[],[]⟩
def c141 (N aE r)(h:AW N aE=some r):C7 prog 141 [sr eAD7 aE] (.tup [sr eAD7 r.1,vi r.2]):=by
 unfold AW at h
 refine P6 cf141 func141 call141 ntmps141 ?_;intro E H0 K hE hK hO;cbv;refine A9 hE h (c94 N aE) (.refl _) fun r1 h=>?_;cbv;refine B0 hE h (fun _ h=>?_) fun _ h=>?_
 ·cbv;cases h;exact hK hO (.tup (.cons (.lit _ (B4)) (.refl _)))
 cbv;refine D8 hE hO fun b2 H hO=>?_;cbv;refine T9 hE h (c187 N aE) (.refl _) fun r3 v4 hv4 h=>?_;cbv;replace hO:=hO.tl0 (t:=.nil) rfl;obtain⟨o10,hx,h⟩:=bind_some h;replace hO:=hO.cast (L':=[.tl .nil,cb b2 [.sl (lst eAD7 ([])) .nil]]) (by simp only[ob,cb,sr,←B4]<;>rfl);refine Cc cf141 hE J9 (ι:=Unit) (enc:=fun(x:A2)=>[(V9 x)]) (fun(s6:(List A2)) F H=>∃g:D2,(G3 g)∧B6 Eq F [.tl g,cb b2 [.sl (lst eAD7 s6) g]] H) (fun(r:Unit) e F H=>False) (fun i s6 y5=>[(5,.v (.ref b2 0)),(6,.v (.eref (Qx y5) 0))]) (fun i s6 y5 F H=>∃g:D2,(G3 g)∧B6 Eq F [.tl g,cb b2 [.sl (lst eAD7 s6) g]] H) (fun _=>D9.ex fun _=>B6.stable C5 _) (fun _ _=>⟨fun h=>h.elim,fun _ _ h=>h.elim⟩) (fun _ _ _=>D9.ex fun _=>B6.stable C5 _) hv4 hx (⟨.nil,trivial,hO⟩) (by decide) (fun _=>rfl) (by kernel_rfl) (by kernel_rfl) ?_ ?_ ?_ ?_
 ·rintro E i8 y5 s6 F7 H hE ⟨t9,ht9,hO⟩;clear hx h;cbv;exact⟨(),⟨t9,ht9,hO⟩,.e2 .z,rfl⟩
 ·rintro E i8 _ y5 s6 F7 H o hE hF h ⟨t9,ht9,hO⟩;clear hx;cbv;refine A8 hE hO 1 rfl ?_;cbv;refine K7 (f:=eAD7) hE K6 (by decide) hO 0 rfl ht9 (l:=s6) (m:=[y5]) (.refl _) (.lstc (.eq (eAE2 y5) (.refl _)) (.lst0)) h fun l12 t11 H hO ht11 h=>?_;cbv;refine A7 hE hO 1 rfl rfl fun H hO=>?_;cbv;cases h;exact⟨_,rfl,⟨t11,ht11,hO⟩⟩
 ·rintro d13 s16 H rfl hd ⟨t17,ht17,hO⟩;have hO:B6 Eq H0 [.tl t17,cb b2 [.sl (lst eAD7 s16) t17],.blk d13 DB] H:=B6.dblk hd hO;clear hd;clear hx;cbv;refine A8 hE hO 1 rfl ?_;cbv;refine A9 hE h (c188 N s16) (.cons (.ro _ _) (.refl _)) fun r18 h=>?_;cbv;refine Ez hE hO 2 rfl fun H hO=>?_;cbv;cases h;exact hK hO (.refl _)
 rintro d r e H rfl hd hO;exact hO.elim
def c227 (N aH aO r)(h:CX N aH aO=some r):C7 prog 227 [.bool aH,.bool aO] (.bool r):=by
 unfold CX at h
 refine P6 cf0 func227 call227 ntmps227 ?_;intro E H0 K hE hK hO;cbv;cases h;exact hK hO (.refl _)
def c189 (N aC aD r)(h:EC N aC aD=some r):C7 prog 189 [sr eAD7 aC,sr eAD7 aD] (.tup [sr eAD7 r.1,vi r.2]):=by
 unfold EC at h
 refine P6 cf0 func189 call189 ntmps189 ?_;intro E H0 K hE hK hO;cbv;refine A9 hE (g:=fun r1=>.tup [sr eAD7 r1.1,vi r1.2]) h (fun r1 hx=>c160 N aC aD (.func (.func 227) [] []) (fun y1 y2=>CX N y1 y2) (fun y1 y2 r hx=>C7.value (F:=[]) (C:=[]) (c227 N y1 y2 r hx)) r1 hx) (.refl _) fun r1 h=>?_;cbv;cases h;exact hK hO (.refl _)
def c142 (N aC aD r)(h:GS N aC aD=some r):C7 prog 142 [sr eAD7 aC,sr eAD7 aD] (.tup [sr eAD7 r.1,vi r.2]):=by
 unfold GS at h
 refine P6 cf0 func142 call142 ntmps142 ?_;intro E H0 K hE hK hO;cbv;refine A9 hE h (c189 N aC aD) (.refl _) fun r1 h=>?_;cbv;refine B0 hE h (fun _ h=>?_) fun _ h=>?_
 ·cbv;cases h;exact hK hO (.tup (.cons (.lit _ (B4)) (.refl _)))
 cbv;refine A9 hE h (c189 N aD aC) (.refl _) fun r2 h=>?_;cbv;refine B0 hE h (fun _ h=>?_) fun _ h=>?_
 ·cbv;cases h;exact hK hO (.tup (.cons (.lit _ (B4)) (.refl _)))
 cbv;refine A9 hE h (c140 N r1.1 r2.1) (.refl _) fun r3 h=>?_;cbv;refine B0 hE h (fun _ h=>?_) fun _ h=>?_
 ·cbv;cases h;exact hK hO (.tup (.cons (.lit _ (B4)) (.refl _)))
 cbv;refine A9 hE h (c141 N r3.1) (.refl _) fun r4 h=>?_;cbv;cases h;exact hK hO (.refl _)
def cf102:Cf:=⟨[],[(32,9),(34,9),(37,9)],[(32,11)],[0],[],[]⟩
def c102 (N:Nat):∀n aF aW aS r,Dq N n aF aW aS=some r→C7 prog 102 [(Db aF),vi aW,vi aS] (.tup [sr eAD7 r.1,vi r.2]):=by
 intro n
 induction n with
 |zero=>intro aF aW aS r h;cases h
 |succ n ih=>
 intro aF aW aS r h
 unfold Dq at h
 refine P6 cf102 func102 call102 ntmps102 ?_;intro E H0 K hE hK hO;cbv;obtain⟨s1,hx,h⟩:=bind_some h;refine O1 cf102 hE J9 (fun e l H1=>match(generalizing:=false) s1 with| .inl y=>e= .normal∧l=[fi 1 aW,fi 2 aS,(3,.v (.eref (Fi aF) 0))]∧B6 Eq H0 [] H1| .inr y=>e= .ret∧l=[(6,.v (sr eAD7 y.1)),fi 7 y.2]∧B6 Eq H0 [] H1) (by kernel_rfl) ?_ ?_
 ·clear h;have h:=hx;clear hx;cbv;refine B0 hE h (fun _ h=>?_) fun _ h=>?_
  ·cbv;refine B0 hE h (fun _ h=>?_) fun _ h=>?_
   ·cbv;cases h;exact⟨_,⟨rfl,rfl,hO⟩,.v (.lit _ (B4)) (.e rfl .z),rfl⟩
   cbv;refine B0 hE h (fun _ h=>?_) fun _ h=>?_
   ·cbv;refine A9 hE h (c89 N) (.refl _) fun r2 h=>?_;cbv;cases h;exact⟨_,⟨rfl,rfl,hO⟩,.e2 .z,rfl⟩
   cbv;cases h;exact⟨_,⟨rfl,rfl,hO⟩,.v (.lit _ (B4)) (.e rfl .z),rfl⟩
  cbv;obtain⟨s3,hx,h⟩:=bind_some h;refine O1 cf102 hE J9 (fun e l H1=>e= .normal∧l=[fi 1 aW,fi 2 aS,(3,.v (.eref (Fi aF) 0)),fi 18 aF.Op,(32,.v (.bool s3))]∧B6 Eq H0 [] H1) (by kernel_rfl) ?_ ?_
  ·clear h;have h:=hx;clear hx;cbv;refine B0 hE h (fun _ h=>?_) fun _ h=>?_
   ·cbv;cases h;exact⟨_,⟨rfl,rfl,hO⟩,.e rfl (.e4 .z),rfl⟩
   cbv;refine B0 hE h (fun _ h=>?_) fun _ h=>?_
   ·cbv;cases h;exact⟨_,⟨rfl,rfl,hO⟩,.e rfl (.e4 .z),rfl⟩
   cbv;cases h;exact⟨_,⟨rfl,rfl,hO⟩,.e rfl (.e4 .z),rfl⟩
  clear hx;rintro e l H ⟨rfl,rfl,hO⟩;cbv;refine B0 hE h (fun _ h=>?_) fun _ h=>?_
  ·cbv;refine D0 hE eAF1 h fun x4 h=>?_;cbv;refine A9 hE h (c138 N N x4 aW aS) (.refl _) fun r5 h=>?_;cbv;refine D0 hE eAF1 h fun x6 h=>?_;cbv;refine A9 hE h (c138 N N x6 aW aS) (.refl _) fun r7 h=>?_;cbv;refine B0 hE h (fun _ h=>?_) fun _ h=>?_
   ·cbv;refine A9 hE h (c139 N aF.Op r5.1 r7.1) (.refl _) fun r8 h=>?_;cbv;cases h;exact⟨_,⟨rfl,rfl,hO⟩,.e2 .z,rfl⟩
   cbv;refine B0 hE h (fun _ h=>?_) fun _ h=>?_
   ·cbv;cases h;exact⟨_,⟨rfl,rfl,hO⟩,.v (.lit _ (B4)) (.e rfl .z),rfl⟩
   cbv;cases h;exact⟨_,⟨rfl,rfl,hO⟩,.e rfl (.e2 .z),rfl⟩
  cbv;refine B0 hE h (fun _ h=>?_) fun _ h=>?_
  ·cbv;cases h;exact⟨_,⟨rfl,rfl,hO⟩,.e rfl (.e2 .z),rfl⟩
  cbv;refine B0 hE h (fun _ h=>?_) fun _ h=>?_
  ·cbv;cases h;exact⟨_,⟨rfl,rfl,hO⟩,.e rfl (.e2 .z),rfl⟩
  cbv;refine B0 hE h (fun _ h=>?_) fun _ h=>?_
  ·cbv;cases h;exact⟨_,⟨rfl,rfl,hO⟩,.e rfl (.e2 .z),rfl⟩
  cbv;cases h;exact⟨_,⟨rfl,rfl,hO⟩,.v (.lit _ (B4)) (.e rfl .z),rfl⟩
 clear hx
 rcases s1 with y9|y32
 ·rintro e l H ⟨rfl,rfl,hO⟩;cbv;refine E9 hE ?_;cbv;replace hO:=hO.tl0 (t:=.nil) rfl;obtain⟨s12,hx,h⟩:=bind_some h;refine H8 cf102 hE J9 (γ:=D2) (fun s10 g=>[fi 1 aW,fi 2 aS,(3,.v (.eref (Fi aF) 0)),(12,.v (.sl (lst eAE3 s10.1) g)),(75,.v (sr eAE4 aF.dA)),fi 76 (Ar.len aF.dA),fi 77 s10.2]) (fun s10 g H1=>G3 g∧B6 Eq H0 [.tl g] H1) (fun x e l H1=>match(generalizing:=false) x with| .inl y=>∃u1:D2,G3 u1∧e= .exit 2∧l=[(3,.v (.eref (Fi aF) 0)),(12,.v (.sl (lst eAE3 y) u1))]∧B6 Eq H0 [.tl u1] H1| .inr y=>∃u1:D2,G3 u1∧e= .ret∧l=[(6,.v (.sl [] .nil)),fi 7 y]∧B6 Eq H0 [.tl u1] H1) (by kernel_rfl) ?_ .nil hx ?_ ?_ ?_
  ·rintro s10 t11 H o ⟨ht11,hO⟩ h;clear hx;cbv;refine B0 hE h (fun _ h=>?_) fun _ h=>?_
   ·cbv;refine D0 hE eAF1 h fun x13 h=>?_;cbv;refine A9 hE h (ih x13 aW aS) (.refl _) fun r14 h=>?_;cbv;refine B0 hE h (fun _ h=>?_) fun _ h=>?_
    ·cbv;cases h;exact⟨_,_,rfl,⟨t11,ht11,rfl,rfl,hO⟩,.e2 .z,rfl⟩
    cbv;refine K7 (f:=eAE3) hE Fo (by decide) hO 0 rfl ht11 (l:=s10.1) (m:=[r14.1]) (.refl _) (.lstc (.eq (eAE5 r14.1) (.refl _)) (.lst0)) h fun l16 t15 H hO ht15 h=>?_;cbv;cases h;exact⟨_,t15,rfl,.e rfl (.e2 (.e4 .z)),rfl,ht15,hO⟩
   cbv;cases h;exact⟨_,_,rfl,⟨t11,ht11,rfl,rfl,hO⟩,.e2 .z,rfl⟩
  ·exact .e rfl (.e2 (.v (.slt _ (.lst0)) (.e rfl (.e rfl (.e rfl (.z))))))
  ·exact⟨trivial,hO⟩
  clear hx
  rcases s12 with y17|y30
  ·rintro e l H ⟨t18,ht18,rfl,rfl,hO⟩;cbv;refine B0 hE h (fun _ h=>?_) fun _ h=>?_
   ·cbv;refine D0 hE eAE5 h fun x19 h=>?_;cbv;refine D0 hE eAE5 h fun x20 h=>?_;cbv;refine M9 hE (g:=fun r21=>.tup [sr eAD7 r21.1,vi r21.2]) h (c120 N x19 x20) (.refl _) fun r21 h=>?_;cbv;cases h;exact hK hO (.refl _)
   cbv;refine B0 hE h (fun _ h=>?_) fun _ h=>?_
   ·cbv;refine D0 hE eAE5 h fun x22 h=>?_;cbv;refine D0 hE eAE5 h fun x23 h=>?_;cbv;refine M9 hE (g:=fun r24=>.tup [sr eAD7 r24.1,vi r24.2]) h (c140 N x22 x23) (.refl _) fun r24 h=>?_;cbv;cases h;exact hK hO (.refl _)
   cbv;refine B0 hE h (fun _ h=>?_) fun _ h=>?_
   ·cbv;refine D0 hE eAE5 h fun x25 h=>?_;cbv;refine A9 hE h (c141 N x25) (.refl _) fun r26 h=>?_;cbv;cases h;exact hK hO (.refl _)
   cbv;refine D0 hE eAE5 h fun x27 h=>?_;cbv;refine D0 hE eAE5 h fun x28 h=>?_;cbv;refine M9 hE (g:=fun r29=>.tup [sr eAD7 r29.1,vi r29.2]) h (c142 N x27 x28) (.refl _) fun r29 h=>?_;cbv;cases h;exact hK hO (.refl _)
  rintro e l H ⟨t31,ht31,rfl,rfl,hO⟩;cbv;cases h;exact hK hO (.tup (.cons (.lit _ (B4)) (.refl _)))
 rintro e l H ⟨rfl,rfl,hO⟩;cbv;cases h;exact hK hO (.refl _)
def c143 (N:Nat) (aB:List Ic) (aX:V) (aQ:Ic→Option Bool) (bE:∀y1 q,aQ y1=some q→X9 prog aX [(WO y1)] (.bool q)) (r:Int) (h:X2 N aB aQ=some r):C7 prog 143 [sr eAG5 aB,aX] (vi r):=by
 unfold X2 at h
 refine P6 cf0 func143 call143 ntmps143 ?_;intro E H0 K hE hK hO;cbv;refine E9 hE ?_;cbv;obtain⟨s2,hx,h⟩:=bind_some h;refine K1 cf0 hE J9 (fun s1=>[(0,.v (sr eAG5 aB)),(1,.v (aX)),fi 7 (Ar.len aB),fi 8 s1]) (fun s1 H1=>B6 Eq H0 [] H1) (fun x e l H1=>match(generalizing:=false) x with| .inl y=>e= .exit 0∧l=[]∧B6 Eq H0 [] H1| .inr y=>e= .ret∧l=[fi 4 y]∧B6 Eq H0 [] H1) (by kernel_rfl) ?_ hx ?_ hO ?_
 ·intro s1 H o hO h;clear hx;cbv;refine B0 hE h (fun _ h=>?_) fun _ h=>?_
  ·cbv;refine D0 hE eAH8 h fun x3 h=>?_;cbv;refine Du hE (g:=fun r4=>.bool r4) h (fun r4 hx=>bE x3 r4 hx) (.refl _) fun r4 h=>?_;cbv;refine B0 hE h (fun _ h=>?_) fun _ h=>?_
   ·cbv;cases h;exact⟨_,_,rfl,⟨rfl,rfl,hO⟩,.e rfl .z,rfl⟩
   cbv;cases h;exact⟨_,rfl,.e4 .z,rfl,hO⟩
  cbv;cases h;exact⟨_,_,rfl,⟨rfl,rfl,hO⟩,.z,rfl⟩
 ·exact .e4 .z
 clear hx
 rcases s2 with y5|y6
 ·rintro e l H ⟨rfl,rfl,hO⟩;cbv;cases h;exact hK hO (.refl _)
 rintro e l H ⟨rfl,rfl,hO⟩;cbv;cases h;exact hK hO (.refl _)
def c144 (N aQ r)(h:AV N aQ=some r):C7 prog 144 [(WO aQ)] (.bool r):=by
 unfold AV at h
 refine P6 cf0 func144 call144 ntmps144 ?_;intro E H0 K hE hK hO;cbv;cases h;exact hK hO (.refl _)
def c103 (N aB r)(h:Et N aB=some r):C7 prog 103 [(Tv aB)] (vi r):=by
 unfold Et at h
 refine P6 cf0 func103 call103 ntmps103 ?_;intro E H0 K hE hK hO;cbv;refine A9 hE (g:=fun r1=>vi r1) h (fun r1 hx=>c143 N aB.Fields (.func (.func 144) [] []) (fun y1=>AV N y1) (fun y1 r hx=>C7.value (F:=[]) (C:=[]) (c144 N y1 r hx)) r1 hx) (.refl _) fun r1 h=>?_;cbv;cases h;exact hK hO (.refl _)
def cf54:Cf:=⟨[8],[(8,13),(13,12)],[],[],[],[]⟩
def c54 (N aK bB bT aS r) (h:IE N aK bB bT aS=some r):C7 prog 54 [sr eAF4 aK,vi bB,(Db bT),vi aS] (.tup [(F3 r.1),vi r.2]):=by
 unfold IE at h
 refine Qr cf54 J9 func54 (by rfl) (by kernel_rfl) call54 ntmps54 (by rfl) (by rfl) ?_;intro E H0 K hE hK hG;have hO:B6 Eq H0 [] H0:=.start C5 rfl;cbv;refine D8 hE hO fun b1 H hO=>?_;cbv;refine A9 hE h (c51 N aK) (.refl _) fun r2 h=>?_;cbv;refine B0 hE h (fun _ h=>?_) fun _ h=>?_
 ·cbv;refine A7 hE hO 0 rfl rfl fun H hO=>?_;cbv;refine A8 hE hO 0 rfl ?_;cbv;cases h;exact hK _ _ _ hO (.tup (.cons (.agg (.cons (.lit _ (B4)) (.refl _))) (.refl _)))
 cbv;refine E9 hE ?_;cbv;refine B0 hE h (fun _ h=>?_) fun _ h=>?_
 ·cbv;refine A7 hE hO 0 rfl rfl fun H hO=>?_;cbv;refine A8 hE hO 0 rfl ?_;cbv;cases h;exact hK _ _ _ hO (.tup (.cons (.agg (.cons (.lit _ (B4)) (.refl _))) (.refl _)))
 cbv;refine B0 hE h (fun _ h=>?_) fun _ h=>?_
 ·cbv;refine A7 hE hO 0 rfl rfl fun H hO=>?_;cbv;refine A8 hE hO 0 rfl ?_;cbv;cases h;exact hK _ _ _ hO (.tup (.cons (.agg (.cons (.lit _ (B4)) (.refl _))) (.refl _)))
 cbv;refine M9 hE (g:=fun r3=>sr eAF0 r3) h (c101 N ([(⟨⟨#[]⟩,bB⟩:S7)]) (ar .add .i64 aS 1)) (.cons (.lit _ (E3 ((eAH0 (⟨⟨#[]⟩,bB⟩:S7)).symm) (B4))) (.refl _)) fun r3 h=>?_;cbv;refine M9 hE (g:=fun r4=>.tup [vi r4.1,vi r4.2]) h (c100 N aK r3 bT) (.refl _) fun r4 h=>?_;cbv;refine B0 hE h (fun _ h=>?_) fun _ h=>?_
 ·cbv;refine A7 hE hO 0 rfl rfl fun H hO=>?_;cbv;refine A8 hE hO 0 rfl ?_;cbv;cases h;exact hK _ _ _ hO (.tup (.cons (.agg (.cons (.lit _ (B4)) (.refl _))) (.refl _)))
 cbv;refine B0 hE h (fun _ h=>?_) fun _ h=>?_
 ·cbv;refine A7 hE hO 0 rfl rfl fun H hO=>?_;cbv;refine A8 hE hO 0 rfl ?_;cbv;cases h;exact hK _ _ _ hO (.tup (.cons (.agg (.cons (.lit _ (B4)) (.refl _))) (.refl _)))
 cbv;refine D0 hE eAH3 h fun x5 h=>?_;cbv;refine M9 hE (g:=fun r6=>vi r6) h (c103 N x5) (.refl _) fun r6 h=>?_;cbv;refine M9 hE (g:=fun r7=>.tup [sr eAD7 r7.1,vi r7.2]) h (c102 N N bT r6 aS) (.refl _) fun r7 h=>?_;cbv;refine B0 hE h (fun _ h=>?_) fun _ h=>?_
 ·cbv;refine A7 hE hO 0 rfl rfl fun H hO=>?_;cbv;refine A8 hE hO 0 rfl ?_;cbv;cases h;exact hK _ _ _ hO (.tup (.cons (.agg (.cons (.lit _ (B4)) (.refl _))) (.refl _)))
 cbv;refine E9 hE ?_;cbv;obtain⟨l8,hmk,h⟩:=bind_some h;obtain⟨_,hin,h⟩:=bind_some h;obtain⟨l9,hup,h⟩:=bind_some h;refine Mt hE (f:=eAE3) (z0:=([]:List A2)) (by decide) (.eq (eAE5 []) (.lit _ (B4))) hO (F:=fun l=>some l) (r:=l8) (show(PO (Ar.len aK) (Ar.len aK) ([]:List A2)).bind (fun l=>some l)=some l8 by rw[hmk];rfl) fun l8' q8 H hq8 e8 hO=>?_;cases e8;cbv
 have hb:0≤bB∧bB<(l8.length:Nat):=by
  unfold X1 Z9 at hin
  split at hin
  ·rename_i hd;exact Dw hd
  cases hin
 have e9:l9=l8.set bB.toNat r7.1:=by
  unfold Y6 at hup
  cases hx:C6 l8 bB with
  |none=>rw[hx]at hup;cases hup
  |some y=>rw[hx]at hup;cases hup;rfl
 refine Ax7 hE (f:=eAE3) hO hq8 0 rfl hb ?_;cbv;refine Ag8 hE (f:=eAE3) (tz:=1) (x':=r7.1) (fun x=>⟨sr eAD7 r7.1,.refl _,rfl,rfl,by rw[eAE5,eAE5];rfl⟩) (by decide) hO hq8 0 rfl hb fun H hO=>?_
 rw[←e9]at hO
 have hq9:Z0 q8 (Ar.len l9):=by rw[e9,Ar.len_eq,List.length_set,←Ar.len_eq];exact hq8
 cbv;refine A7 hE hO 1 rfl rfl fun H hO=>?_;cbv;refine A8 hE hO 1 rfl ?_;cbv;cases h;obtain⟨H2,g1,g2⟩:=hO.frzG (f:=eAE3) 0 rfl hq9;exact hG _ _ _ _ g1.agg1.tup2 g2 (.refl _)
def cf16:Cf:=⟨[4,10],[],[(77,23)],[],[(90,2000010)],[]⟩
def c16 (N aK aA r) (h:Cx N aK aA=some r):C7 prog 16 [sr eAF4 aK,(E5 aA)] (.tup [(F2 r.1),vi r.2]):=by
 unfold Cx at h
 refine P6 cf16 func16 call16 ntmps16 ?_;intro E H0 K hE hK hO;cbv;refine D8 hE hO fun b1 H hO=>?_;cbv;refine A9 hE h (c51 N aK) (.refl _) fun r2 h=>?_;cbv;refine B0 hE h (fun _ h=>?_) fun _ h=>?_
 ·cbv;refine A7 hE hO 0 rfl rfl fun H hO=>?_;cbv;refine A8 hE hO 0 rfl ?_;cbv;cases h;exact hK hO (.tup (.cons (.agg (.cons (.refl _) (.cons (.lit _ (B4)) (.cons (.lit _ (B4)) (.refl _))))) (.refl _)))
 cbv;refine A9 hE h (c52 N aA) (.refl _) fun r3 h=>?_;cbv;refine B0 hE h (fun _ h=>?_) fun _ h=>?_
 ·cbv;refine A7 hE hO 0 rfl rfl fun H hO=>?_;cbv;refine A8 hE hO 0 rfl ?_;cbv;cases h;exact hK hO (.tup (.cons (.agg (.cons (.refl _) (.cons (.lit _ (B4)) (.cons (.lit _ (B4)) (.refl _))))) (.refl _)))
 cbv;refine A9 hE h (c53 N N aA) (.refl _) fun r4 h=>?_;cbv;refine B0 hE h (fun _ h=>?_) fun _ h=>?_
 ·cbv;refine A7 hE hO 0 rfl rfl fun H hO=>?_;cbv;refine A8 hE hO 0 rfl ?_;cbv;cases h;exact hK hO (.tup (.cons (.agg (.cons (.refl _) (.cons (.lit _ (B4)) (.cons (.lit _ (B4)) (.refl _))))) (.refl _)))
 cbv;refine E9 hE ?_;cbv;refine B0 hE h (fun _ h=>?_) fun _ h=>?_
 ·cbv;refine A7 hE hO 0 rfl rfl fun H hO=>?_;cbv;refine A8 hE hO 0 rfl ?_;cbv;cases h;exact hK hO (.tup (.cons (.agg (.cons (.refl _) (.cons (.lit _ (B4)) (.cons (.lit _ (B4)) (.refl _))))) (.refl _)))
 cbv;refine E9 hE ?_;cbv;refine Mt hE (f:=V.bool) (by decide) (z0:=(false:Bool)) ((.refl _)) hO h fun l6 q5 H hq5 h hO=>?_;cbv;refine D8 hE hO fun b7 H hO=>?_;cbv;refine A7 hE hO 0 rfl rfl fun H hO=>?_;cbv;refine A8 hE hO 0 rfl ?_;cbv;refine N9 hE hO hq5 1 rfl h fun h=>?_;cbv;refine Q8 hE (f:=V.bool) (esz:=1) (tz:=1) (off:=0) (u:=(fun x8:Bool=>true)) (fun _=>⟨.bool true,.refl _,rfl,rfl,rfl⟩) (by decide) hO hq5 1 rfl h fun l9 H hq5 h hO=>?_;cbv;refine E9 hE ?_;cbv;replace hO:=hO.cast (L':=[cb b7 [vi (Ar.len aK),.own q5.id q5.lo q5.n,.sl (lst eAD6 ([])) .nil],ob q5 1 V.bool l9,cb b1 [vi 0,.sl [] .nil,.sl [] .nil]]) (by simp only[ob,cb,sr,←B4]<;>rfl);replace hO:=hO.tl0 (t:=.nil) rfl;obtain⟨s12,hx,h⟩:=bind_some h;refine H8 cf16 hE J9 (γ:=D2) (fun s10 g=>[(0,.v (sr eAF4 aK)),(4,.v (.ref b1 0)),fi 9 (Ar.len r3.1.dD),(10,.v (.ref b7 0)),(53,.v (sr eAE0 r3.1.dE)),fi 54 (Ar.len r3.1.dE),fi 55 s10.1]) (fun s10 g H1=>G3 g∧B6 Eq H0 [.tl g,cb b7 [vi s10.2.cV,.own q5.id q5.lo q5.n,.sl (lst eAD6 s10.2.cU) g],ob q5 1 V.bool l9,cb b1 [vi 0,.sl [] .nil,.sl [] .nil]] H1) (fun x e l H1=>match(generalizing:=false) x with| .inl y=>∃u1:D2,G3 u1∧e= .exit 0∧l=[(4,.v (.ref b1 0)),(10,.v (.ref b7 0))]∧B6 Eq H0 [.tl u1,cb b7 [vi y.cV,.own q5.id q5.lo q5.n,.sl (lst eAD6 y.cU) u1],ob q5 1 V.bool l9,cb b1 [vi 0,.sl [] .nil,.sl [] .nil]] H1| .inr y=>∃u1:D2,G3 u1∧e= .ret∧l=[(4,.v (.ref b1 0)),fi 5 y.1]∧B6 Eq H0 [.tl u1,cb b7 [vi y.2.cV,.own q5.id q5.lo q5.n,.sl (lst eAD6 y.2.cU) u1],ob q5 1 V.bool l9,cb b1 [vi 0,.sl [] .nil,.sl [] .nil]] H1) (by kernel_rfl) ?_ .nil hx ?_ ?_ ?_
 ·rintro s10 t11 H o ⟨ht11,hO⟩ h;clear hx;cbv;refine B0 hE h (fun _ h=>?_) fun _ h=>?_
  ·cbv;refine D0 hE eAF8 h fun x13 h=>?_;cbv;refine A9 hE h (c54 N aK x13.Typ x13.cY x13.Var) (.refl _) fun r14 h=>?_;cbv;refine B0 hE h (fun _ h=>?_) fun _ h=>?_
   ·cbv;refine A7 hE hO 3 rfl rfl fun H hO=>?_;cbv;cases h;exact⟨_,_,rfl,⟨t11,ht11,rfl,rfl,hO⟩,.e2 .z,rfl⟩
   cbv;obtain⟨s15,hx,h⟩:=bind_some h;refine O1 cf16 hE J9 (fun e l H1=>e= .normal∧l=[(0,.v (sr eAF4 aK)),(4,.v (.ref b1 0)),fi 9 (Ar.len r3.1.dD),(10,.v (.ref b7 0)),(12,.v (.eref (BY x13) 0)),(13,.v (.eref (L3 r14.1) 0)),fi 15 s15,(53,.v (sr eAE0 r3.1.dE)),fi 54 (Ar.len r3.1.dE),fi 55 s10.1]∧B6 Eq H0 [.tl t11,cb b7 [vi s10.2.cV,.own q5.id q5.lo q5.n,.sl (lst eAD6 s10.2.cU) t11],ob q5 1 V.bool l9,cb b1 [vi 0,.sl [] .nil,.sl [] .nil]] H1) (by kernel_rfl) ?_ ?_
   ·clear h;have h:=hx;clear hx;cbv;refine B0 hE h (fun _ h=>?_) fun _ h=>?_
    ·cbv;cases h;exact⟨_,⟨rfl,rfl,hO⟩,.e2 (.e4 (.e4 .z)),rfl⟩
    cbv;cases h;exact⟨_,⟨rfl,rfl,hO⟩,.e2 (.e4 (.e4 .z)),rfl⟩
   clear hx;rintro e l H ⟨rfl,rfl,hO⟩;cbv;refine A8 hE hO 1 rfl ?_;cbv;refine K7 (f:=eAD6) hE O3 (by decide) hO 0 rfl ht11 (l:=s10.2.cU) (m:=[(⟨x13.cW,s15,r14.1⟩:B5)]) (.refl _) (.lstc (.eq (eAD9 (⟨x13.cW,s15,r14.1⟩:B5)) (.refl _)) (.lst0)) h fun l17 t16 H hO ht16 h=>?_;cbv;refine A7 hE hO 1 rfl rfl fun H hO=>?_;cbv;cases h;exact⟨_,t16,rfl,.e rfl (.e2 (.e4 .z)),rfl,ht16,hO⟩
  cbv;cases h;exact⟨_,_,rfl,⟨t11,ht11,rfl,rfl,hO⟩,.e2 .z,rfl⟩
 ·exact .e rfl (.e2 (.e4 .z))
 ·exact⟨trivial,hO⟩
 clear hx
 rcases s12 with y18|y20
 ·rintro e l H ⟨t19,ht19,rfl,rfl,hO⟩;cbv;refine SJ hE hO hq5 1 2 rfl rfl rfl (by decide) fun H hO=>?_;cbv;refine A8 hE hO 1 rfl ?_;cbv;refine A7 hE hO 2 rfl rfl fun H hO=>?_;cbv;refine A8 hE hO 2 rfl ?_;cbv;cases h;exact hK hO (.tup (.cons (.agg (.cons (.refl _) (.cons (.refl _) (.cons (.ro _ _) (.refl _))))) (.refl _)))
 rintro e l H ⟨t21,ht21,rfl,rfl,hO⟩;cbv;refine A8 hE hO 3 rfl ?_;cbv;cases h;exact hK hO (.tup (.cons (.agg (.cons (.refl _) (.cons (.lit _ (B4)) (.cons (.lit _ (B4)) (.refl _))))) (.refl _)))
def cf112:Cf:=⟨[],[(6,8)],[],[],[],[]⟩
def c112 (N aC aD r) (h:GR N aC aD=some r):C7 prog 112 [sr eAD7 aC,sr eAD7 aD] (.bool r):=by
 unfold GR at h
 refine P6 cf112 func112 call112 ntmps112 ?_;intro E H0 K hE hK hO;cbv;refine E9 hE ?_;cbv;refine E9 hE ?_;cbv;refine B0 hE h (fun _ h=>?_) fun _ h=>?_
 ·cbv;cases h;exact hK hO (.refl _)
 cbv;obtain⟨s2,hx,h⟩:=bind_some h;refine K1 cf112 hE J9 (fun s1=>[(0,.v (sr eAD7 aC)),(1,.v (sr eAD7 aD)),fi 5 s1]) (fun s1 H1=>B6 Eq H0 [] H1) (fun x e l H1=>match(generalizing:=false) x with| .inl y=>e= .exit 0∧l=[]∧B6 Eq H0 [] H1| .inr y=>e= .ret∧l=[(4,.b false)]∧B6 Eq H0 [] H1) (by kernel_rfl) ?_ hx ?_ hO ?_
 ·intro s1 H o hO h;clear hx;cbv;refine E9 hE ?_;cbv;refine B0 hE h (fun _ h=>?_) fun _ h=>?_
  ·cbv;refine D0 hE eAE2 h fun x3 h=>?_;cbv;refine D0 hE eAE2 h fun x4 h=>?_;cbv;refine B0 hE h (fun _ h=>?_) fun _ h=>?_
   ·cbv;cases h;exact⟨_,_,rfl,⟨rfl,rfl,hO⟩,.b rfl (.z),rfl⟩
   cbv;cases h;exact⟨_,rfl,.e rfl (.e2 .z),rfl,hO⟩
  cbv;cases h;exact⟨_,_,rfl,⟨rfl,rfl,hO⟩,.z,rfl⟩
 ·exact .e rfl (.e2 .z)
 clear hx
 rcases s2 with y5|y6
 ·rintro e l H ⟨rfl,rfl,hO⟩;cbv;cases h;exact hK hO (.refl _)
 rintro e l H ⟨rfl,rfl,hO⟩;cbv;cases h;exact hK hO (.refl _)
def cf59:Cf:=⟨[],[(6,10)],[],[],[],[]⟩
def c59 (N aA aR r) (h:GQ N aA aR=some r):C7 prog 59 [(F3 aA),(F3 aR)] (.bool r):=by
 unfold GQ at h
 refine P6 cf59 func59 call59 ntmps59 ?_;intro E H0 K hE hK hO;cbv;refine E9 hE ?_;cbv;refine E9 hE ?_;cbv;refine B0 hE h (fun _ h=>?_) fun _ h=>?_
 ·cbv;cases h;exact hK hO (.refl _)
 cbv;obtain⟨s2,hx,h⟩:=bind_some h;refine K1 cf59 hE J9 (fun s1=>[(2,.v (.eref (L3 aA) 0)),(3,.v (.eref (L3 aR) 0)),fi 5 s1]) (fun s1 H1=>B6 Eq H0 [] H1) (fun x e l H1=>match(generalizing:=false) x with| .inl y=>e= .exit 0∧l=[]∧B6 Eq H0 [] H1| .inr y=>e= .ret∧l=[(4,.b false)]∧B6 Eq H0 [] H1) (by kernel_rfl) ?_ hx ?_ hO ?_
 ·intro s1 H o hO h;clear hx;cbv;refine E9 hE ?_;cbv;refine B0 hE h (fun _ h=>?_) fun _ h=>?_
  ·cbv;refine D0 hE eAE5 h fun x3 h=>?_;cbv;refine D0 hE eAE5 h fun x4 h=>?_;cbv;refine A9 hE h (c112 N x3 x4) (.refl _) fun r5 h=>?_;cbv;refine B0 hE h (fun _ h=>?_) fun _ h=>?_
   ·cbv;cases h;exact⟨_,_,rfl,⟨rfl,rfl,hO⟩,.b rfl (.z),rfl⟩
   cbv;cases h;exact⟨_,rfl,.e rfl (.e2 .z),rfl,hO⟩
  cbv;cases h;exact⟨_,_,rfl,⟨rfl,rfl,hO⟩,.z,rfl⟩
 ·exact .e rfl (.e2 .z)
 clear hx
 rcases s2 with y6|y7
 ·rintro e l H ⟨rfl,rfl,hO⟩;cbv;cases h;exact hK hO (.refl _)
 rintro e l H ⟨rfl,rfl,hO⟩;cbv;cases h;exact hK hO (.refl _)
def cf18:Cf:=⟨[],[(6,10),(11,14)],[],[],[],[]⟩
def c18 (N aC aD r) (h:W4 N aC aD=some r):C7 prog 18 [(F2 aC),(F2 aD)] (.bool r):=by
 unfold W4 at h
 refine P6 cf18 func18 call18 ntmps18 ?_;intro E H0 K hE hK hO;cbv;refine E9 hE ?_;cbv;refine E9 hE ?_;cbv;refine E9 hE ?_;cbv;refine E9 hE ?_;cbv;refine B0 hE h (fun _ h=>?_) fun _ h=>?_
 ·cbv;cases h;exact hK hO (.refl _)
 cbv;obtain⟨s2,hx,h⟩:=bind_some h;refine K1 cf18 hE J9 (fun s1=>[(2,.v (.eref (B8 aC) 0)),(3,.v (.eref (B8 aD) 0)),fi 5 s1]) (fun s1 H1=>B6 Eq H0 [] H1) (fun x e l H1=>match(generalizing:=false) x with| .inl y=>e= .exit 0∧l=[(2,.v (.eref (B8 aC) 0)),(3,.v (.eref (B8 aD) 0))]∧B6 Eq H0 [] H1| .inr y=>e= .ret∧l=[(4,.b false)]∧B6 Eq H0 [] H1) (by kernel_rfl) ?_ hx ?_ hO ?_
 ·intro s1 H o hO h;clear hx;cbv;refine E9 hE ?_;cbv;refine B0 hE h (fun _ h=>?_) fun _ h=>?_
  ·cbv;refine D0 hE (fun _=>rfl) h fun x3 h=>?_;cbv;refine D0 hE (fun _=>rfl) h fun x4 h=>?_;cbv;refine B0 hE h (fun _ h=>?_) fun _ h=>?_
   ·cbv;cases h;exact⟨_,_,rfl,⟨rfl,rfl,hO⟩,.b rfl (.z),rfl⟩
   cbv;cases h;exact⟨_,rfl,.e rfl (.e2 .z),rfl,hO⟩
  cbv;cases h;exact⟨_,_,rfl,⟨rfl,rfl,hO⟩,.e2 .z,rfl⟩
 ·exact .e rfl (.e2 .z)
 clear hx
 rcases s2 with y5|y13
 ·rintro e l H ⟨rfl,rfl,hO⟩;cbv;obtain⟨s7,hx,h⟩:=bind_some h;refine K1 cf18 hE J9 (fun s6=>[(2,.v (.eref (B8 aC) 0)),(3,.v (.eref (B8 aD) 0)),fi 6 s6]) (fun s6 H1=>B6 Eq H0 [] H1) (fun x e l H1=>match(generalizing:=false) x with| .inl y=>e= .exit 2∧l=[]∧B6 Eq H0 [] H1| .inr y=>e= .ret∧l=[(4,.b false)]∧B6 Eq H0 [] H1) (by kernel_rfl) ?_ hx ?_ hO ?_
  ·intro s6 H o hO h;clear hx;cbv;refine E9 hE ?_;cbv;refine B0 hE h (fun _ h=>?_) fun _ h=>?_
   ·cbv;refine D0 hE eAD9 h fun x8 h=>?_;cbv;refine D0 hE eAD9 h fun x9 h=>?_;cbv;refine B0 hE h (fun _ h=>?_) fun _ h=>?_
    ·cbv;cases h;exact⟨_,_,rfl,⟨rfl,rfl,hO⟩,.b rfl (.z),rfl⟩
    cbv;refine A9 hE h (c59 N x8.On x9.On) (.refl _) fun r10 h=>?_;cbv;refine B0 hE h (fun _ h=>?_) fun _ h=>?_
    ·cbv;cases h;exact⟨_,_,rfl,⟨rfl,rfl,hO⟩,.b rfl (.z),rfl⟩
    cbv;cases h;exact⟨_,rfl,.e rfl (.e2 .z),rfl,hO⟩
   cbv;cases h;exact⟨_,_,rfl,⟨rfl,rfl,hO⟩,.z,rfl⟩
  ·exact .e rfl (.e2 .z)
  clear hx
  rcases s7 with y11|y12
  ·rintro e l H ⟨rfl,rfl,hO⟩;cbv;cases h;exact hK hO (.refl _)
  rintro e l H ⟨rfl,rfl,hO⟩;cbv;cases h;exact hK hO (.refl _)
 rintro e l H ⟨rfl,rfl,hO⟩;cbv;cases h;exact hK hO (.refl _)
def c158 (N aG r) (h:BD N aG=some r):It prog 158 (fun yv=>[yv,.eref (L3 aG) 0]) (List.map (fun(x:(Int×(List A2)))=>[vi x.1,sr eAD7 x.2]) r) rbN:=by
 unfold BD at h
 obtain⟨⟨w0,u0⟩,h1,hr⟩:=bind_some h;clear h;have hr:=I9 hr;subst hr;have h:=h1;clear h1;refine T3 cf0 J9 func158 (by rfl) (by kernel_rfl) call158 ntmps158 (by rfl) (fun _=>rfl) ?_;intro yv I D hI hD hy tl F E H K hE hO hK hKD
 have hO:B6 (I (List.map (fun(x:(Int×(List A2)))=>[vi x.1,sr eAD7 x.2]) (w0++[])++tl)) F [] H:=by rw[G9];exact hO
 cbv;refine E9 hE ?_;cbv;obtain⟨w2,w3,s6,hx,h1,he⟩:=R7 h;clear h;have h:=h1;clear h1
 rw[he,F6]at hO
 clear he;refine KX cf0 hE J9 (γ:=Unit) (fun s1 g=>[(0,.v (yv)),(6,.v (sr eAE3 aG.cX)),fi 7 (Ar.len aG.cX),fi 8 s1]) (fun s1 g w H1=>B6 (I (List.map (fun(x:(Int×(List A2)))=>[vi x.1,sr eAD7 x.2]) w++tl)) F [] H1) (fun x e l w H1=>e= .exit 0∧l=[]∧B6 (I (List.map (fun(x:(Int×(List A2)))=>[vi x.1,sr eAD7 x.2]) w++tl)) F [] H1) (fun e l H1=>(e= .ret∧l=[]∧B6 D F [] H1)) (by kernel_rfl) ?_ (w':=w3++[]) () hx ?_ ?_ ?_ ?_
 ·rintro s1 _ w4 w5 H o hO h;clear hx
  skip
  cbv;refine B0 hE h (fun _ h=>?_) fun _ h=>?_
  ·cbv;refine D0 hE eAE5 h fun x7 h=>?_;cbv;refine E9 hE ?_;cbv;refine B0 hE h (fun _ h=>?_) fun _ h=>?_
   ·cbv;obtain⟨w8,h1,he⟩:=Y0 h;clear h;have h:=h1;clear h1
    rw[he,F6]at hO
    clear he;have hO:B6 (I ([vi s1,sr eAD7 x7]::(List.map (fun(x:(Int×(List A2)))=>[vi x.1,sr eAD7 x.2]) (w8++w5)++tl))) F [] _:=hO;refine Dt hE hI hD hy hO (.refl _) (fun H hO=>?_) (fun H hO=>?_)
    ·cbv;refine Ko hE (nt_eq _) ?_;cbv;obtain⟨hw,rfl⟩:=F9 h
     rw[←hw]at hO
     exact⟨_,(),rfl,.e4 .z,rfl,hO⟩
    clear h;cbv;refine Kn hE (nt_eq _) ?_;cbv;exact .inr ⟨_,⟨rfl,rfl,hO⟩,.z,rfl⟩
   cbv;obtain⟨hw,rfl⟩:=F9 h
   rw[←hw]at hO
   exact⟨_,(),rfl,.e4 .z,rfl,hO⟩
  cbv;obtain⟨hw,rfl⟩:=F9 h
  rw[←hw]at hO
  exact .inl ⟨_,_,rfl,⟨rfl,rfl,hO⟩,.z,rfl⟩
 ·exact .e4 .z
 ·exact hO
 ·rintro e l H ⟨rfl,rfl,hO⟩;clear hx;cbv;obtain⟨hw,_⟩:=F9 h
  rw[←hw]at hO
  exact hK _ _ _ hO trivial
 rintro e l H hX;obtain⟨rfl,rfl,hO⟩:=hX;clear h;cbv;exact hKD _ _ _ hO trivial
def c113 (N aA r)(h:Af N aA=some r):EP prog 113 [(F3 aA)] (fun v=>Gu prog v (r.map fun(x:(Int×(List A2)))=>[vi x.1,sr eAD7 x.2])):=by
 unfold Af at h
 refine X0 cf0 J9 func113 (by rfl) (by kernel_rfl) call113 ntmps113 (by rfl) (by rfl) ?_;intro E H0 K hE hK;have hO:B6 Eq H0 [] H0:=.start C5 rfl;cbv;exact hK _ _ _ hO (W8 call158 (c158 N aA r h))
def cf117:Cf:=⟨[2,3],[],[],[],[],[]⟩
def c117 (N aA r)(h:Dr N aA=some r):C7 prog 117 [(F3 aA)] (.tup [.bool r.1,vi r.2]):=by
 unfold Dr at h
 refine P6 cf117 func117 call117 ntmps117 ?_;intro E H0 K hE hK hO;cbv;refine D8 hE hO fun b1 H hO=>?_;cbv;refine D8 hE hO fun b2 H hO=>?_;cbv;refine A9 hE h (c90 N ([aA])) (.cons (.lit _ (E3 ((eAG0 aA).symm) (B4))) (.refl _)) fun r3 h=>?_;cbv;refine B0 hE h (fun _ h=>?_) fun _ h=>?_
 ·cbv;refine A7 hE hO 1 rfl rfl fun H hO=>?_;cbv;refine A7 hE hO 0 rfl rfl fun H hO=>?_;cbv;refine A8 hE hO 1 rfl ?_;cbv;refine A8 hE hO 0 rfl ?_;cbv;cases h;exact hK hO (.refl _)
 cbv;refine T9 hE h (c113 N aA) (.refl _) fun r4 v5 hv5 h=>?_;cbv;obtain⟨o10,hx,h⟩:=bind_some h;refine Cc cf117 hE J9 (ι:=Unit) (enc:=fun(x:(Int×(List A2)))=>[vi x.1,sr eAD7 x.2]) (fun(s7:Unit) F H=>B6 Eq F [cb b2 [vi 0],cb b1 [.bool false]] H) (fun(r:Unit) e F H=>e= .ret∧B6 Eq F [cb b2 [vi 0],cb b1 [.bool false]] H) (fun i s7 y6=>[(2,.v (.ref b1 0)),(3,.v (.ref b2 0))]) (fun i s7 y6 F H=>B6 Eq F [cb b2 [vi 0],cb b1 [.bool false]] H) (fun _=>B6.stable C5 _) (fun _ _=>D9.con (B6.stable C5 _)) (fun _ _ _=>B6.stable C5 _) hv5 hx (hO) (by decide) (fun _=>rfl) (by kernel_rfl) (by kernel_rfl) ?_ ?_ ?_ ?_
 ·rintro E i9 y6 s7 F8 H hE hO;clear hx h;cbv;exact⟨(),hO,.e2 .z,rfl⟩
 ·rintro E i9 _ y6 s7 F8 H o hE hF h hO;clear hx;cbv;refine A7 hE hO 1 rfl rfl fun H hO=>?_;cbv;refine A7 hE hO 0 rfl rfl fun H hO=>?_;cbv;cases h;exact⟨_,rfl,rfl,⟨rfl,hO⟩⟩
 ·rintro d11 s13 H rfl hd hO;have hO:B6 Eq H0 [cb b2 [vi 0],cb b1 [.bool false],.blk d11 DB] H:=B6.dblk hd hO;clear hd;clear hx;cbv;refine A7 hE hO 1 rfl rfl fun H hO=>?_;cbv;refine A7 hE hO 0 rfl rfl fun H hO=>?_;cbv;refine Ez hE hO 2 rfl fun H hO=>?_;cbv;refine A8 hE hO 1 rfl ?_;cbv;refine A8 hE hO 0 rfl ?_;cbv;cases h;exact hK hO (.refl _)
 rintro d11 y14 e H rfl hd hX;clear hx
 rcases hX with⟨rfl,hO⟩
 have hO:B6 Eq H0 [cb b2 [vi 0],cb b1 [.bool false],.blk d11 DB] H:=B6.dblk hd hO;clear hd;cbv;refine Ez hE hO 2 rfl fun H hO=>?_;cbv;refine A8 hE hO 1 rfl ?_;cbv;refine A8 hE hO 0 rfl ?_;cbv;cases h;exact hK hO (.refl _)
def c70 (N aA r)(h:O5 N aA=some r):C7 prog 70 [(F3 aA)] (.bool r):=by
 unfold O5 at h
 refine P6 cf0 func70 call70 ntmps70 ?_;intro E H0 K hE hK hO;cbv;refine A9 hE h (c117 N aA) (.refl _) fun r1 h=>?_;cbv;cases h;exact hK hO (.refl _)
def cf60:Cf:=⟨[6000004],[(16,5),(17,9)],[],[],[],[]⟩
def c60 (N aB r) (h:R9 N aB=some r):Tl prog 60 [(F2 aB)] (.int .i64) (V.int .i64) (V.int .i64) r:=by
 unfold R9 at h
 refine Qu (T:=TT) cf60 J9 func60 (by rfl) (by kernel_rfl) call60 ntmps60 (by rfl) (by rfl) ?_;intro E H0 K hE hK;have hO:B6 Eq H0 [] H0:=.start C5 rfl;cbv;refine Lo hE (.int .i64) (V.int .i64) (V.int .i64) hO fun m1 o2 H ho2 hO=>?_;cbv;refine LL hE (f:=(V.int .i64)) hO fun q3 H hq3 hO=>?_;cbv;refine E9 hE ?_;cbv;obtain⟨s7,hx,h⟩:=bind_some h;refine H8 cf60 hE J9 (γ:=OG×Obj) (fun s4 g=>[(1,.v (.eref (B8 aB) 0)),(3,.v (.map m1)),(4,.v (.own g.1.id g.1.lo g.1.n)),(13,.v (sr V.bool aB.cT)),fi 14 (Ar.len aB.cT),fi 15 s4.1]) (fun s4 g H1=>Z0 g.1 (Ar.len s4.2.1)∧Da (.int .i64) (V.int .i64) (V.int .i64) g.2 s4.2.2∧B6 Eq H0 [.blk g.1.id (.arr 1 (g.1.pre++lst (V.int .i64) s4.2.1++g.1.rest)),.blk m1 (.obj g.2)] H1) (fun x e l H1=>∃u1:OG,Z0 u1 (Ar.len x.1)∧∃u2:Obj,Da (.int .i64) (V.int .i64) (V.int .i64) u2 x.2∧e= .exit 0∧l=[(1,.v (.eref (B8 aB) 0)),(3,.v (.map m1)),(4,.v (.own u1.id u1.lo u1.n))]∧B6 Eq H0 [ob u1 1 (V.int .i64) x.1,.blk m1 (.obj u2)] H1) (by kernel_rfl) ?_ (⟨q3,o2⟩) hx ?_ ?_ ?_
 ·rintro s4 ⟨q5,q6⟩ H o ⟨hq5,hq6,hO⟩ h;clear hx;cbv;refine B0 hE h (fun _ h=>?_) fun _ h=>?_
  ·cbv;refine D0 hE (fun _=>rfl) h fun x8 h=>?_;cbv;refine B0 hE h (fun _ h=>?_) fun _ h=>?_
   ·cbv;refine DF hE (kt:=3) (et:=3) (by kernel_rfl) (by kernel_rfl) (S4 .i64) (GW .i64) hO hq6 1 rfl h fun l10 o9 H ho9 h hO=>?_;cbv;refine Ey (f:=(V.int .i64)) hE (fun _=>rfl) (by decide) hO hq5 0 rfl (m:=[s4.1]) (Cz (f:=(V.int .i64)) hE (fun _=>rfl) (.lstc (.refl _) (.lst0))) h fun l12 q11 H hq11 hO h=>?_;cbv;cases h;exact⟨_,⟨q11,o9⟩,rfl,.e2 (.e4 .z),rfl,hq11,ho9,hO⟩
   cbv;cases h;exact⟨_,⟨q5,q6⟩,rfl,.e2 (.e4 .z),rfl,hq5,hq6,hO⟩
  cbv;cases h;exact⟨_,_,rfl,⟨q5,hq5,q6,hq6,rfl,rfl,hO⟩,.e rfl (.e2 .z),rfl⟩
 ·exact .e2 (.e4 .z)
 ·exact⟨hq3,ho2,hO⟩
 clear hx;rintro e l H ⟨q13,hq13,q14,hq14,rfl,rfl,hO⟩;cbv;obtain⟨s18,hx,h⟩:=bind_some h;refine H8 cf60 hE J9 (γ:=OG×Obj) (fun s15 g=>[(1,.v (.eref (B8 aB) 0)),(3,.v (.map m1)),(4,.v (.own g.1.id g.1.lo g.1.n))]) (fun s15 g H1=>Z0 g.1 (Ar.len s15.1)∧Da (.int .i64) (V.int .i64) (V.int .i64) g.2 s15.2∧B6 Eq H0 [.blk g.1.id (.arr 1 (g.1.pre++lst (V.int .i64) s15.1++g.1.rest)),.blk m1 (.obj g.2)] H1) (fun x e l H1=>∃u1:OG,Z0 u1 (Ar.len x.1)∧∃u2:Obj,Da (.int .i64) (V.int .i64) (V.int .i64) u2 x.2∧e= .exit 2∧l=[(3,.v (.map m1))]∧B6 Eq H0 [ob u1 1 (V.int .i64) x.1,.blk m1 (.obj u2)] H1) (by kernel_rfl) ?_ (⟨q13,q14⟩) hx ?_ ?_ ?_
 ·rintro s15 ⟨q16,q17⟩ H o ⟨hq16,hq17,hO⟩ h;clear hx;cbv;refine Fc hE hq16 ?_;cbv;refine B0 hE h (fun _ h=>?_) fun _ h=>?_
  ·cbv;refine E9 hE ?_;cbv;obtain⟨s22,hx,h⟩:=bind_some h;refine H8 cf60 hE J9 (γ:=OG×Obj) (fun s19 g=>[(1,.v (.eref (B8 aB) 0)),(3,.v (.map m1)),(4,.v (.own g.1.id g.1.lo g.1.n)),(34,.v (sr eAD6 aB.cU)),fi 35 (Ar.len aB.cU),fi 36 s19.1]) (fun s19 g H1=>Z0 g.1 (Ar.len s19.2.1)∧Da (.int .i64) (V.int .i64) (V.int .i64) g.2 s19.2.2∧B6 Eq H0 [.blk g.1.id (.arr 1 (g.1.pre++lst (V.int .i64) s19.2.1++g.1.rest)),.blk m1 (.obj g.2)] H1) (fun x e l H1=>∃u1:OG,Z0 u1 (Ar.len x.1)∧∃u2:Obj,Da (.int .i64) (V.int .i64) (V.int .i64) u2 x.2∧e= .exit 4∧l=[(1,.v (.eref (B8 aB) 0)),(3,.v (.map m1)),(4,.v (.own u1.id u1.lo u1.n))]∧B6 Eq H0 [ob u1 1 (V.int .i64) x.1,.blk m1 (.obj u2)] H1) (by kernel_rfl) ?_ (⟨q16,q17⟩) hx ?_ ?_ ?_
   ·rintro s19 ⟨q20,q21⟩ H o ⟨hq20,hq21,hO⟩ h;clear hx;cbv;refine B0 hE h (fun _ h=>?_) fun _ h=>?_
    ·cbv;refine D0 hE eAD9 h fun x23 h=>?_;cbv;refine KW hE (kt:=3) (et:=3) (by kernel_rfl) (by kernel_rfl) (S4 .i64) (0:Int) (by kernel_rfl) rfl hO hq21 1 rfl h fun r24 h=>?_;cbv;refine N9 hE hO hq20 0 rfl h fun h=>?_;cbv;refine U4 hE (fun _=>rfl) hO hq20 0 rfl h fun x25 h=>?_;cbv;refine B0 hE h (fun _ h=>?_) fun _ h=>?_
     ·cbv;refine A9 hE h (c70 N x23.On) (.refl _) fun r26 h=>?_;cbv;refine B0 hE h (fun _ h=>?_) fun _ h=>?_
      ·cbv;refine N9 hE hO hq20 0 rfl h fun h=>?_;cbv;refine U4 hE (fun _=>rfl) hO hq20 0 rfl h fun x27 h=>?_;cbv;refine Kl hE (kt:=3) (et:=3) (by kernel_rfl) (by kernel_rfl) (S4 .i64) (0:Int) (by kernel_rfl) rfl hO hq21 1 rfl h fun r28 h=>?_;cbv;refine DF hE (kt:=3) (et:=3) (by kernel_rfl) (by kernel_rfl) (S4 .i64) (GW .i64) hO hq21 1 rfl h fun l30 o29 H ho29 h hO=>?_;cbv;refine Ey (f:=(V.int .i64)) hE (fun _=>rfl) (by decide) hO hq20 0 rfl (m:=[x23.cW]) (Cz (f:=(V.int .i64)) hE (fun _=>rfl) (.lstc (.refl _) (.lst0))) h fun l32 q31 H hq31 hO h=>?_;cbv;cases h;exact⟨_,⟨q31,o29⟩,rfl,.e2 (.e4 .z),rfl,hq31,ho29,hO⟩
      cbv;cases h;exact⟨_,⟨q20,q21⟩,rfl,.e2 (.e4 .z),rfl,hq20,hq21,hO⟩
     cbv;cases h;exact⟨_,⟨q20,q21⟩,rfl,.e2 (.e4 .z),rfl,hq20,hq21,hO⟩
    cbv;cases h;exact⟨_,_,rfl,⟨q20,hq20,q21,hq21,rfl,rfl,hO⟩,.e rfl (.e2 .z),rfl⟩
   ·exact .e2 (.e4 .z)
   ·exact⟨hq16,hq17,hO⟩
   clear hx;rintro e l H ⟨q33,hq33,q34,hq34,rfl,rfl,hO⟩;cbv;refine Uv hE hO hq33 0 rfl h fun l36 q35 hq35 hO h=>?_;cbv;cases h;exact⟨_,⟨q35,q34⟩,rfl,.e rfl (.e2 .z),rfl,hq35,hq34,hO⟩
  cbv;cases h;exact⟨_,_,rfl,⟨q16,hq16,q17,hq17,rfl,rfl,hO⟩,.e rfl .z,rfl⟩
 ·exact .e rfl (.e2 .z)
 ·exact⟨hq13,hq14,hO⟩
 clear hx;rintro e l H ⟨q37,hq37,q38,hq38,rfl,rfl,hO⟩;cbv;cases h;exact hK _ _ _ 1 _ hq38 rfl hO
end Go.Ab
