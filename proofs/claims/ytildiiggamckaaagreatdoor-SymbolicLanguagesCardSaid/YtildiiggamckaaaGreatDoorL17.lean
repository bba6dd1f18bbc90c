/- GLSq GLCo8 AbG1 AbI1 AbM1 AbG2 AbG3 GLL1 GLL2 GLL3 GLW1 -/
import Derived.Test.YtildiiggamckaaaGreatDoorL16
import Derived.Deep.Slices
import Derived.Carry
import Derived.Lib.LaidTab
set_option linter.all false
namespace Go.Ab
variable [Ar]
end Go.Ab
namespace Go.Ab
open Go.RowKit Go.Proofs Go.Proofs.Tryz K2
variable [Ar][K2]
set_option maxRecDepth 100000
def cf122 :Cf:=⟨[22],[],[],[],[],[]⟩
theorem c122 (N aA aI r) (h:Y6 N aA aI=some r):Li prog 122 [.sl [] .nil,vi aI] 1 (Ar.lst V.bool r):=by
 unfold Y6 at h
 obtain⟨h1,h2,hr⟩:=HX (f:=V.bool) h;rw[hr];clear hr h;intro H0
 have hneg:∀b,Ar.cmp .lss aI 0=b→b=false:=fun b h=>by rw[Ar.cmp_eq]at h;subst h;simp[EK];omega
 have hsub:Ar.ar .sub .i64 aI (Ar.ar .sub .i64 0 0)=aI:=by rw[Ar.ar_eq,Ar.ar_eq];simp only[arI];rw[show(0:Int) - 0=0 from rfl,wrap_small 0 (by omega) (by omega),Dx];exact wrap_small _ (by omega) (by omega)
 have hgt:∀b,Ar.cmp .gtr (Ar.ar .sub .i64 aI (Ar.ar .sub .i64 0 0)) 0=b→(b=false→aI=0):=fun b h=>by rw[hsub,Ar.cmp_eq]at h;subst h;simp[EK];omega
 have hbn:aI.toNat*1≤140737488355328:=by have:=Hn (a:=aI.toNat) (b:=0) (by_:=1) (by omega) (by decide);simpa using this
 have hl0:(0:Int)=(([]:List V).length:Nat):=rfl;refine BK (T:=TT) cf122 K3 func122 (by rfl) (by kernel_rfl) call122 ntmps122 (by rfl) (by rfl) ?_;intro E K hE hK hN;cbv;refine JN hE (fun hc=>absurd (hneg _ hc) (by decide)) (fun hc=>?_);cbv;refine Na hE hl0 ?_;cbv;refine JN hE (fun hc2=>?_) (fun hc2=>?_)
 ·cbv;refine Kz hE ?_;cbv;refine HU hE aI hsub (.inl rfl) h1 hbn fun t m row j ht hm hrow=>?_;obtain⟨RL,hRL,hR0⟩:∃RL:Int,RL=(row.length:Nat)∧0≤RL:=⟨_,rfl,by omega⟩;cbv;refine Na hE hl0 ?_;cbv;refine T3 hE (C8 _ _ _) hRL 0 0 rfl rfl (N2 _) (N2 _) hR0 fun l' n' q1 q2=>?_;cbv
  have e1:0=l':=by omega
  have e2:0=n':=by omega
  subst e1 e2;exact hK ⟨t,0,0,[],row⟩ [] _ ⟨rfl,rfl⟩ ((B6.start C4 rfl).push ht rfl)
 cbv;exact hN rfl [] H0 (.start C4 rfl)
theorem c79 (N aJ r) (h:N8 N aJ=some r):C5 prog 79 [sr eLB aJ] (sr V.bool r):=by
 unfold N8 at h
 refine T9 (T:=TT) cf0 K3 func79 (by rfl) (by kernel_rfl) call79 ntmps79 (by rfl) (by rfl) ?_;intro E H0 K hE hK hF;have hO:B6 Eq H0 [] H0:=.start C4 rfl;cbv;refine F3 hE ?_;cbv;obtain⟨s2,hx,h⟩:=bind_some h;refine J5 cf0 hE K3 (fun s1=>[(0,.v (sr eLB aJ)),fi 3 s1.1,(9,.v (sr eLB aJ)),fi 10 (Ar.len aJ),fi 11 s1.2]) (fun s1 H1=>B6 Eq H0 [] H1) (fun x e l H1=>e= .exit 0∧l=[(0,.v (sr eLB aJ)),fi 3 x]∧B6 Eq H0 [] H1) (by kernel_rfl) ?_ hx ?_ hO ?_
 ·intro s1 H o hO h;clear hx;cbv;refine B0 hE h (fun _ h=>?_) fun _ h=>?_
  ·cbv;refine D3 hE eAD0 h fun x3 h=>?_;cbv;refine F3 hE ?_;cbv;refine B0 hE h (fun _ h=>?_) fun _ h=>?_
   ·cbv;cases h
   cbv;cases h;exact⟨_,rfl,.e rfl (.e4 .z),rfl,hO⟩
  cbv;cases h;exact⟨_,_,rfl,⟨rfl,rfl,hO⟩,.e2 .z,rfl⟩
 ·exact .e rfl (.e4 .z)
 clear hx;rintro e l H ⟨rfl,rfl,hO⟩;cbv;refine EU hE (f:=V.bool) h (c122 N [] s2) (.cons (.refl _) (.cons (.refl _) .nil)) hO fun l4 q5 H hq5 hO h=>?_;cbv;refine F3 hE ?_;cbv;obtain⟨s8,hx,h⟩:=bind_some h;refine M1 cf0 hE K3 (γ:=OG) (fun s6 g=>[(6,.v (.own g.id g.lo g.n)),(25,.v (sr eLB aJ)),fi 26 (Ar.len aJ),fi 27 s6.1]) (fun s6 g H1=>Al g (Ar.len s6.2)∧B6 Eq H0 [ob g 1 V.bool s6.2] H1) (fun x e l H1=>∃u1:OG,Al u1 (Ar.len x)∧e= .exit 2∧l=[(6,.v (.own u1.id u1.lo u1.n))]∧B6 Eq H0 [ob u1 1 V.bool x] H1) (by kernel_rfl) ?_ q5 hx ?_ ?_ ?_
 ·rintro s6 q7 H o ⟨hq7,hO⟩ h;clear hx;cbv;refine B0 hE h (fun _ h=>?_) fun _ h=>?_
  ·cbv;refine D3 hE eAD0 h fun x9 h=>?_;cbv;refine FI (f:=V.bool) hE (fun _=>rfl) (by decide) hO hq7 0 rfl (m:=x9) (CN (f:=V.bool) hE (fun _=>rfl) (.refl _)) h fun l11 q10 H hq10 hO h=>?_;cbv;cases h;exact⟨_,q10,rfl,.e4 .z,rfl,hq10,hO⟩
  cbv;cases h;exact⟨_,_,rfl,⟨q7,hq7,rfl,rfl,hO⟩,.e rfl .z,rfl⟩
 ·exact .e4 .z
 ·exact⟨hq5,hO⟩
 clear hx;rintro e l H ⟨q12,hq12,rfl,rfl,hO⟩;cbv;cases h;exact hF q12 _ _ 0 _ _ hO rfl (Ah hE hq12) (.refl _)
def cf80 :Cf:=⟨[],[(5,14)],[],[],[],[]⟩
theorem c80 (N aA bL r) (h:M4 N aA bL=some r):C5 prog 80 [(G3 aA),vi bL] (sr eAA5 r):=by
 unfold M4 at h
 refine P3 cf80 func80 call80 ntmps80 ?_;intro E H0 K hE hK hO;cbv;refine F3 hE ?_;cbv;replace hO:=hO.tl0 (t:=.nil) rfl;obtain⟨s3,hx,h⟩:=bind_some h;refine M1 cf80 hE K3 (γ:=E5) (fun s1 g=>[fi 1 bL,(5,.v (.sl (Ar.lst eAA5 s1.1) g)),(9,.v (sr eAA5 aA.cV)),fi 10 (Ar.len aA.cV),fi 11 s1.2]) (fun s1 g H1=>K1 g∧B6 Eq H0 [.tl g] H1) (fun x e l H1=>∃u1:E5,K1 u1∧e= .exit 0∧l=[(5,.v (.sl (Ar.lst eAA5 x) u1))]∧B6 Eq H0 [.tl u1] H1) (by kernel_rfl) ?_ .nil hx ?_ ?_ ?_
 ·rintro s1 t2 H o ⟨ht2,hO⟩ h;clear hx;cbv;refine B0 hE h (fun _ h=>?_) fun _ h=>?_
  ·cbv;refine D3 hE eAB1 h fun x4 h=>?_;cbv;refine M0 hE (g:=fun r5=>(F2 r5)) h (c71 N x4.On) (.refl _) fun r5 h=>?_;cbv;refine T5 (f:=eAA5) hE Ck (by decide) hO 0 rfl ht2 (l:=s1.1) (m:=[(⟨Ar.ar .add .i64 x4.cX bL,Ar.ar .add .i64 x4.To bL,r5⟩:C3)]) (.refl _) (.lstc (.eq (eAB1 (⟨Ar.ar .add .i64 x4.cX bL,Ar.ar .add .i64 x4.To bL,r5⟩:C3)) (.refl _)) (.lst0)) h fun l7 t6 H hO ht6 h=>?_;cbv;cases h;exact⟨_,t6,rfl,.e rfl (.e4 .z),rfl,ht6,hO⟩
  cbv;cases h;exact⟨_,_,rfl,⟨t2,ht2,rfl,rfl,hO⟩,.e rfl .z,rfl⟩
 ·exact .e rfl (.v (.slt _ (.lst0)) (.e rfl (.e rfl (.e rfl (.z)))))
 ·exact⟨trivial,hO⟩
 clear hx;rintro e l H ⟨t8,ht8,rfl,rfl,hO⟩;cbv;cases h;exact hK hO (.ro _ _)
def cf123 :Cf:=⟨[22],[],[],[],[],[]⟩
theorem c123 (N aA aI r) (h:Y7 N aA aI=some r):Li prog 123 [.sl [] .nil,vi aI] 3 (Ar.lst eAA5 r):=by
 unfold Y7 at h
 obtain⟨h1,h2,hr⟩:=HX (f:=eAA5) h;rw[hr];clear hr h;intro H0
 have hneg:∀b,Ar.cmp .lss aI 0=b→b=false:=fun b h=>by rw[Ar.cmp_eq]at h;subst h;simp[EK];omega
 have hsub:Ar.ar .sub .i64 aI (Ar.ar .sub .i64 0 0)=aI:=by rw[Ar.ar_eq,Ar.ar_eq];simp only[arI];rw[show(0:Int) - 0=0 from rfl,wrap_small 0 (by omega) (by omega),Dx];exact wrap_small _ (by omega) (by omega)
 have hgt:∀b,Ar.cmp .gtr (Ar.ar .sub .i64 aI (Ar.ar .sub .i64 0 0)) 0=b→(b=false→aI=0):=fun b h=>by rw[hsub,Ar.cmp_eq]at h;subst h;simp[EK];omega
 have hbn:aI.toNat*40≤140737488355328:=by have:=Hn (a:=aI.toNat) (b:=0) (by_:=40) (by omega) (by decide);simpa using this
 have hl0:(0:Int)=(([]:List V).length:Nat):=rfl;refine BK (T:=TT) cf123 K3 func123 (by rfl) (by kernel_rfl) call123 ntmps123 (by rfl) (by rfl) ?_;intro E K hE hK hN;cbv;refine JN hE (fun hc=>absurd (hneg _ hc) (by decide)) (fun hc=>?_);cbv;refine Na hE hl0 ?_;cbv;refine JN hE (fun hc2=>?_) (fun hc2=>?_)
 ·cbv;refine Kz hE ?_;cbv;refine HU hE aI hsub (.inl rfl) h1 hbn fun t m row j ht hm hrow=>?_;obtain⟨RL,hRL,hR0⟩:∃RL:Int,RL=(row.length:Nat)∧0≤RL:=⟨_,rfl,by omega⟩;cbv;refine Na hE hl0 ?_;cbv;refine T3 hE (C8 _ _ _) hRL 0 0 rfl rfl (N2 _) (N2 _) hR0 fun l' n' q1 q2=>?_;cbv
  have e1:0=l':=by omega
  have e2:0=n':=by omega
  subst e1 e2;exact hK ⟨t,0,0,[],row⟩ [] _ ⟨rfl,rfl⟩ ((B6.start C4 rfl).push ht rfl)
 cbv;exact hN rfl [] H0 (.start C4 rfl)
theorem c81 (N aJ r) (h:N9 N aJ=some r):C5 prog 81 [sr eAC5 aJ] (sr eAA5 r):=by
 unfold N9 at h
 refine T9 (T:=TT) cf0 K3 func81 (by rfl) (by kernel_rfl) call81 ntmps81 (by rfl) (by rfl) ?_;intro E H0 K hE hK hF;have hO:B6 Eq H0 [] H0:=.start C4 rfl;cbv;refine F3 hE ?_;cbv;obtain⟨s2,hx,h⟩:=bind_some h;refine J5 cf0 hE K3 (fun s1=>[(0,.v (sr eAC5 aJ)),fi 3 s1.1,(9,.v (sr eAC5 aJ)),fi 10 (Ar.len aJ),fi 11 s1.2]) (fun s1 H1=>B6 Eq H0 [] H1) (fun x e l H1=>e= .exit 0∧l=[(0,.v (sr eAC5 aJ)),fi 3 x]∧B6 Eq H0 [] H1) (by kernel_rfl) ?_ hx ?_ hO ?_
 ·intro s1 H o hO h;clear hx;cbv;refine B0 hE h (fun _ h=>?_) fun _ h=>?_
  ·cbv;refine D3 hE eAC1 h fun x3 h=>?_;cbv;refine F3 hE ?_;cbv;refine B0 hE h (fun _ h=>?_) fun _ h=>?_
   ·cbv;cases h
   cbv;cases h;exact⟨_,rfl,.e rfl (.e4 .z),rfl,hO⟩
  cbv;cases h;exact⟨_,_,rfl,⟨rfl,rfl,hO⟩,.e2 .z,rfl⟩
 ·exact .e rfl (.e4 .z)
 clear hx;rintro e l H ⟨rfl,rfl,hO⟩;cbv;refine EU hE (f:=eAA5) h (c123 N [] s2) (.cons (.refl _) (.cons (.refl _) .nil)) hO fun l4 q5 H hq5 hO h=>?_;cbv;refine F3 hE ?_;cbv;obtain⟨s8,hx,h⟩:=bind_some h;refine M1 cf0 hE K3 (γ:=OG) (fun s6 g=>[(6,.v (.own g.id g.lo g.n)),(25,.v (sr eAC5 aJ)),fi 26 (Ar.len aJ),fi 27 s6.1]) (fun s6 g H1=>Al g (Ar.len s6.2)∧B6 Eq H0 [ob g 3 eAA5 s6.2] H1) (fun x e l H1=>∃u1:OG,Al u1 (Ar.len x)∧e= .exit 2∧l=[(6,.v (.own u1.id u1.lo u1.n))]∧B6 Eq H0 [ob u1 3 eAA5 x] H1) (by kernel_rfl) ?_ q5 hx ?_ ?_ ?_
 ·rintro s6 q7 H o ⟨hq7,hO⟩ h;clear hx;cbv;refine B0 hE h (fun _ h=>?_) fun _ h=>?_
  ·cbv;refine D3 hE eAC1 h fun x9 h=>?_;cbv;refine FI (f:=eAA5) hE Ck (by decide) hO hq7 0 rfl (m:=x9) (CN (f:=eAA5) hE Ck (.refl _)) h fun l11 q10 H hq10 hO h=>?_;cbv;cases h;exact⟨_,q10,rfl,.e4 .z,rfl,hq10,hO⟩
  cbv;cases h;exact⟨_,_,rfl,⟨q7,hq7,rfl,rfl,hO⟩,.e rfl .z,rfl⟩
 ·exact .e4 .z
 ·exact⟨hq5,hO⟩
 clear hx;rintro e l H ⟨q12,hq12,rfl,rfl,hO⟩;cbv;cases h;exact hF q12 _ _ 0 _ _ hO rfl (Ah hE hq12) (.refl _)
def cf27 :Cf:=⟨[4,7],[(4,22),(5,7),(14,9)],[],[],[],[]⟩
theorem c27 (N aC aD r) (h:Cl N aC aD=some r):C5 prog 27 [(G3 aC),(G3 aD)] (.tup [(G3 r.1),vi r.2]):=by
 unfold Cl at h
 refine P3 cf27 func27 call27 ntmps27 ?_;intro E H0 K hE hK hO;cbv;refine E6 hE hO fun b1 H hO=>?_;cbv;refine A8 hE h (c72 N aC aD) (.refl _) fun r2 h=>?_;cbv;refine B0 hE h (fun _ h=>?_) fun _ h=>?_
 ·cbv;refine A7 hE hO 0 rfl rfl fun H hO=>?_;cbv;refine B1 hE hO 0 rfl ?_;cbv;cases h;exact hK hO (.tup (.cons (.agg (.cons (.refl _) (.cons (.lit _ (B4)) (.cons (.lit _ (B4)) (.refl _))))) (.refl _)))
 cbv;refine D3 hE (fun _=>rfl) h fun x3 h=>?_;cbv;refine B0 hE h (fun _ h=>?_) fun _ h=>?_
 ·cbv;refine M0 hE (g:=fun r4=>sr V.bool r4) h (c79 N ([[true],aC.cU,aD.cU])) (.cons (.sl _ (.lstc (.eq (eAD0 ([true])) (.lit _ (D4 (rfl) (B4)))) (.lstc (.eq (eAD0 aC.cU) (.refl _)) (.lstc (.eq (eAD0 aD.cU) (.refl _)) (.lst0))))) (.refl _)) fun r4 h=>?_;cbv;refine E6 hE hO fun b5 H hO=>?_;cbv;refine M0 hE (g:=fun r6=>sr eAA5 r6) h (c80 N aC 1) (.refl _) fun r6 h=>?_;cbv;refine F3 hE ?_;cbv;refine A8 hE h (c80 N aD (Ar.ar .add .i64 1 (Ar.len aC.cU))) (.refl _) fun r7 h=>?_;cbv;refine Aa6 hE (n:=2) rfl ?_;cbv;replace hO:=hO.cast (L':=[cb b5 [vi aC.cW,sr V.bool r4,.sl (Ar.lst eAA5 ([])) .nil],cb b1 [vi 0,.sl [] .nil,.sl [] .nil]]) (by simp only[ob,cb,sr,←B4]<;>rfl);replace hO:=hO.tl0 (t:=.nil) rfl;obtain⟨s10,hx,h⟩:=bind_some h;refine M1 cf27 hE K3 (γ:=E5) (fun s8 g=>[(2,.v (.eref (C6 aC) 0)),(4,.v (.ref b1 0)),(7,.v (.ref b5 0)),(8,.v (sr eAA5 r6)),(9,.v (sr eAA5 r7)),(52,.v (sr eAC5 ([r6,r7]))),fi 53 2,fi 54 s8.1]) (fun s8 g H1=>K1 g∧B6 Eq H0 [.tl g,cb b5 [vi s8.2.cW,sr V.bool s8.2.cU,.sl (Ar.lst eAA5 s8.2.cV) g],cb b1 [vi 0,.sl [] .nil,.sl [] .nil]] H1) (fun x e l H1=>∃u1:E5,K1 u1∧e= .exit 0∧l=[(4,.v (.ref b1 0)),(7,.v (.ref b5 0)),(8,.v (sr eAA5 r6)),(9,.v (sr eAA5 r7))]∧B6 Eq H0 [.tl u1,cb b5 [vi x.cW,sr V.bool x.cU,.sl (Ar.lst eAA5 x.cV) u1],cb b1 [vi 0,.sl [] .nil,.sl [] .nil]] H1) (by kernel_rfl) ?_ .nil hx ?_ ?_ ?_
  ·rintro s8 t9 H o ⟨ht9,hO⟩ h;clear hx;cbv;refine B0 hE h (fun _ h=>?_) fun _ h=>?_
   ·cbv;refine D3 hE eAC1 h fun x11 h=>?_;cbv;refine F3 hE ?_;cbv;refine F3 hE ?_;cbv;obtain⟨s14,hx,h⟩:=bind_some h;refine M1 cf27 hE K3 (γ:=E5) (fun s12 g=>[(2,.v (.eref (C6 aC) 0)),(4,.v (.ref b1 0)),(7,.v (.ref b5 0)),(8,.v (sr eAA5 r6)),(9,.v (sr eAA5 r7)),fi 12 (Ar.ar .add .i64 1 (Ar.ar .mul .i64 s8.1 (Ar.len aC.cU))),(52,.v (sr eAC5 ([r6,r7]))),fi 53 2,fi 54 s8.1,(65,.v (sr eAA5 x11)),fi 66 (Ar.len x11),fi 67 s12.1]) (fun s12 g H1=>K1 g∧B6 Eq H0 [.tl g,cb b5 [vi s12.2.cW,sr V.bool s8.2.cU,.sl (Ar.lst eAA5 s12.2.cV) g],cb b1 [vi 0,.sl [] .nil,.sl [] .nil]] H1) (fun x e l H1=>∃u1:E5,K1 u1∧e= .exit 2∧l=[(2,.v (.eref (C6 aC) 0)),(4,.v (.ref b1 0)),(7,.v (.ref b5 0)),(8,.v (sr eAA5 r6)),(9,.v (sr eAA5 r7)),(52,.v (sr eAC5 ([r6,r7]))),fi 53 2,fi 54 s8.1]∧B6 Eq H0 [.tl u1,cb b5 [vi x.cW,sr V.bool x.cU,.sl (Ar.lst eAA5 x.cV) u1],cb b1 [vi 0,.sl [] .nil,.sl [] .nil]] H1) (by kernel_rfl) ?_ t9 hx ?_ ?_ ?_
    ·rintro s12 t13 H o ⟨ht13,hO⟩ h;clear hx;cbv;refine B0 hE h (fun _ h=>?_) fun _ h=>?_
     ·cbv;refine D3 hE eAB1 h fun x15 h=>?_;cbv;refine B0 hE h (fun _ h=>?_) fun _ h=>?_
      ·cbv;refine B1 hE hO 1 rfl ?_;cbv;refine M0 hE (g:=fun r16=>(F2 r16)) h (c71 N x15.On) (.refl _) fun r16 h=>?_;cbv;refine T5 (f:=eAA5) hE Ck (by decide) hO 0 rfl ht13 (l:=s12.2.cV) (m:=[(⟨0,x15.To,r16⟩:C3)]) (.refl _) (.lstc (.eq (eAB1 (⟨0,x15.To,r16⟩:C3)) (.refl _)) (.lst0)) h fun l18 t17 H hO ht17 h=>?_;cbv;refine A7 hE hO 1 rfl rfl fun H hO=>?_;cbv;cases h;exact⟨_,t17,rfl,.e4 (.e4 (.e4 .z)),rfl,ht17,hO⟩
      cbv;cases h;exact⟨_,t13,rfl,.e4 (.e4 (.e4 .z)),rfl,ht13,hO⟩
     cbv;cases h;exact⟨_,_,rfl,⟨t13,ht13,rfl,rfl,hO⟩,.e4 (.e4 .z),rfl⟩
    ·exact .e4 (.e4 (.e4 .z))
    ·exact⟨ht9,hO⟩
    clear hx;rintro e l H ⟨t19,ht19,rfl,rfl,hO⟩;cbv;cases h;exact⟨_,t19,rfl,.e4 (.e4 .z),rfl,ht19,hO⟩
   cbv;cases h;exact⟨_,_,rfl,⟨t9,ht9,rfl,rfl,hO⟩,.e4 .z,rfl⟩
  ·exact .e rfl (.e4 (.v (.lit _ (D4 ((eAC1 r6).symm) (D4 ((eAC1 r7).symm) (B4)))) (.e rfl (.e rfl (.z)))))
  ·exact⟨trivial,hO⟩
  clear hx;rintro e l H ⟨t20,ht20,rfl,rfl,hO⟩;cbv;refine B1 hE hO 1 rfl ?_;cbv;refine A8 hE h (c81 N ([s10.cV,r6,r7])) (.cons (.sl _ (.lstc (.eq (eAC1 s10.cV) (.ro _ _)) (.lstc (.eq (eAC1 r6) (.refl _)) (.lstc (.eq (eAC1 r7) (.refl _)) (.lst0))))) (.refl _)) fun r21 h=>?_;cbv;refine A7 hE hO 1 rfl rfl fun H hO=>?_;cbv;refine B1 hE hO 1 rfl ?_;cbv;refine A8 hE h (c82 N ({s10 with cV:=r21})) (.refl _) fun r22 h=>?_;cbv;refine A7 hE hO 2 rfl rfl fun H hO=>?_;cbv;refine B1 hE hO 2 rfl ?_;cbv;cases h;exact hK hO (.refl _)
 cbv;refine D3 hE (fun _=>rfl) h fun x23 h=>?_;cbv;refine M0 hE (g:=fun r24=>sr V.bool r24) h (c79 N ([[x23],aC.cU,aD.cU])) (.cons (.sl _ (.lstc (.eq (eAD0 ([x23])) (.lit _ (D4 (rfl) (B4)))) (.lstc (.eq (eAD0 aC.cU) (.refl _)) (.lstc (.eq (eAD0 aD.cU) (.refl _)) (.lst0))))) (.refl _)) fun r24 h=>?_;cbv;refine E6 hE hO fun b25 H hO=>?_;cbv;refine M0 hE (g:=fun r26=>sr eAA5 r26) h (c80 N aC 1) (.refl _) fun r26 h=>?_;cbv;refine F3 hE ?_;cbv;refine A8 hE h (c80 N aD (Ar.ar .add .i64 1 (Ar.len aC.cU))) (.refl _) fun r27 h=>?_;cbv;refine Aa6 hE (n:=2) rfl ?_;cbv;replace hO:=hO.cast (L':=[cb b25 [vi aC.cW,sr V.bool r24,.sl (Ar.lst eAA5 ([])) .nil],cb b1 [vi 0,.sl [] .nil,.sl [] .nil]]) (by simp only[ob,cb,sr,←B4]<;>rfl);replace hO:=hO.tl0 (t:=.nil) rfl;obtain⟨s30,hx,h⟩:=bind_some h;refine M1 cf27 hE K3 (γ:=E5) (fun s28 g=>[(2,.v (.eref (C6 aC) 0)),(4,.v (.ref b1 0)),(7,.v (.ref b25 0)),(8,.v (sr eAA5 r26)),(9,.v (sr eAA5 r27)),(52,.v (sr eAC5 ([r26,r27]))),fi 53 2,fi 54 s28.1]) (fun s28 g H1=>K1 g∧B6 Eq H0 [.tl g,cb b25 [vi s28.2.cW,sr V.bool s28.2.cU,.sl (Ar.lst eAA5 s28.2.cV) g],cb b1 [vi 0,.sl [] .nil,.sl [] .nil]] H1) (fun x e l H1=>∃u1:E5,K1 u1∧e= .exit 0∧l=[(4,.v (.ref b1 0)),(7,.v (.ref b25 0)),(8,.v (sr eAA5 r26)),(9,.v (sr eAA5 r27))]∧B6 Eq H0 [.tl u1,cb b25 [vi x.cW,sr V.bool x.cU,.sl (Ar.lst eAA5 x.cV) u1],cb b1 [vi 0,.sl [] .nil,.sl [] .nil]] H1) (by kernel_rfl) ?_ .nil hx ?_ ?_ ?_
 ·rintro s28 t29 H o ⟨ht29,hO⟩ h;clear hx;cbv;refine B0 hE h (fun _ h=>?_) fun _ h=>?_
  ·cbv;refine D3 hE eAC1 h fun x31 h=>?_;cbv;refine F3 hE ?_;cbv;refine F3 hE ?_;cbv;obtain⟨s34,hx,h⟩:=bind_some h;refine M1 cf27 hE K3 (γ:=E5) (fun s32 g=>[(2,.v (.eref (C6 aC) 0)),(4,.v (.ref b1 0)),(7,.v (.ref b25 0)),(8,.v (sr eAA5 r26)),(9,.v (sr eAA5 r27)),fi 12 (Ar.ar .add .i64 1 (Ar.ar .mul .i64 s28.1 (Ar.len aC.cU))),(52,.v (sr eAC5 ([r26,r27]))),fi 53 2,fi 54 s28.1,(65,.v (sr eAA5 x31)),fi 66 (Ar.len x31),fi 67 s32.1]) (fun s32 g H1=>K1 g∧B6 Eq H0 [.tl g,cb b25 [vi s32.2.cW,sr V.bool s28.2.cU,.sl (Ar.lst eAA5 s32.2.cV) g],cb b1 [vi 0,.sl [] .nil,.sl [] .nil]] H1) (fun x e l H1=>∃u1:E5,K1 u1∧e= .exit 2∧l=[(2,.v (.eref (C6 aC) 0)),(4,.v (.ref b1 0)),(7,.v (.ref b25 0)),(8,.v (sr eAA5 r26)),(9,.v (sr eAA5 r27)),(52,.v (sr eAC5 ([r26,r27]))),fi 53 2,fi 54 s28.1]∧B6 Eq H0 [.tl u1,cb b25 [vi x.cW,sr V.bool x.cU,.sl (Ar.lst eAA5 x.cV) u1],cb b1 [vi 0,.sl [] .nil,.sl [] .nil]] H1) (by kernel_rfl) ?_ t29 hx ?_ ?_ ?_
   ·rintro s32 t33 H o ⟨ht33,hO⟩ h;clear hx;cbv;refine B0 hE h (fun _ h=>?_) fun _ h=>?_
    ·cbv;refine D3 hE eAB1 h fun x35 h=>?_;cbv;refine B0 hE h (fun _ h=>?_) fun _ h=>?_
     ·cbv;refine B1 hE hO 1 rfl ?_;cbv;refine M0 hE (g:=fun r36=>(F2 r36)) h (c71 N x35.On) (.refl _) fun r36 h=>?_;cbv;refine T5 (f:=eAA5) hE Ck (by decide) hO 0 rfl ht33 (l:=s32.2.cV) (m:=[(⟨0,x35.To,r36⟩:C3)]) (.refl _) (.lstc (.eq (eAB1 (⟨0,x35.To,r36⟩:C3)) (.refl _)) (.lst0)) h fun l38 t37 H hO ht37 h=>?_;cbv;refine A7 hE hO 1 rfl rfl fun H hO=>?_;cbv;cases h;exact⟨_,t37,rfl,.e4 (.e4 (.e4 .z)),rfl,ht37,hO⟩
     cbv;cases h;exact⟨_,t33,rfl,.e4 (.e4 (.e4 .z)),rfl,ht33,hO⟩
    cbv;cases h;exact⟨_,_,rfl,⟨t33,ht33,rfl,rfl,hO⟩,.e4 (.e4 .z),rfl⟩
   ·exact .e4 (.e4 (.e4 .z))
   ·exact⟨ht29,hO⟩
   clear hx;rintro e l H ⟨t39,ht39,rfl,rfl,hO⟩;cbv;cases h;exact⟨_,t39,rfl,.e4 (.e4 .z),rfl,ht39,hO⟩
  cbv;cases h;exact⟨_,_,rfl,⟨t29,ht29,rfl,rfl,hO⟩,.e4 .z,rfl⟩
 ·exact .e rfl (.e4 (.v (.lit _ (D4 ((eAC1 r26).symm) (D4 ((eAC1 r27).symm) (B4)))) (.e rfl (.e rfl (.z)))))
 ·exact⟨trivial,hO⟩
 clear hx;rintro e l H ⟨t40,ht40,rfl,rfl,hO⟩;cbv;refine B1 hE hO 1 rfl ?_;cbv;refine A8 hE h (c81 N ([s30.cV,r26,r27])) (.cons (.sl _ (.lstc (.eq (eAC1 s30.cV) (.ro _ _)) (.lstc (.eq (eAC1 r26) (.refl _)) (.lstc (.eq (eAC1 r27) (.refl _)) (.lst0))))) (.refl _)) fun r41 h=>?_;cbv;refine A7 hE hO 1 rfl rfl fun H hO=>?_;cbv;refine B1 hE hO 1 rfl ?_;cbv;refine A8 hE h (c82 N ({s30 with cV:=r41})) (.refl _) fun r42 h=>?_;cbv;refine A7 hE hO 2 rfl rfl fun H hO=>?_;cbv;refine B1 hE hO 2 rfl ?_;cbv;cases h;exact hK hO (.refl _)
def cf32 :Cf:=⟨[7],[],[],[],[],[]⟩
theorem c32 (N aA r)(h:O3 N aA=some r):Li prog 32 [sr eAA8 aA] 2 (Ar.lst eAA8 r):=by
 unfold O3 at h
 intro H0;refine BK (T:=TT) cf32 K3 func32 (by rfl) (by kernel_rfl) call32 ntmps32 (by rfl) (by rfl) ?_;intro E K hE hK hN;have hO:B6 Eq H0 [] H0:=.start C4 rfl;cbv;refine VM hE rfl (fun hx=>?_) ?_
 ·cbv;exact hN (Qn hx h) [] H0 hO
 cbv;refine Sp (f:=eAA8) hE EC (by decide) hO (.inr rfl) (m:=aA) (CN (f:=eAA8) hE EC (.refl _)) h fun l q H hq hO h=>?_;cbv;cases h;exact hK q _ _ (Ah hE hq) hO
def cf33 :Cf:=⟨[],[(3000003,0),(3000003,1),(3000003,2),(3000003,3),(3000003,4),(3000003,5),(3000003,7),(3000003,8),(3000003,9),(3000003,11)],[],[2000003],[],[]⟩
set_option maxHeartbeats 2000000 in
theorem c33 (N aA r) (h:M9 N aA=some r):Af5 prog 33 (fun q=>[.own q.id q.lo q.n]) 2 (Ar.lst eAA8 aA) (Ar.lst eAA8 r):=by
 unfold M9 at h
 refine YD (T:=TT) (m:=1) cf33 K3 func33 (by rfl) (by kernel_rfl) call33 ntmps33 (by rfl) (fun _=>rfl) (by rfl) ?_;intro E H0 q0 K hE hq0 hO hK;cbv;refine JU hE hq0 ?_;cbv;obtain⟨s3,hx,h⟩:=bind_some h;refine M1 cf33 hE K3 (γ:=(OGq q0)) (fun s1 g=>[(0,.v (.own g.id g.lo g.n)),fi 2 s1.1,fi 3 s1.2.1]) (fun s1 g H1=>Al g (Ar.len s1.2.2)∧B6 Eq (upd H0 q0.id none) [ob g 2 eAA8 s1.2.2] H1) (fun x e l H1=>∃u1:(OGq q0),Al u1 (Ar.len x)∧e= .exit 0∧l=[(0,.v (.own u1.id u1.lo u1.n))]∧B6 Eq (upd H0 q0.id none) [ob u1 2 eAA8 x] H1) (by kernel_rfl) ?_ q0 hx ?_ ?_ ?_
 ·rintro s1 q2 H o ⟨hq2,hO⟩ h;clear hx;cbv;refine B0 hE h (fun _ h=>?_) fun _ h=>?_
  ·cbv;obtain⟨s4,hx,h⟩:=bind_some h;refine P0 cf33 hE K3 (fun e l H1=>∃u1:(OGq q0),Al u1 (Ar.len s4)∧e= .normal∧l=[(0,.v (.own u1.id u1.lo u1.n)),fi 2 s1.1,fi 3 s1.2.1]∧B6 Eq (upd H0 q0.id none) [ob u1 2 eAA8 s4] H1) (by kernel_rfl) ?_ ?_
   ·clear h;have h:=hx;clear hx;cbv;obtain⟨u244_0,eu244_0,h⟩:=bind_some h;obtain⟨x285,ex285,h⟩:=bind_some h;obtain⟨u404_0,eu404_0,h⟩:=bind_some h;obtain⟨x445,ex445,h⟩:=bind_some h;obtain⟨u484_0,eu484_0,h⟩:=bind_some h;obtain⟨l526,el526,h⟩:=bind_some h;obtain⟨u564_0,eu564_0,h⟩:=bind_some h;obtain⟨l606,el606,h⟩:=bind_some h
    repeat' first|refine And.intro ?_ ?_|(refine Aq hE hO hq2 0 rfl (FA eu244_0) fun hh=>?_;clear hh;cbv)|(refine Df hE eAB8 hO hq2 0 rfl (FA ex285) fun x285 hh=>?_;obtain rfl:=K8 hh;cbv)|(refine Aq hE hO hq2 0 rfl (FA eu404_0) fun hh=>?_;clear hh;cbv)|(refine Df hE eAB8 hO hq2 0 rfl (FA ex445) fun x445 hh=>?_;obtain rfl:=K8 hh;cbv)|(refine Aq hE hO hq2 0 rfl (FA eu484_0) fun hh=>?_;clear hh;cbv)|(refine Bc hE (f:=eAA8) (esz:=2) (tz:=2) (off:=0) (u:=(fun x525:B8=>x285)) (fun _=>⟨_,.eq (eAB8 _) (.refl _),(by rw[eAB8];rfl),EC _,rfl⟩) (by decide) hO hq2 0 rfl (FA el526) fun l526 H hq2 hh hO=>?_;obtain rfl:=K8 hh;cbv)|(refine Aq hE hO hq2 0 rfl (FA eu564_0) fun hh=>?_;clear hh;cbv)|(refine Bc hE (f:=eAA8) (esz:=2) (tz:=2) (off:=0) (u:=(fun x605:B8=>x445)) (fun _=>⟨_,.eq (eAB8 _) (.refl _),(by rw[eAB8];rfl),EC _,rfl⟩) (by decide) hO hq2 0 rfl (FA el606) fun l606 H hq2 hh hO=>?_;obtain rfl:=K8 hh;cbv)|(have h:=K8 h;subst h;exact⟨_,⟨q2,hq2,rfl,rfl,hO⟩,.e rfl (.e2 .z),rfl⟩)
   clear hx;rintro e l H ⟨q685,hq685,rfl,rfl,hO⟩;cbv;cases h;exact⟨_,q685,rfl,.e rfl (.e2 .z),rfl,hq685,hO⟩
  cbv;cases h;exact⟨_,_,rfl,⟨q2,hq2,rfl,rfl,hO⟩,.e rfl .z,rfl⟩
 ·exact .e rfl (.e2 .z)
 ·exact⟨hq0,hO⟩
 clear hx;rintro e l H ⟨q686,hq686,rfl,rfl,hO⟩;cbv;cases h;obtain⟨q686,rfl⟩:=q686;exact hK _ 0 _ hq686 rfl hO
def cf8 :Cf:=⟨[],[(7,19),(11,5)],[],[],[(79,15)],[]⟩
theorem c8 (N aC aD aV r) (h:X4 N aC aD aV=some r):C5 prog 8 [(G3 aC),(G3 aD),sr eAA8 aV] (.bool r):=by
 unfold X4 at h
 refine P3 cf8 func8 call8 ntmps8 ?_;intro E H0 K hE hK hO;cbv;refine A8 hE h (c22 N aV ([aC,aD])) (.cons (.refl _) (.cons (.lit _ (D4 ((eAC9 aC).symm) (D4 ((eAC9 aD).symm) (B4)))) (.refl _))) fun r1 h=>?_;cbv;refine B0 hE h (fun _ h=>?_) fun _ h=>?_
 ·cbv;refine A8 hE h (c10 N) (.refl _) fun r2 h=>?_;cbv;cases h;exact hK hO (.refl _)
 cbv;refine A8 hE h (c25 N aC aD) (.refl _) fun r3 h=>?_;cbv;refine A8 hE h (c27 N aC aD) (.refl _) fun r4 h=>?_;cbv;refine A8 hE h (c29 N aC) (.refl _) fun r5 h=>?_;cbv;refine A8 hE h (c23 N aC) (.refl _) fun r6 h=>?_;cbv;refine B0 hE h (fun _ h=>?_) fun _ h=>?_
 ·cbv;cases h;exact hK hO (.refl _)
 cbv;refine M0 hE (g:=fun r7=>vi r7) h (c13 N r3.1) (.refl _) fun r7 h=>?_;cbv;refine M0 hE (g:=fun r8=>vi r8) h (c13 N r4.1) (.refl _) fun r8 h=>?_;cbv;refine M0 hE (g:=fun r9=>vi r9) h (c13 N r5.1) (.refl _) fun r9 h=>?_;cbv;refine M0 hE (g:=fun r10=>vi r10) h (c13 N r6.1) (.refl _) fun r10 h=>?_;cbv;refine B0 hE h (fun _ h=>?_) fun _ h=>?_
 ·cbv;cases h;exact hK hO (.refl _)
 cbv;refine EU hE (f:=eAA8) h (c32 N aV) (.refl _) hO fun l11 q12 H hq12 hO h=>?_;cbv;refine Al3 hE hO hq12 0 rfl h (c33 N l11) (.refl _) fun l13 H hq12 hO h=>?_;cbv;refine M0 hE (g:=fun r14=>.bool r14) h (c24 N aC aV) (.refl _) fun r14 h=>?_;cbv;refine A8 hE h (c24 N aD aV) (.refl _) fun r15 h=>?_;cbv;refine JV hE hO hq12 0 rfl fun H hO=>?_;cbv;refine A8 hE h (c24 N r3.1 aV) (.refl _) fun r16 h=>?_;cbv;refine B0 hE h (fun _ h=>?_) fun _ h=>?_
 ·cbv;refine A8 hE h (c24 N r4.1 aV) (.refl _) fun r17 h=>?_;cbv;refine B0 hE h (fun _ h=>?_) fun _ h=>?_
  ·cbv;refine A8 hE h (c24 N r5.1 l13) (.refl _) fun r18 h=>?_;cbv;refine B0 hE h (fun _ h=>?_) fun _ h=>?_
   ·cbv;refine A8 hE h (c24 N r6.1 aV) (.refl _) fun r19 h=>?_;cbv;refine B0 hE h (fun _ h=>?_) fun _ h=>?_
    ·cbv;refine A8 hE h (c10 N) (.refl _) fun r20 h=>?_;cbv;cases h;exact hK hO (.refl _)
    cbv;cases h;exact hK hO (.refl _)
   cbv;cases h;exact hK hO (.refl _)
  cbv;cases h;exact hK hO (.refl _)
 cbv;cases h;exact hK hO (.refl _)
end Go.Ab
namespace Go.Ab
open Go.RowKit Go.ChangeShapes Go.WideShapes
variable [K9]
def g0 (W:World):Gh:=⟨fun _=>none,fun _=>⟨0,0,0⟩,fun _=>none,fun b o=>∃v,W.cell? ⟨b,o,none⟩=some v,0,W.heap.size⟩
theorem rl0 {W:World}(hg:∀n,VR (g0 W) W (.pointer (some ⟨n,0,none⟩)) (K9.gl n)):Rl (g0 W) (fun _=>none) W:=
 ⟨fun id b h=>(by cases h),fun id id' b h=>(by simp[Gh.at]at h),fun b o h=>h,fun id _=>⟨rfl,rfl,rfl⟩,D1 _,hg⟩
def FU (g:Gh)(w:World)(cs:List Value)(xs:List V):Prop:=
 cs.length=xs.length∧∀i,i<xs.length→(cs.getD i undef).oneCell'=true∧VR g w (cs.getD i undef) (xs.getD i .bad)
theorem FU.nil (g:Gh)(w:World):FU g w [] []:=⟨rfl,fun i hi=>by simp at hi⟩
theorem FU.one {g:Gh}{w:World}{v:Value}{x:V}(h1:v.oneCell'=true)(h:VR g w v x):FU g w [v] [x]:=by
 simp_all[FU]
theorem FU.append {g:Gh}{w:World}{cs ds:List Value}{xs ys:List V}(h:FU g w cs xs)(k:FU g w ds ys):FU g w (cs++ds) (xs++ys):=by
 grind [FU]
theorem FU.join {g:Gh}{w:World}{cs:List Value}{xs ys:List V}{a n m:Nat}(h:FU g w ((cs.drop a).take n) xs)(k:FU g w ((cs.drop (a+n)).take m) ys):FU g w ((cs.drop a).take (n+m)) (xs++ys):=by
 have:=h.append k
 rwa[show(cs.drop (a+n))=(cs.drop a).drop n by rw[Fb],←List.take_add]at this
theorem FU.agg {g:Gh} {w:World} {cs:Array Value} {xs:List V} (h:FU g w cs.toList xs):VR g w (.agg cs) (.agg xs):=by
 refine .agg (by simpa using h.1) (fun i hi=>?_) fun i hi=>?_
 ·have:=(h.2 i hi).1
  simp_all
 have:=(h.2 i hi).2
 simp_all
section
variable {H α:Type}{enc:TypeId×Value→H}{P:Program}{W:World}{base:Nat}{spare:Nat→Bool}{held:Bool}{t e:TypeId}{n:Nat}
def Opens (enc:TypeId×Value→H)(P:Program)(W:World)(base:Nat)(spare:Nat→Bool)(held:Bool)(t:TypeId)(f:α→V)(R:α→DataW H→Prop)(n:Nat):Prop:=
 ∀cs x,DataW.trod enc P W base spare held n t cs=some x→∃a,FU (g0 W) W cs (f a).cells∧R a x.1
theorem Nd {k:IntKind}(ht:P.underlying t=some (.int k)):Opens enc P W base spare held t (V.int k) (fun a d=>d= .lit (.int k a)) n:=by
 intro cs x h;obtain⟨a,rfl,rfl,_⟩:=DataW.trod_int ht h;exact⟨a,.one rfl (.int _ _),rfl⟩
theorem GA (ht:P.underlying t=some .bool):Opens enc P W base spare held t V.bool (fun a d=>d= .lit (.bool a)) n:=by
 intro cs x h;obtain⟨a,rfl,rfl⟩:=DataW.trod_bool ht h;exact⟨a,.one rfl (.bool _),rfl⟩
def RL (R:α→DataW H→Prop)(l:List α)(ds:List (DataW H)):Prop:=l.length=ds.length∧∀(i:Nat) a d,l[i]? =some a→ds[i]? =some d→R a d
def RS (R:α→DataW H→Prop)(l:List α)(d:DataW H):Prop:=l.length≤maxLen∧((d= .nil∧l=[])∨∃es sp,d= .slice es sp∧RL R l es)
theorem Fx {f:α→V} {R:α→DataW H→Prop} (ht:P.underlying t=some (.slice e)) (hc:0<P.cellsOf e) (he:Opens enc P W base spare held e f R n):
 Opens enc P W base spare held t (fun l:List α=>.sl (l.map f) .ro) (RS R) (n+1):=by
 intro cs x h
 rcases DataW.trod_slice ht h with⟨rfl,rfl⟩|⟨a,len,cap,elems,rest,n',hn,rfl,rfl,hb,hl,hm,hlen,hel,hsp,hns⟩
 ·exact⟨[],.one rfl (.sl0 rfl),Ci _,.inl ⟨rfl,rfl⟩⟩
 have hn':n'=n:=by omega
 subst hn'
 rcases Nat.eq_zero_or_pos len with h0|h0
 ·subst h0;have:elems=[]:=List.length_eq_zero_iff.1 hlen;subst this;exact⟨[],.one rfl (.sle (.inl rfl)),Ci _,.inr ⟨_,_,rfl,rfl,fun i a d hi=>by simp at hi⟩⟩
 have one:∀i,i<len→∃cs' y b,W.cells? base (a.add (i*P.cellsOf e)) (P.cellsOf e)=some cs'∧elems[i]? =some y∧FU (g0 W) W cs' (f b).cells∧R b y.1:=by
  grind [Option.bind_eq_some_iff,Opens]
 obtain⟨_,_,b0,_⟩:=one 0 h0
 haveI:Inhabited α:=⟨b0⟩
 obtain⟨A,hA⟩:=Deep.choose_lt (α:=α) (p:=fun i b=>∃cs' y,W.cells? base (a.add (i*P.cellsOf e)) (P.cellsOf e)=some cs'∧elems[i]? =some y∧FU (g0 W) W cs' (f b).cells∧R b y.1)
  (fun i hi=>let⟨cs',y,b,h1,h2,h3,h4⟩:=one i hi;⟨b,cs',y,h1,h2,h3,h4⟩)
 have hspot:a.spot=none:=by
  obtain⟨cs',y,h1,_,_,_⟩:=hA 0 h0;obtain⟨_,hcl,hcell⟩:=Jm h1;have h2:=hcell 0 hc
  have e0:(a.add (0*P.cellsOf e)).add 0=a:=by simp[Addr.add]
  rw[e0]at h2
  have h3:cs'[0]? =some (cs'[0]'(by omega)):=by grind
  rw[h3]at h2
  unfold World.cell? at h2
  split at h2
  ·simp_all
  cases h2
 obtain⟨b,o,s⟩:=a
 simp only at hspot
 subst hspot
 let l:=(List.range len).map A
 have hll:l.length=len:=by simp[l]
 have hg:∀i,i<len→(l.map f).getD i .bad=f (A i):=fun i hi=>by grind
 have cell:∀i j,i<len→j<P.cellsOf e→∃v,W.cell? ⟨b,o+i*P.cellsOf e+j,none⟩=some v∧v.oneCell'=true∧VR (g0 W) W v ((f (A i)).cells.getD j .bad):=by
  intro i j hi hj;obtain⟨cs',y,h1,_,hr,_⟩:=hA i hi;obtain⟨_,hcl,hcell⟩:=Jm h1;have h2:=hcell j hj
  rw[Y3,Y3]at h2
  have h3:cs'[j]? =some (cs'.getD j undef):=by simp_all
  rw[h3]at h2
  have:=hr.2 j (by rw[←hr.1,hcl];exact hj)
  simp_all
 refine⟨l,.one rfl ?_,by omega,.inr ⟨_,_,rfl,by simp_all,fun i a' d hi hd=>?_⟩⟩
 ·have hz:∀i,i<len→((l.map f).getD i .bad).cells.length=P.cellsOf e:=fun i hi=>by
   obtain⟨cs',y,h1,_,hr,_⟩:=hA i hi;obtain⟨_,hcl,_⟩:=Jm h1;rw[hg i hi,←hr.1,hcl]
  refine .sl (sz:=P.cellsOf e) (fun i j=>(W.cell? ⟨b,o+i*P.cellsOf e+j,none⟩).getD undef) (by simp[hll]) hl hz (fun i j hi hj=>?_) (fun i j hi hj=>?_) (fun i j hi hj=>?_) (fun i j hi hj=>?_) trivial
  ·grind [g0]
  ·grind
  ·grind
  grind
 grind
theorem Wd {fs:Array Field} {xs:List (DataW H×List MemPlace)} {cs:List Value} {n:Nat} (hl:xs.length=fs.size)
 (hf:∀(i:Nat) (f:Field),fs[i]? =some f→DataW.trod enc P W base spare held n f.type ((cs.drop f.offset).take (P.cellsOf f.type))=xs[i]?) (i:Nat) {f:Field} (h:fs[i]? =some f):
 ∃y,xs[i]? =some y∧DataW.trod enc P W base spare held n f.type ((cs.drop f.offset).take (P.cellsOf f.type))=some y:=by
 have hi:i<fs.size:=by
  grind
 have h1:xs[i]? =some (xs[i]'(by omega)):=by grind
 grind
end
end Go.Ab
namespace Go.Ab
noncomputable instance arInst :Ar where
 cmp:=EK
 cmp_eq:=fun _ _ _=>rfl
 ar:=arI
 ar_eq:=fun _ _ _ _=>rfl
 sh:=shI
 sh_eq:=fun _ _ _ _=>rfl
 neg:=fun k n=>k.wrap (0 - n)
 neg_eq:=fun _ _=>rfl
 wr:=fun k n=>k.wrap n
 wr_eq:=fun _ _=>rfl
 scmp:=Au6
 scmp_eq:=fun _ _ _=>rfl
 cat:=fun a b=>a++b
 cat_eq:=fun _ _=>rfl
 slen:=fun s=>s.size
 slen_eq:=fun _=>rfl
 sat:=fun s i=>match s[i.toNat]? with|some b=>(b.toNat:Int)|none=>0
 sat_eq:=fun _ _=>rfl
 beq:=fun a b=>a==b
 beq_eq:=fun _ _=>rfl
 nt:=fun a=> !a
 nt_eq:=fun _=>rfl
 an:=fun a b=>a&&b
 an_eq:=fun _ _=>rfl
 or:=fun a b=>a||b
 or_eq:=fun _ _=>rfl
 pk:=fun c a b=>if c then a else b
 pk_eq:=fun _ _ _=>rfl
 mx:=fun a b=>if a<b then b else a
 mx_eq:=fun _ _=>rfl
 mn:=fun a b=>if b<a then b else a
 mn_eq:=fun _ _=>rfl
 ofs:=fun a b=>a+b
 ofs_eq:=fun _ _=>rfl
 ofN:=fun n=>n
 ofN_eq:=fun _=>rfl
 len:=fun l=>l.length
 len_eq:=fun _=>rfl
 lst:=fun f l=>l.map f
 lst_eq:=fun _ _=>rfl
end Go.Ab
namespace Go.Ab
theorem D5 (a b:Int):Ar.cmp .lss a b=decide (a<b):=rfl
theorem KQ (a b:Int):Ar.cmp .leq a b=decide (a≤b):=rfl
theorem U3 (a b:Int):Ar.cmp .gtr a b=decide (b<a):=rfl
theorem KR (a b:Int):Ar.cmp .geq a b=decide (b≤a):=rfl
theorem EZ (a b:Int):Ar.cmp .eql a b=decide (a=b):=rfl
theorem X5 (a b:Int):Ar.cmp .neq a b= !decide (a=b):=rfl
theorem Bb (a:Bool):Ar.nt a= !a:=rfl
theorem Dv (a b:Bool):Ar.an a b=(a&&b):=rfl
theorem Gz (a b:Bool):Ar.or a b=(a||b):=rfl
theorem E4 {α:Type}(l:List α):Ar.len l=(l.length:Int):=rfl
theorem At2 (a b:Int):Ar.mx a b=if a<b then b else a:=rfl
theorem Fp {n:Int} (h0: -9223372036854775808≤n) (h1:n<9223372036854775808):IntKind.wrap .i64 n=n:=by
 have e:IntKind.wrap .i64 n=(if n % 18446744073709551616≥9223372036854775808 then n % 18446744073709551616 - 18446744073709551616 else n % 18446744073709551616):=by
  unfold IntKind.wrap;simp[IntKind.bits,IntKind.signed]
 rw[e]
 split<;>omega
theorem O7 {a b:Int}(h0: -9223372036854775808≤a+b)(h1:a+b<9223372036854775808):Ar.ar .add .i64 a b=a+b:=Fp h0 h1
theorem Uk {S σ R α:Type} (l:List α) (hl:l.length<1000000000000) (step:S→Option (S⊕R)) (mk:σ→Int→S) (body:σ→α→Option (σ⊕R)) (fin:σ→R)
 (hstep:∀s (i:Nat) x,l[i]? =some x→step (mk s i)=(body s x).bind fun o=>match o with| .inl s'=>some (.inl (mk s' (i+1)))| .inr r=>some (.inr r))
 (hend:∀s,step (mk s l.length)=some (.inr (fin s))):
 ∀(k:Nat) (i:Nat) (s:σ) (N:Nat),i+k=l.length→k<N→loopN step N (mk s i)=(G0 body (l.drop i) s).bind fun o=>match o with| .inl s=>some (fin s)| .inr r=>some r:=by
 intro k
 induction k with
 |zero=>
  intro i s N hi hN;obtain⟨N,rfl⟩:∃M,N=M+1:=⟨N - 1,by omega⟩;have e:l.drop i=[]:=Jt (by omega)
  have ei:((i:Nat):Int)=l.length:=by omega
  rw[e,ei]
  grind [loopN,G0]
 | succ k ih=>
  intro i s N hi hN;obtain⟨N,rfl⟩:∃M,N=M+1:=⟨N - 1,by omega⟩
  have hlt:i<l.length:=by omega
  have hx:l[i]? =some l[i]:=by simp[hlt]
  have e:l.drop i=l[i]::l.drop (i+1):=Aa hlt;rw[e];simp only[loopN,hstep s i _ hx,G0]
  cases hb:body s l[i]with
  |none=>rfl
  | some o=>
   cases o with
   |inl s'=>
    simp only[A6];have:=ih (i+1) s' N (by omega) (by omega);rw[show((i:Int)+1)=((i+1:Nat):Int) by omega];exact this
   |inr r=>rfl
theorem I0 {α:Type}{l:List α}{i:Nat}:D0 l (i:Int)=l[i]? :=by simp[D0]
theorem Sv {β S σ R α:Type} (l:List α) (step:S→Option (List β×(S⊕R))) (mk:σ→Int→S) (body:σ→α→Option (List β×(σ⊕R))) (fin:σ→R)
 (hstep:∀s (i:Nat) x,l[i]? =some x→step (mk s i)=(body s x).bind fun o=>match o with|(w,.inl s')=>some (w,.inl (mk s' (i+1)))|(w,.inr r)=>some (w,.inr r))
 (hend:∀s,step (mk s l.length)=some ([],.inr (fin s))):
 ∀(k:Nat) (i:Nat) (s:σ) (N:Nat),i+k=l.length→k<N→Cs step N (mk s i)=(CP body (l.drop i) s).bind fun o=>match o with|(w,.inl s)=>some (w,fin s)|(w,.inr r)=>some (w,r):=by
 intro k
 induction k with
 |zero=>
  intro i s N hi hN;obtain⟨N,rfl⟩:∃M,N=M+1:=⟨N - 1,by omega⟩;have e:l.drop i=[]:=Jt (by omega)
  have ei:((i:Nat):Int)=l.length:=by omega
  rw[e,ei]
  grind [Cs,CP]
 | succ k ih=>
  intro i s N hi hN;obtain⟨N,rfl⟩:∃M,N=M+1:=⟨N - 1,by omega⟩
  have hlt:i<l.length:=by omega
  have hx:l[i]? =some l[i]:=by simp[hlt]
  have e:l.drop i=l[i]::l.drop (i+1):=Aa hlt;rw[e];simp only[Cs,hstep s i _ hx,CP]
  cases hb:body s l[i]with
  |none=>rfl
  | some o=>
   obtain⟨w,o⟩:=o
   cases o with
   |inl s'=>
    simp only[A6];have:=ih (i+1) s' N (by omega) (by omega);rw[show((i:Int)+1)=((i+1:Nat):Int) by omega,this]
    grind
   |inr r=>rfl
theorem Ng {S σ R α:Type} (l:List α) (hl:l.length<1000000000000) {step:S→Option (S⊕R)} (mk:σ→Int→S) (body:σ→α→Option (σ⊕R)) (fin:σ→R) (s:σ) {N:Nat} (hN:l.length<N)
 (hstep:∀s (i:Nat) x,l[i]? =some x→(i:Int)<l.length→step (mk s i)=(body s x).bind fun o=>match o with| .inl s'=>some (.inl (mk s' (i+1)))| .inr r=>some (.inr r))
 (hend:∀s,step (mk s l.length)=some (.inr (fin s))):loopN step N (mk s 0)=(G0 body l s).bind fun o=>match o with| .inl s=>some (fin s)| .inr r=>some r:=by
 have:=Uk l hl step mk body fin (fun s i x h=>hstep s i x h (by
  grind)) hend l.length 0 s N (by omega) hN
 simp_all
theorem VO {β S σ R α:Type} (l:List α) {step:S→Option (List β×(S⊕R))} (mk:σ→Int→S) (body:σ→α→Option (List β×(σ⊕R))) (fin:σ→R) (s:σ) {N:Nat} (hN:l.length<N)
 (hstep:∀s (i:Nat) x,l[i]? =some x→(i:Int)<l.length→step (mk s i)=(body s x).bind fun o=>match o with|(w,.inl s')=>some (w,.inl (mk s' (i+1)))|(w,.inr r)=>some (w,.inr r))
 (hend:∀s,step (mk s l.length)=some ([],.inr (fin s))):Cs step N (mk s 0)=(CP body l s).bind fun o=>match o with|(w,.inl s)=>some (w,fin s)|(w,.inr r)=>some (w,r):=by
 have:=Sv l step mk body fin (fun s i x h=>hstep s i x h (by
  grind)) hend l.length 0 s N (by omega) hN
 simp_all
end Go.Ab
namespace Go.Ab
open Go.RowKit Go.ChangeShapes Go.WideShapes
variable [K9]
section
variable {H α:Type}{enc:TypeId×Value→H}{P:Program}{W:World}{base:Nat}{spare:Nat→Bool}{held:Bool}{t e:TypeId}{n:Nat}
theorem Ra {cs:List Value} {sz:Nat} {f:α→V}:∀(l:List α) (o:Nat),(∀(i:Nat) a,l[i]? =some a→FU (g0 W) W ((cs.drop (o+i*sz)).take sz) (f a).cells)→FU (g0 W) W ((cs.drop o).take (l.length*sz)) (l.flatMap fun a=>(f a).cells)
 |[],o,_=>by simp;exact .nil _ _
 | a::l,o,h=>by
  have h0:=h 0 a rfl
  rw[Nat.zero_mul,Bn]at h0
  have h1:=Ra l (o+sz) fun i b hi=>by
   have:=h (i+1) b (by grind)
   rwa[show o+(i+1)*sz=o+sz+i*sz by rw[G2];omega]at this
  have:=h0.join h1;rw[M2,DI,show(l.length+1)*sz=sz+l.length*sz by rw[G2];omega];exact this
theorem TZ {f:α→V} {R:α→DataW H→Prop} {m:Nat} (ht:P.underlying t=some (.array m e)) (hct:P.cellsOf t=m*P.cellsOf e) (hm:0<m) (he:∀n,Opens enc P W base spare held e f R n) {cs:List Value} {x:DataW H×List MemPlace}
 (h:DataW.trod enc P W base spare held n t cs=some x):∃l:List α,FU (g0 W) W cs (l.flatMap fun a=>(f a).cells)∧∃ds,x.1= .agg ds∧RL R l ds:=by
 cases n with
 |zero=>simp[DataW.trod]at h
 | succ n=>
  simp only[DataW.trod,ht]at h
  split at h
  ·rename_i hl;obtain⟨xs,hmm,rfl⟩:=Option.map_eq_some_iff.1 h
   have hxl:xs.length=m:=by simpa using mapM_some_length hmm
   have one:∀i,i<m→∃b,FU (g0 W) W ((cs.drop (i*P.cellsOf e)).take (P.cellsOf e)) (f b).cells∧∀y,xs[i]? =some y→R b y.1:=by
    intro i hi;have h1:=mapM_some_get hmm i i (by simp[hi])
    have h2:xs[i]? =some (xs[i]'(by omega)):=by grind
    rw[h2]at h1
    obtain⟨b,hr,hR⟩:=he n _ _ h1
    grind
   obtain⟨b0,_⟩:=one 0 hm
   haveI:Inhabited α:=⟨b0⟩
   obtain⟨A,hA⟩:=Deep.choose_lt one
   have hat:∀(i:Nat) a,((List.range m).map A)[i]? =some a→i<m∧a=A i:=fun i a hi=>by
    grind
   refine⟨(List.range m).map A,?_,_,rfl,by simp[hxl],fun i a d hi hd=>?_⟩
   ·have:=Ra (cs:=cs) (sz:=P.cellsOf e) (f:=f) (W:=W) ((List.range m).map A) 0 (fun i a hi=>by
     grind)
    grind
   grind
  cases h
theorem Us {g:Nat} {cs:Array Value} {xs:List V} {name:String} (hg:P.globalNamed name=some g) (hv:W.var? P name=some cs) (hr:FU (g0 W) W cs.toList xs):VR (g0 W) W (.pointer (some ⟨g,0,none⟩)) (.eref xs 0):=by
 have cell:∀j,j<xs.length→W.cell? ⟨g,0+j,none⟩=some (cs.toList.getD j undef):=fun j hj=>by
  have h1:=World.var?_cell hg hv j
  have h2:j<cs.size:=by have:=hr.1;simp_all
  rw[U9,h1]
  simp_all
 exact .eref (g:=g0 W) (o:=0) (off:=0) (fun j=>cs.toList.getD j undef) (fun j hj=>(⟨_,cell j hj⟩:∃v,W.cell? ⟨g,0+j,none⟩=some v)) (fun j hj=>cell j hj) (fun j hj=>(hr.2 j hj).1) fun j hj=>(hr.2 j hj).2
end
end Go.Ab
namespace Go.Ab
open Go.RowKit Go.ChangeShapes Go.WideShapes
variable [K9]
section
variable {H:Type}{enc:TypeId×Value→H}{P:Program}{W:World}{base:Nat}{spare:Nat→Bool}{held:Bool}{t e:TypeId}{n:Nat}
end
end Go.Ab
namespace Go.Ab
def fb {α:Type}(f:Nat→α→Int):Nat→List α→Int
 |_,[]=>0
 |i,x::r=>if f i x=0 then fb f (i+1) r else f i x
theorem Ax {α:Type} {f:Nat→α→Int}:∀{l:List α} {i:Nat},fb f i l=0↔∀(k:Nat) x,l[k]? =some x→f (i+k) x=0
 |[],i=>by simp[fb]
 | y::r,i=>by
  unfold fb
  split
  ·rename_i h;rw[Ax];refine⟨fun H k x hk=>?_,fun H k x hk=>?_⟩
   ·cases k with
    |zero=>simp at hk;subst hk;exact h
    |succ k=>rw[show i+(k+1)=i+1+k by omega];exact H k x (by simpa using hk)
   have:=H (k+1) x (by simpa using hk)
   rwa[show i+(k+1)=i+1+k by omega]at this
  rename_i h;exact⟨fun e=>absurd e h,fun H=>absurd (H 0 y (by simp)) h⟩
theorem O6 {i:Nat}{n:Nat}(hi:i<n)(hn:n<1000000000000):Ar.ar .add .i64 (i:Int) 1=((i+1:Nat):Int):=by
 rw[O7 (by omega) (by omega)];omega
theorem Bf {α R:Type} {l:List α} {step:Int→Option (Int⊕R)} {f:Nat→α→Int} {e:R} {b:Int→R}
 (hs:∀(i:Nat) x,l[i]? =some x→i<l.length→step (i:Int)=if f i x=0 then some (.inl ((i+1:Nat):Int))else some (.inr (b (f i x))))
 (he:step (l.length:Int)=some (.inr e)):∀{N:Nat},l.length<N→loopN step N 0=some (if fb f 0 l=0 then e else b (fb f 0 l)):=by
 have key:∀(k i N:Nat),i+k=l.length→k<N→loopN step N (i:Int)=some (if fb f i (l.drop i)=0 then e else b (fb f i (l.drop i))):=by
  intro k
  induction k with
  |zero=>
   intro i N hi hN;obtain⟨N,rfl⟩:∃M,N=M+1:=⟨N - 1,by omega⟩;rw[show i=l.length by omega,Je];simp[loopN,he,fb]
  |succ k ih=>
   intro i N hi hN;obtain⟨N,rfl⟩:∃M,N=M+1:=⟨N - 1,by omega⟩
   have hlt:i<l.length:=by omega
   rw[Aa hlt];simp only[loopN,hs i _ (E2 hlt) hlt,fb]
   by_cases h:f i l[i]=0
   ·simp only[h,C7];exact ih (i+1) N (by omega) (by omega)
   simp only[h,E3]
 intro N hN;have:=key l.length 0 N (by omega) hN
 simpa using this
def fm (x:A4):Int:=
 if x.Low< -1099511627776∨1099511627776<x.Low∨x.dC< -1099511627776∨1099511627776<x.dC then 2 else if x.dC<x.Low then 3 else 0
theorem Xm {x:A4}(h:fm x=0): -1099511627776≤x.Low∧x.Low≤x.dC∧x.dC≤1099511627776:=by
 unfold fm at h
 split at h
 ·cases h
 split at h
 ·cases h
 omega
theorem Ys (N:Nat)(x:A4):BG N x=some (fm x):=by
 unfold BG fm;simp only[D5,U3,Gz,S3,C2,or_assoc]
 split
 ·rfl
 split<;>rfl
theorem At0 (N:Nat)(x:A4):HR N x=some (fm x):=by
 unfold HR JL fm;simp only[KR,KQ,U3,Dv,Bb,A6,S4,Bool.and_eq_false_iff,Cg,C2]
 repeat' split
 all_goals first|rfl|(exfalso;omega)
noncomputable def fiq (l:List A4)(i:Nat)(x:A4):Int:=
 if fm x=0 then(if 0<i then match l[i - 1]? with|some y=>if x.Low<Ar.ar .add .i64 y.dC 2 then 14 else 0|none=>0 else 0)else fm x
noncomputable def ck (l:List A4):Int:=if 256<l.length then 5 else fb (fiq l) 0 l
theorem Ad8 {α:Type} {l:List α} {i:Nat} (hi:0<i) (hl:i<l.length) (hn:l.length<1000000000000):D0 l (Ar.ar .sub .i64 (i:Int) 1)=l[i - 1]? :=by
 have e:Ar.ar .sub .i64 (i:Int) 1=((i - 1:Nat):Int):=by
  show IntKind.wrap .i64 ((i:Int) - 1)=_
  rw[Fp (by omega) (by omega)];omega
 rw[e,I0]
theorem Nj {N:Nat} {l:List A4} (hN:256<N):T6 N l=some (ck l):=by
 unfold T6 ck;simp only[U3,E4,C2]
 by_cases hl:256<l.length
 ·rw[A2 (by omega),A2 hl]
 rw[A3 (by omega),A3 hl];rw[Bf (l:=l) (f:=fiq l) (e:=.inl ()) (b:=.inr) (N:=N) ?_ ?_ (by omega)]
 ·simp only[A6]
  by_cases h:fb (fiq l) 0 l=0
  ·simp[h]
  simp[h]
 ·intro i x hx hi;simp only[D5,X5,Ys,I0,hx,A6,C2];rw[A2 (by omega),O6 hi (by omega)];unfold fiq
  by_cases h0:fm x=0
  ·simp only[h0,AC,Q5,F6,E3,C7]
   by_cases hp:0<i
   ·rw[A2 (by omega),Ad8 hp hi (by omega)]
    cases hy:l[i - 1]? with
    |none=>rw[NG]at hy;omega
    |some y=>
     simp only[A6,hp,C7]
     by_cases hh:x.Low<Ar.ar .add .i64 y.dC 2
     ·rw[A2 hh,A2 hh];rfl
     rw[A3 hh,A3 hh];rfl
   rw[A3 (by omega)];simp[hp]
  simp[h0]
 simp[D5]
theorem XX {N:Nat} {l:List A4} (hN:256<N):Fv N l=some (ck l):=by
 unfold Fv ck;simp only[U3,E4,C2]
 by_cases hl:256<l.length
 ·rw[A2 (by omega),A2 hl]
 rw[A3 (by omega),A3 hl];rw[Bf (l:=l) (f:=fiq l) (e:=.inl ()) (b:=.inr) (N:=N) ?_ ?_ (by omega)]
 ·simp only[A6]
  by_cases h:fb (fiq l) 0 l=0
  ·simp[h]
  simp[h]
 ·intro i x hx hi;simp only[D5,X5,At0,I0,hx,A6,C2];rw[A2 (by omega),O6 hi (by omega)];unfold fiq
  by_cases h0:fm x=0
  ·simp only[h0,AC,Q5,F6,E3,C7]
   by_cases hp:0<i
   ·rw[A2 (by omega),Ad8 hp hi (by omega)]
    cases hy:l[i - 1]? with
    |none=>rw[NG]at hy;omega
    |some y=>
     simp only[A6,hp,C7]
     by_cases hh:x.Low<Ar.ar .add .i64 y.dC 2
     ·rw[A2 hh,A2 hh];rfl
     rw[A3 hh,A3 hh];rfl
   rw[A3 (by omega)];simp[hp]
  simp[h0]
 simp[D5]
def YP (l:List A4):Prop:=l.length≤256∧(∀x∈l, -1099511627776≤x.Low∧x.Low≤x.dC∧x.dC≤1099511627776)∧∀(i:Nat) x y,l[i]? =some x→l[i+1]? =some y→x.dC+2≤y.Low
theorem SN {l:List A4} (h:ck l=0):YP l:=by
 unfold ck at h
 split at h
 ·cases h
 rename_i hl;have h:=Ax.1 h
 have hm:∀(k:Nat) x,l[k]? =some x→fm x=0:=fun k x hx=>by
  have:=h k x hx
  unfold fiq at this
  by_cases h0:fm x=0
  ·exact h0
  rw[A3 h0]at this;exact this
 refine⟨by omega,fun x hx=>?_,fun i x y hx hy=>?_⟩
 ·obtain⟨k,hk⟩:=M3 hx;exact Xm (hm k x hk)
 have h1:=Xm (hm _ _ hx);have:=h (i+1) y hy
 simp only[U9]at this
 unfold fiq at this
 rw[A2 (hm _ _ hy),A2 (by omega),show i+1 - 1=i by omega,hx]at this
 simp only at this
 rw[O7 (by omega) (by omega)]at this
 split at this
 ·cases this
 omega
end Go.Ab
namespace Go.Ab
theorem Ze {n:Int} (h0:0≤n) (h1:n<18446744073709551616):IntKind.wrap .u64 n=n:=by
 have e:IntKind.wrap .u64 n=n % 18446744073709551616:=by
  unfold IntKind.wrap;simp[IntKind.bits,IntKind.signed]
 rw[e];omega
theorem At3 {i j:Nat} (h:i+j<1000000000000):Ar.wr .i64 (Ar.sh .shr .u64 (Ar.wr .u64 (Ar.ar .add .i64 (i:Int) (j:Int))) 1)=(((i+j) / 2:Nat):Int):=by
 rw[O7 (by omega) (by omega)]
 show IntKind.wrap .i64 (shI .shr .u64 (IntKind.wrap .u64 ((i:Int)+j)) 1)=_
 rw[Ze (by omega) (by omega)]
 have e:shI .shr .u64 ((i:Int)+j) 1=((i:Int)+j) / 2:=by
  show((i:Int)+j).fdiv (2 ^ (min (1:Int).toNat 64))=_
  rw[show(2:Int) ^ (min (1:Int).toNat 64)=2 from rfl,Int.fdiv_eq_ediv_of_nonneg _ (by decide)]
 rw[e,Fp (by omega) (by omega)];omega
def Zf (x:A4)(n:Int):Int:=if x.dC<n then -1 else if n<x.Low then 1 else 0
theorem SD (N:Nat)(x:A4)(n:Int):Af N x n=some (Zf x n):=by
 unfold Af Zf;simp only[D5,U3,C2]
 repeat' split
 all_goals rfl
def KU (l:List A4)(n:Int):Prop:=∃x∈l,x.Low≤n∧n≤x.dC
theorem OY {l:List A4} (hs:YP l):∀(d i:Nat) x y,l[i]? =some x→l[i+d+1]? =some y→x.dC+2≤y.Low
 |0,i,x,y,hx,hy=>hs.2.2 i x y hx hy
 | d+1,i,x,y,hx,hy=>by
  have hlt:i+d+1<l.length:=by
   rcases H6 (i+d+1) l.length with h|h
   ·exact h
   rw[Cd (by omega)]at hy;cases hy
  have h1:=OY hs d i x _ hx (E2 hlt);have h2:=hs.2.2 (i+d+1) _ y (E2 hlt) hy;have h3:=hs.2.1 _ (AG hlt);omega
theorem Ao1 {N0:Nat} {l:List A4} {n:Int} (hs:YP l):∀(k i j N:Nat),j - i≤k→i≤j→j≤l.length→k<N→
 (∀m x,m<i→l[m]? =some x→x.dC<n)→(∀m x,j≤m→l[m]? =some x→n≤x.dC)→
 ∃ r :Nat,r≤l.length∧(∀m x,m<r→l[m]? =some x→x.dC<n)∧(∀m x,r≤m→l[m]? =some x→n≤x.dC)∧
  loopN (fun(s1:Int×Int)=>(
   if Ar.cmp .lss s1.1 s1.2=true then
    (D0 l (Ar.wr .i64 (Ar.sh .shr .u64 (Ar.wr .u64 (Ar.ar .add .i64 s1.1 s1.2)) 1))).bind fun x3=>
    (Af N0 x3 n).bind fun r4=>
    if Ar.cmp .lss r4 0=true then
     some (.inl (Ar.ar .add .i64 (Ar.wr .i64 (Ar.sh .shr .u64 (Ar.wr .u64 (Ar.ar .add .i64 s1.1 s1.2)) 1)) 1,s1.2))
    else
     some (.inl (s1.1,Ar.wr .i64 (Ar.sh .shr .u64 (Ar.wr .u64 (Ar.ar .add .i64 s1.1 s1.2)) 1)))
   else
    some (.inr s1.1):Option ((Int×Int)⊕(Int)))) N ((i:Int),(j:Int))=some (r:Int):=by
 intro k;have hl:=hs.1
 induction k with
 |zero=>
  intro i j N hk hij hj hN h1 h2;obtain⟨N,rfl⟩:∃M,N=M+1:=⟨N - 1,by omega⟩;refine⟨i,by omega,h1,fun m x hm hx=>h2 m x (by omega) hx,?_⟩;unfold loopN;simp only[D5,C2];rw[A3 (by omega)]
 | succ k ih=>
  intro i j N hk hij hj hN h1 h2;obtain⟨N,rfl⟩:∃M,N=M+1:=⟨N - 1,by omega⟩
  by_cases hlt:i<j
  ·have hm:(i+j) / 2<l.length:=by omega
   have hx:=E2 hm;have step:=At3 (i:=i) (j:=j) (by omega)
   by_cases hc:l[(i+j) / 2].dC<n
   ·obtain⟨r,r1,r2,r3,r4⟩:=ih ((i+j) / 2+1) j N (by omega) (by omega) hj (by omega) (fun m x hm' hx'=>by
     by_cases e:m=(i+j) / 2
     ·subst e;rw[hx]at hx';cases hx';exact hc
     have:=OY hs ((i+j) / 2 - m - 1) m x l[(i+j) / 2] hx' (by rw[←hx];congr 1;omega);have:=hs.2.1 _ (AG hm)
     omega) h2
    refine⟨r,r1,r2,r3,?_⟩;rw[←r4]
    conv=>lhs;unfold loopN
    simp only[D5,C2,step,I0,hx,A6,SD];rw[A2 (by omega),A2 (by unfold Zf;rw[A2 hc];decide)];simp only[O6 hm (by omega)]
   obtain⟨r,r1,r2,r3,r4⟩:=ih i ((i+j) / 2) N (by omega) (by omega) (by omega) (by omega) h1 (fun m x hm' hx'=>by
    by_cases e:m=(i+j) / 2
    ·subst e;rw[hx]at hx';cases hx';omega
    have:=OY hs (m - (i+j) / 2 - 1) ((i+j) / 2) l[(i+j) / 2] x hx (by rw[←hx'];congr 1;omega);have:=hs.2.1 x (I7 hx')
    omega)
   refine⟨r,r1,r2,r3,?_⟩;rw[←r4]
   conv=>lhs;unfold loopN
   simp only[D5,C2,step,I0,hx,A6,SD];rw[A2 (by omega),A3 (by unfold Zf;rw[A3 hc];split<;>decide)]
  refine⟨i,by omega,h1,fun m x hm hx=>h2 m x (by omega) hx,?_⟩;unfold loopN;simp only[D5,C2];rw[A3 (by omega)]
theorem Wa {N:Nat} {l:List A4} {n:Int} (hs:YP l) (hN:300<N):∃b,Y8 N l n=some b∧(b=true↔KU l n):=by
 have hl:=hs.1;obtain⟨r,r1,r2,r3,r4⟩:=Ao1 (N0:=N) (n:=n) hs l.length 0 l.length N (by omega) (by omega) (by omega) (by omega) (fun m x h=>by omega) (fun m x h hx=>by rw[Cd h]at hx;cases hx);unfold Y8 J1;simp only[E4];rw[show((0:Int),((l.length:Nat):Int))=(((0:Nat):Int),((l.length:Nat):Int))from rfl,r4];simp only[A6,D5,C2]
 by_cases hr:r<l.length
 ·have hx:=E2 hr;rw[A2 (by omega),I0,hx];simp only[A6,SD];refine⟨_,rfl,?_⟩;simp only[EZ,C2];have h3:=r3 r _ (by omega) hx;unfold Zf;rw[A3 (by omega)]
  constructor
  ·intro h
   split at h
   ·cases h
   exact⟨_,AG hr,by omega,h3⟩
  rintro⟨x,hx',h1,h2⟩;obtain⟨m,hm⟩:=M3 hx'
  have hmr:¬m<r:=fun h=>by have:=r2 m x h hm;omega
  by_cases e:m=r
  ·subst e;rw[hx]at hm;cases hm;rw[A3 (by omega)]
  have:=OY hs (m - r - 1) r l[r] x hx (by rw[←hm];congr 1;omega);omega
 rw[A3 (by omega)];refine⟨_,rfl,?_⟩;simp only[F6,false_iff];rintro⟨x,hx',h1,h2⟩;obtain⟨m,hm⟩:=M3 hx';have hml:m<l.length:=(List.getElem?_eq_some_iff.1 hm).1;have:=r2 m x (by omega) hm;omega
theorem Ai4 {N:Nat} {l:List A4} {n:Int} (hl:l.length<1000000000) (hN:l.length<N):∃b,HS N l n=some b∧(b=true↔KU l n):=by
 unfold HS;simp only[E4];rw[Bf (l:=l) (f:=fun _ x=>if x.Low≤n∧n≤x.dC then 1 else 0) (e:=.inl ()) (b:=fun _=>.inr ()) (N:=N) ?_ ?_ hN]
 ·simp only[A6]
  by_cases h:fb (fun _ (x:A4)=>if x.Low≤n∧n≤x.dC then(1:Int)else 0) 0 l=0
  ·rw[A2 h];refine⟨false,rfl,?_⟩;simp only[F6,false_iff];rintro⟨x,hx,h1⟩;obtain⟨k,hk⟩:=M3 hx;have:=Ax.1 h k x hk
   rw[A2 h1]at this;cases this
  rw[A3 h];refine⟨true,rfl,?_⟩;simp only[true_iff];refine NF fun hn=>h (Ax.2 fun k x hk=>?_);rw[A3 fun h1=>hn ⟨x,I7 hk,h1⟩]
 ·intro i x hx hi;simp only[D5,KQ,I0,hx,A6,C2];rw[A2 (by omega),O6 hi (by omega)]
  by_cases h1:x.Low≤n
  ·rw[A2 h1]
   by_cases h2:n≤x.dC
   ·rw[A2 h2,A3 (by rw[A2 ⟨h1,h2⟩];decide)]
   rw[A3 h2,A2 (by rw[A3 (by omega)])]
  rw[A3 h1,A2 (by rw[A3 (by omega)])]
 simp[D5]
end Go.Ab
namespace Go.Ab
noncomputable def IN (types:Int)(p:B3):Int:=if types<1∨16<types then 2 else if(p.cZ.length:Int)≠types then 15 else fb (fun _ x=>ck x) 0 p.cZ
theorem VG {N:Nat} {types:Int} {p:B3} (hN:256<N):Y1 N types p=some (IN types p):=by
 unfold Y1 IN;simp only[D5,U3,X5,Gz,E4,S3,S4,C2,Cg]
 by_cases h1:types<1∨16<types
 ·rw[A2 h1,A2 h1]
 rw[A3 h1,A3 h1]
 by_cases h2:(p.cZ.length:Int)=types
 ·rw[A3 (by simpa using h2),A3 (by simpa using h2)];rw[Bf (l:=p.cZ) (f:=fun _ x=>ck x) (e:=.inl ()) (b:=.inr) (N:=N) ?_ ?_ (by omega)]
  ·simp only[A6]
   by_cases h:fb (fun _ x=>ck x) 0 p.cZ=0
   ·simp[h]
   simp[h]
  ·intro i x hx hi;simp only[I0,hx,A6,Nj hN];rw[A2 (by omega),O6 hi (by omega)]
   by_cases h:ck x=0
   ·simp[h]
   simp[h]
  rw[A3 (by omega)]
 rw[A2 (by simpa using h2),A2 (by simpa using h2)]
theorem Ai3 {N:Nat} {types:Int} {p:B3} (hN:256<N):Fu N types p=some (IN types p):=by
 unfold Fu IN;simp only[D5,U3,X5,Gz,E4,S3,S4,C2,Cg]
 by_cases h1:types<1∨16<types
 ·rw[A2 h1,A2 h1]
 rw[A3 h1,A3 h1]
 by_cases h2:(p.cZ.length:Int)=types
 ·rw[A3 (by simpa using h2),A3 (by simpa using h2)];subst h2;rw[Bf (l:=p.cZ) (f:=fun _ x=>ck x) (e:=.inl ()) (b:=.inr) (N:=N) ?_ ?_ (by omega)]
  ·simp only[A6]
   by_cases h:fb (fun _ x=>ck x) 0 p.cZ=0
   ·simp[h]
   simp[h]
  ·intro i x hx hi;simp only[I0,hx,A6,XX hN];rw[A2 (by omega),O6 hi (by omega)]
   by_cases h:ck x=0
   ·simp[h]
   simp[h]
  rw[A3 (by omega)]
 rw[A2 (by simpa using h2),A2 (by simpa using h2)]
noncomputable abbrev JP (p:B3):Int:=IN (p.cZ.length:Int) p
theorem HV {p:B3}(h:JP p=0):(1≤p.cZ.length∧p.cZ.length≤16)∧∀x∈p.cZ,YP x:=by
 unfold JP IN at h
 split at h
 ·cases h
 rw[A3 (by simp)]at h
 refine⟨by omega,fun x hx=>?_⟩;obtain⟨k,hk⟩:=M3 hx;exact SN (Ax.1 h k x hk)
theorem Qa {N:Nat} {l:List B3} (hN:256<N) (hl:l.length<N) (hb:l.length<1000000000):M8 N l=some (fb (fun _ x=>JP x) 0 l):=by
 unfold M8;rw[Bf (l:=l) (f:=fun _ x=>JP x) (e:=.inl ()) (b:=.inr) (N:=N) ?_ ?_ hl]
 ·simp only[A6]
  by_cases h:fb (fun _ x=>JP x) 0 l=0
  ·simp[h]
  simp[h]
 ·intro i x hx hi;simp only[D5,X5,E4,I0,hx,A6,VG hN,C2];rw[A2 (by omega),O6 hi (by omega)]
  by_cases h:JP x=0
  ·simp[h]
  simp[h]
 simp[D5,E4]
theorem Oh {N:Nat}{p:B3}(hN:256<N):M8 N [p]=some (JP p):=by
 rw[Qa hN (by simp;omega) (by simp)];unfold fb fb
 split
 ·rename_i h;rw[h]
 rfl
def InP (p:B3)(s:B8):Prop:=0≤s.Typ∧∃l,p.cZ[s.Typ.toNat]? =some l∧KU l s.Num
noncomputable def Md (types:Int)(s:B8):Int:=if s.Typ<0∨types≤s.Typ then 6 else if s.Num< -1099511627776∨1099511627776<s.Num then 2 else 0
theorem Ai2 {N:Nat}{types:Int}{s:B8}:Av N types s=some (Md types s):=by
 unfold Av Md;simp only[D5,U3,KR,Gz,S3,C2]
 repeat' split
 all_goals rfl
theorem US {a b:Bool}{P:Prop}(h:a=true↔P)(k:b=true↔P):a=b:=by
 cases a<;>cases b<;>simp_all
end Go.Ab
namespace Go.Ab
noncomputable def Zv (n:Nat)(t:Int)(m:C3):Int:=if(0≤m.cX∧m.cX<(n:Int))∧0≤m.To∧m.To<(n:Int)then IN t m.On else 2
noncomputable def Ol (s:A0):Int:=if s.cW<1∨16<s.cW then 2 else if((s.cU.length:Int)<1∨256<(s.cU.length:Int))∨2048<(s.cV.length:Int)then 5 else fb (fun _ m=>Zv s.cU.length s.cW m) 0 s.cV
theorem AW {N:Nat} {s:A0} (hN:3000<N):K4 N s=some (Ol s):=by
 unfold K4 Ol;simp only[D5,U3,Gz,E4,S3,C2]
 by_cases h1:s.cW<1∨16<s.cW
 ·rw[A2 h1,A2 h1]
 rw[A3 h1,A3 h1]
 by_cases h2:((s.cU.length:Int)<1∨256<(s.cU.length:Int))∨2048<(s.cV.length:Int)
 ·rw[A2 h2,A2 h2]
 rw[A3 h2,A3 h2];rw[Bf (l:=s.cV) (f:=fun _ m=>Zv s.cU.length s.cW m) (e:=.inl ()) (b:=.inr) (N:=N) ?_ ?_ (by omega)]
 ·simp only[A6]
  by_cases h:fb (fun _ m=>Zv s.cU.length s.cW m) 0 s.cV=0
  ·simp[h]
  simp[h]
 ·intro i x hx hi;simp only[AT,KR,D5,X5,Dv,Bb,E4,I0,hx,A6,VG (show 256<N by omega)];rw[A2 (by omega),O6 hi (by omega)]
  by_cases h3:0≤x.cX∧x.cX<(s.cU.length:Int)
  ·rw[A3 (by simp;omega)]
   by_cases h4:0≤x.To∧x.To<(s.cU.length:Int)
   ·rw[A3 (by simp;omega),show Zv s.cU.length s.cW x=IN s.cW x.On from A2 ⟨h3,h4⟩]
    by_cases h:IN s.cW x.On=0
    ·simp[h]
    simp[h]
   rw[A2 (by simp;omega),show Zv s.cU.length s.cW x=2 from A3 (fun h=>h4 h.2)];simp
  rw[A2 (by simp;omega),show Zv s.cU.length s.cW x=2 from A3 (fun h=>h3 h.1)];simp
 rw[A3 (by omega)]
theorem Vy {N:Nat} {s:A0} (hN:3000<N):Ft N s=some (Ol s):=by
 unfold Ft Ol;simp only[D5,U3,KR,X5,Gz,E4,S3,C2]
 by_cases h1:s.cW<1∨16<s.cW
 ·rw[A2 h1,A2 h1]
 rw[A3 h1,A3 h1]
 by_cases h2:((s.cU.length:Int)<1∨256<(s.cU.length:Int))∨2048<(s.cV.length:Int)
 ·rw[A2 h2,A2 h2]
 rw[A3 h2,A3 h2];rw[Bf (l:=s.cV) (f:=fun _ m=>Zv s.cU.length s.cW m) (e:=.inl ()) (b:=.inr) (N:=N) ?_ ?_ (by omega)]
 ·simp only[A6]
  by_cases h:fb (fun _ m=>Zv s.cU.length s.cW m) 0 s.cV=0
  ·simp[h]
  simp[h]
 ·intro i x hx hi;simp only[I0,hx,A6,Ai3 (show 256<N by omega)];rw[A2 (by omega),O6 hi (by omega)];unfold Zv
  by_cases h3:(0≤x.cX∧x.cX<(s.cU.length:Int))∧0≤x.To∧x.To<(s.cU.length:Int)
  ·rw[A3 (by omega),A2 h3]
   by_cases h:IN s.cW x.On=0
   ·simp[h]
   simp[h]
  rw[A2 (by omega),A3 h3];simp
 rw[A3 (by omega)]
structure GN (s:A0):Prop where
 ty:1≤s.cW∧s.cW≤16
 fi:1≤s.cU.length∧s.cU.length≤256
 mv:s.cV.length≤2048
 each:∀m∈s.cV,((0≤m.cX∧m.cX<(s.cU.length:Int))∧0≤m.To∧m.To<(s.cU.length:Int))∧IN s.cW m.On=0
theorem Gw {s:A0}(h:Ol s=0):GN s:=by
 unfold Ol at h
 split at h
 ·cases h
 rename_i h1
 split at h
 ·cases h
 rename_i h2;refine⟨by omega,by omega,by omega,fun m hm=>?_⟩;obtain⟨k,hk⟩:=M3 hm;have:=Ax.1 h k m hk
 unfold Zv at this
 split at this
 ·rename_i h3;exact⟨h3,this⟩
 cases this
theorem OI {N:Nat} {s:A0} {i:Int} (hN:3000<N) (hs:s.cV.length≤2048):J6 N s i=some (s.cV.filter fun m=>decide (m.cX=i)):=by
 unfold J6 Da;rw[VO (β:=C3) (σ:=Unit) (R:=Unit) s.cV (fun _ i=>i) (fun _ m=>if m.cX=i then some ([m],.inl ())else some ([],.inl ())) (fun _=>()) () (by omega)]
 ·have key:∀l:List C3,CP (β:=C3) (σ:=Unit) (R:=Unit) (fun _ m=>if m.cX=i then some ([m],.inl ())else some ([],.inl ())) l ()=some (l.filter (fun m=>decide (m.cX=i)),.inl ()):=by
   intro l
   induction l with
   |nil=>rfl
   |cons m l ih=>
    by_cases h:m.cX=i
    ·simp[CP,h,ih]
    simp[CP,h,ih]
  rw[key];simp[V9]
 ·intro _ j x hx hj;simp only[D5,EZ,E4,I0,hx,A6,C2];rw[A2 hj,O7 (by omega) (by omega)]
  by_cases h:x.cX=i
  ·simp[h,V9]
  simp[h]
 intro _;simp[D5,E4]
noncomputable def Ni (p:B3)(x:B8):Bool:=@decide (InP p x) (Classical.propDecidable _)
theorem HZ {p:B3}{x:B8}:Ni p x=true↔InP p x:=by unfold Ni;exact@decide_eq_true_iff _ (Classical.propDecidable _)
theorem ZE {t:Int}{x:B8}(h:Md t x=0):(0≤x.Typ∧x.Typ<t)∧ -1099511627776≤x.Num∧x.Num≤1099511627776:=by
 unfold Md at h
 split at h
 ·cases h
 split at h
 ·cases h
 omega
theorem KB {t:Int}{p:B3}(h:IN t p=0):(p.cZ.length:Int)=t∧JP p=0:=by
 have h0:=h
 unfold IN at h
 split at h
 ·cases h
 split at h
 ·cases h
 rename_i h2
 have h2:(p.cZ.length:Int)=t:=by omega
 subst h2;exact⟨rfl,h0⟩
theorem Od {N:Nat} {t:Int} {p:B3} {x:B8} (hN:300<N) (hp:IN t p=0):∃r,V7 N p x=some r∧r.2=Md t x∧(r.2=0→r.1=Ni p x):=by
 obtain⟨ht,h0⟩:=KB hp;subst ht;unfold V7;simp only[Oh (show 256<N by omega),A6,X5,D5,KR,U3,Gz,E4,S3,S4,C2,Cg,h0,Fi,E3];obtain⟨hlen,hsrt⟩:=HV h0;unfold Md
 by_cases h1:x.Typ<0∨(p.cZ.length:Int)≤x.Typ
 ·simp only[A2 h1];exact⟨_,rfl,rfl,fun h=>by cases h⟩
 simp only[A3 h1]
 by_cases h2:x.Num< -1099511627776∨1099511627776<x.Num
 ·simp only[A2 h2];exact⟨_,rfl,rfl,fun h=>by cases h⟩
 simp only[A3 h2];obtain⟨k,hk⟩:∃k:Nat,x.Typ=(k:Int):=⟨x.Typ.toNat,by omega⟩
 have hkl:k<p.cZ.length:=by omega
 have hx:=E2 hkl
 have hcx:ck p.cZ[k]=0:=by
  have:=h0
  unfold JP IN at this
  rw[A3 (by omega),A3 (by simp)]at this
  exact Ax.1 this k _ hx
 obtain⟨b,e1,e2⟩:=Wa (N:=N) (n:=x.Num) (hsrt _ (AG hkl)) (by omega);unfold BU;simp only[hk,I0,hx,A6,Nj (show 256<N by omega),hcx,X5,AC,Q5,F6,E3,e1];refine⟨_,rfl,rfl,fun _=>US e2 ?_⟩;rw[HZ];unfold InP;rw[hk]
 constructor
 ·rintro⟨_,l,hl,h⟩
  rw[show(k:Int).toNat=k by omega,hx]at hl;cases hl;exact h
 intro h;exact⟨by omega,_,hx,h⟩
theorem Sd {N:Nat}{t:Int}{p:B3}{x:B8}(hN:300<N)(hp:IN t p=0)(hx:Md t x=0):S6 N p x=some (Ni p x):=by
 obtain⟨r,h1,h2,h3⟩:=Od (x:=x) hN hp;unfold S6;simp only[h1,A6,EZ,Dv]
 rw[hx]at h2
 rw[h3 h2,h2];simp
theorem XV {N:Nat} {t:Int} {p:B3} {x:B8} (hN:300<N) (hp:IN t p=0) (hx:Md t x=0):EE N p x=some (Ni p x):=by
 obtain⟨ht,h0⟩:=KB hp;subst ht;obtain⟨hlen,hsrt⟩:=HV h0;have h1:=ZE hx;obtain⟨k,hk⟩:∃k:Nat,x.Typ=(k:Int):=⟨x.Typ.toNat,by omega⟩
 have hkl:k<p.cZ.length:=by omega
 have hy:=E2 hkl;have hsx:=hsrt _ (AG hkl);obtain⟨b',e3,e4⟩:=Ai4 (N:=N) (l:=p.cZ[k]) (n:=x.Num) (by have:=hsx.1;omega) (by have:=hsx.1;omega);unfold EE;simp only[KR,D5,Dv,E4,G8,C2,hk,I0,hy,A6,e3];rw[A2 (by omega)];rw[US e4 (k:=?_)];rw[HZ];unfold InP;rw[hk]
 constructor
 ·rintro⟨_,l,hl,h⟩
  rw[show(k:Int).toNat=k by omega,hy]at hl;cases hl;exact h
 intro h;exact⟨by omega,_,hy,h⟩
theorem Au7 :((List.range 16).all fun k=>((CX 40000000 ((k:Int)+1)).bind fun r=>if r.2=0 then Y1 40000000 ((k:Int)+1) r.1 else none)==some 0)=true:=by kernel_rfl
theorem Au8 {t:Int}(h:1≤t∧t≤16):∃p,CX 40000000 t=some (p,0)∧IN t p=0:=by
 have:=List.all_eq_true.1 Au7 (t - 1).toNat (by simp;omega)
 rw[show(((t - 1).toNat:Nat):Int)+1=t by omega]at this
 have:=eq_of_beq this;obtain⟨r,h1,h2⟩:=bind_some this
 split at h2
 ·rename_i h3;obtain⟨p,e⟩:=r;cases h3;exact⟨p,h1,by rw[VG (by omega)]at h2;exact X8 h2⟩
 cases h2
end Go.Ab
