/- GTCo4 GTCo5 -/
import Derived.Test.YtanbgjgaafeplaaGreatDoorI13
set_option linter.all false
open List (append_assoc append_nil)
open Go.Ab.Ar (ar lst nt_eq)
namespace Go.Ab
open Go.RowKit Go.Proofs Go.Proofs.Tryz H6
variable [Ar][H6]
set_option maxRecDepth 100000
theorem k236 (N n:Nat) (ih127:Nu N n):Am1 N (n+1):=by
 intro aH aL aP aS r h
 unfold Q2 at h
 obtain⟨⟨w0,u0⟩,h1,hr⟩:=bind_some h;clear h;have hr:=AL hr;subst hr;have h:=h1;clear h1;refine N8 cf0 M4 func236 (by rfl) (by kernel_rfl) call236 ntmps236 (by rfl) (fun _=>rfl) ?_;intro yv I D hI hD hy tl F E H K hE hO hK hKD
 have hO:B8 (I (List.map (fun(x:(List A1))=>[sr eAr2 x]) (w0++[])++tl)) F [] H:=by rw[append_nil];exact hO
 cbv;refine D4 hE ?_;cbv;replace hO:=hO.tl0 (t:=.nil) rfl;obtain⟨w3,w4,s7,hx,h1,he⟩:=Q3 h;clear h;have h:=h1;clear h1
 rw[he,append_assoc]at hO
 clear he;refine Cc cf0 hE M4 (γ:=D7) (fun s1 g=>[(0,.v (yv)),(2,.v (.eref [.eref (B2 aL) 0] 0)),(3,.v (.eref [sr eAr2 aP] 0)),(4,.v (.eref [vi aS] 0)),(6,.v (.sl (lst eAs8 s1.1) g)),(10,.v (sr eAr4 aH.cO)),fi 11 (Ar.len aH.cO),fi 12 s1.2]) (fun s1 g w H1=>W6 g∧B8 (I (List.map (fun(x:(List A1))=>[sr eAr2 x]) w++tl)) F [.tl g] H1) (fun x e l w H1=>∃u1:D7,W6 u1∧e= .exit 0∧l=[(0,.v (yv)),(2,.v (.eref [.eref (B2 aL) 0] 0)),(6,.v (.sl (lst eAs8 x) u1))]∧B8 (I (List.map (fun(x:(List A1))=>[sr eAr2 x]) w++tl)) F [.tl u1] H1) (fun e l H1=>False) (by kernel_rfl) ?_ (w':=w4++[]) .nil hx ?_ ?_ ?_ ?_
 ·rintro s1 t2 w5 w6 H o ⟨ht2,hO⟩ h;clear hx
  skip
  cbv;refine A8 hE h (fun _ h=>?_) fun _ h=>?_
  ·cbv;refine B9 hE eAr3 h fun x8 h=>?_;cbv;refine A4 hE h (ih127 aL x8 aP aS) (.refl _) fun r9 h=>?_;cbv;refine Cd (f:=eAs8) hE Cv (by decide) hO 0 rfl ht2 (l:=s1.1) (m:=[r9]) (.refl _) (.lstc (.eq (eAt2 r9) (.refl _)) (.lst0)) h fun l11 t10 H hO ht10 h=>?_;cbv;obtain⟨hw,rfl⟩:=C7 h
   rw[←hw]at hO
   exact⟨_,t10,rfl,.e4 (.e4 .z),rfl,⟨ht10,hO⟩⟩
  cbv;obtain⟨hw,rfl⟩:=C7 h
  rw[←hw]at hO
  exact .inl ⟨_,_,rfl,⟨t2,ht2,rfl,rfl,hO⟩,.e rfl (.e2 .z),rfl⟩
 ·exact .e4 (.v (.slt _ (.lst0)) (.e rfl (.e rfl (.e rfl (.z)))))
 ·exact⟨trivial,hO⟩
 ·rintro e l H ⟨t12,ht12,rfl,rfl,hO⟩;clear hx;cbv;refine A8 hE h (fun _ h=>?_) fun _ h=>?_
  ·cbv;obtain⟨l13,hl,h⟩:=bind_some h;obtain⟨w14,h1,he⟩:=V3 h;clear h;have h:=h1;clear h1
   rw[he,append_assoc]at hO
   clear he
   rw[List.map_append,append_assoc]at hO
   refine Pd hE hI hD hy (c237 N N s7 ([]) l13 hl) hO (.cons (.ro _ _) (.cons (.lit _ (C2)) (.refl _))) (fun v H hb hO=>?_) (fun v H hb hO=>?_)
   ·cases hb;clear hl;cbv;obtain⟨hw,_⟩:=C7 h
    rw[←hw]at hO
    exact hK _ _ _ hO trivial
   cases hb;clear h hl;cbv;exact hKD _ _ _ hO trivial
  cbv;obtain⟨hw,_⟩:=C7 h
  rw[←hw]at hO
  exact hK _ _ _ hO trivial
 rintro e l H hX;exact hX.elim
theorem k238 (N n:Nat) (ih127:Nu N n) (ih233:Ad3 N n) (ih239:Al9 N n):Am0 N (n+1):=by
 intro aH aL aP aS r h
 unfold O3 at h
 obtain⟨⟨w0,u0⟩,h1,hr⟩:=bind_some h;clear h;have hr:=AL hr;subst hr;have h:=h1;clear h1;refine N8 cf238 M4 func238 (by rfl) (by kernel_rfl) call238 ntmps238 (by rfl) (fun _=>rfl) ?_;intro yv I D hI hD hy tl F E H K hE hO hK hKD
 have hO:B8 (I (List.map (fun(x:(List A1))=>[sr eAr2 x]) (w0++[])++tl)) F [] H:=by rw[append_nil];exact hO
 cbv;refine Mq hE hy.1 ?_;cbv;refine B9 hE eAr3 h fun x1 h=>?_;cbv;refine D5 hE (g:=fun r2=>sr eAr8 r2) h (ih127 aH x1 aP aS) (.refl _) fun r2 h=>?_;cbv;refine D4 hE ?_;cbv;obtain⟨w4,w5,s8,hx,h1,he⟩:=Q3 h;clear h;have h:=h1;clear h1
 rw[he,append_assoc]at hO
 clear he;refine Cc cf238 hE M4 (γ:=Unit) (fun s3 g=>[(1,.v (.eref [.eref (B2 aH) 0] 0)),(2,.v (.eref (C0 aL) 0)),(3,.v (.eref [sr eAr2 aP] 0)),(4,.v (.eref [vi aS] 0)),(5,.v (.eref [yv] 0)),(16,.v (sr eAr8 r2)),fi 17 (Ar.len r2),fi 18 s3]) (fun s3 g w H1=>B8 (I (List.map (fun(x:(List A1))=>[sr eAr2 x]) w++tl)) F [] H1) (fun x e l w H1=>match(generalizing:=false) x with| .inl y=>e= .exit 0∧l=[(1,.v (.eref [.eref (B2 aH) 0] 0)),(2,.v (.eref (C0 aL) 0)),(3,.v (.eref [sr eAr2 aP] 0)),(4,.v (.eref [vi aS] 0)),(5,.v (.eref [yv] 0))]∧B8 (I (List.map (fun(x:(List A1))=>[sr eAr2 x]) w++tl)) F [] H1| .inr y=>e= .ret∧l=[]∧B8 (I (List.map (fun(x:(List A1))=>[sr eAr2 x]) w++tl)) F [] H1) (fun e l H1=>(e= .ret∧l=[]∧B8 D F [] H1)) (by kernel_rfl) ?_ (w':=w5++[]) () hx ?_ ?_ ?_ ?_
 ·rintro s3 _ w6 w7 H o hO h;clear hx
  skip
  cbv;refine A8 hE h (fun _ h=>?_) fun _ h=>?_
  ·cbv;refine B9 hE eAs7 h fun x9 h=>?_;cbv;refine A8 hE h (fun _ h=>?_) fun _ h=>?_
   ·cbv;obtain⟨hw,rfl⟩:=C7 h
    rw[←hw]at hO
    exact .inl ⟨_,_,rfl,⟨rfl,rfl,hO⟩,.z,rfl⟩
   cbv;obtain⟨w10,h1,he⟩:=V3 h;clear h;have h:=h1;clear h1
   rw[he,append_assoc]at hO
   clear he;have hO:B8 (I ([sr eAr2 x9]::(List.map (fun(x:(List A1))=>[sr eAr2 x]) (w10++w7)++tl))) F [] _:=hO;refine DD hE hI hD hy hO (.refl _) (fun H hO=>?_) (fun H hO=>?_)
   ·cbv;refine HW hE (nt_eq _) ?_;cbv;obtain⟨hw,rfl⟩:=C7 h
    rw[←hw]at hO
    exact⟨_,(),rfl,.e4 (.e4 .z),rfl,hO⟩
   clear h;cbv;refine HV hE (nt_eq _) ?_;cbv;exact .inr ⟨_,⟨rfl,rfl,hO⟩,.z,rfl⟩
  cbv;obtain⟨hw,rfl⟩:=C7 h
  rw[←hw]at hO
  exact .inl ⟨_,_,rfl,⟨rfl,rfl,hO⟩,.e rfl (.e4 .z),rfl⟩
 ·exact .e4 (.e4 .z)
 ·exact hO
 ·rintro e l H hX;clear hx
  rcases s8 with y11|y25
  ·obtain⟨rfl,rfl,hO⟩:=hX;cbv;refine B9 hE eAr3 h fun x12 h=>?_;cbv;refine HG hE h (fun r13 hx=>ih233 aH x12 aP aS (.func (.func 239) [] [.eref [.eref (B2 aH) 0] 0,.eref (C0 aL) 0]) (fun y1 y2=>G9 N n y1 y2 aH aL) (fun y1 y2 r hx=>B3.value (F:=[]) (C:=[.eref [.eref (B2 aH) 0] 0,.eref (C0 aL) 0]) (ih239 y1 y2 aH aL r hx)) ⟨rfl,rfl⟩ r13 hx) (.refl _) fun r13 v14 hv14 h=>?_;cbv;obtain⟨w18,w19,o22,hx,h1,he⟩:=Q3 h;clear h;have h:=h1;clear h1
   rw[he,append_assoc]at hO
   clear he;refine XL cf238 hE M4 (ι:=Unit) (σ:=Unit) (R:=Unit) (enc:=fun(x:(List A1))=>[sr eAr2 x]) (fun _ w F1 H=>B8 (I (List.map (fun(x:(List A1))=>[sr eAr2 x]) w++tl)) F1 [] H) (fun _ e w F1 H=>False) (fun e F1 H=>e= .ret∧B8 D F1 [] H) (fun i _ y15=>[(5,.v (.eref [yv] 0)),(8,.v (sr eAr2 y15))]) (fun i _ y15 w F1 H=>B8 (I (List.map (fun(x:(List A1))=>[sr eAr2 x]) w++tl)) F1 [] H) (fun _ _=>B8.stable (hI _) _) (fun _ _ _=>⟨fun h=>h.elim,fun _ _ h=>h.elim⟩) (fun _=>E0.con (B8.stable hD _)) (fun _ _ _ _=>B8.stable (hI _) _) hv14 hx (w':=w19++[]) hO (by decide) (fun _=>rfl) (by kernel_rfl) (by kernel_rfl) ?_ ?_ ?_ ?_ ?_
   ·rintro E i17 y15 _ w F16 H hE hO;clear hx h;cbv;exact⟨(),hO,.e2 .z,rfl⟩
   ·rintro E i17 _ y15 _ w20 w21 F16 H o hE hF h hO;clear hx;cbv;obtain⟨w23,h1,he⟩:=V3 h;clear h;have h:=h1;clear h1
    rw[he,append_assoc]at hO
    clear he;have hO:B8 (I ([sr eAr2 y15]::(List.map (fun(x:(List A1))=>[sr eAr2 x]) (w23++w21)++tl))) F16 [] _:=hO;refine DD hE hI hD hy hO (.refl _) (fun H hO=>?_) (fun H hO=>?_)
    ·cbv;refine HW hE (nt_eq _) ?_;cbv;obtain⟨hw,rfl⟩:=C7 h
     rw[←hw]at hO
     exact⟨_,rfl,hO⟩
    clear h;cbv;refine HV hE (nt_eq _) ?_;cbv
    first|exact .inr ⟨rfl,rfl,hO⟩|exact .inr (hO)
   ·rintro d24 _ H rfl hd hO;have hO:B8 (I (List.map (fun(x:(List A1))=>[sr eAr2 x]) (w19++[])++tl)) F [.blk d24 DB] H:=B8.dblk hd hO;clear hd hx;cbv;refine Jj hE hO 0 rfl fun H hO=>?_;cbv;obtain⟨hw,_⟩:=C7 h
    rw[←hw]at hO
    exact hK _ _ _ hO trivial
   ·rintro _ _ _ _ _ _ h;exact h.elim
   rintro d24 e H hd ⟨rfl,hO⟩;have hO:B8 D F [.blk d24 DB] H:=B8.dblk hd hO;clear hd hx h;cbv;refine Jj hE hO 0 rfl fun H hO=>?_;cbv;exact hKD _ _ _ hO trivial
  obtain⟨rfl,rfl,hO⟩:=hX;cbv;obtain⟨hw,_⟩:=C7 h
  rw[←hw]at hO
  exact hK _ _ _ hO trivial
 rintro e l H hX;obtain⟨rfl,rfl,hO⟩:=hX;clear h;cbv;exact hKD _ _ _ hO trivial
theorem k239 (N n:Nat)(ih127:Nu N n):Al9 N (n+1):=by
 intro aO aM aL aP r h
 unfold G9 at h
 refine I8 cf0 func239 call239 ntmps239 ?_;intro E H0 K hE hK hO;cbv;refine A4 hE h (ih127 aL aP aO aM) (.refl _) fun r1 h=>?_;cbv;cases h;exact hK hO (.refl _)
theorem k240 (N n:Nat) (ih127:Nu N n):Al8 N (n+1):=by
 intro aH aL aP aS r h
 unfold O2 at h
 obtain⟨⟨w0,u0⟩,h1,hr⟩:=bind_some h;clear h;have hr:=AL hr;subst hr;have h:=h1;clear h1;refine N8 cf240 M4 func240 (by rfl) (by kernel_rfl) call240 ntmps240 (by rfl) (fun _=>rfl) ?_;intro yv I D hI hD hy tl F E H K hE hO hK hKD
 have hO:B8 (I (List.map (fun(x:(List A1))=>[sr eAr2 x]) (w0++[])++tl)) F [] H:=by rw[append_nil];exact hO
 cbv;refine B9 hE eAr3 h fun x1 h=>?_;cbv;refine D5 hE (g:=fun r2=>sr eAr8 r2) h (ih127 aH x1 aP aS) (.refl _) fun r2 h=>?_;cbv;refine D4 hE ?_;cbv;obtain⟨w4,w5,s8,hx,h1,he⟩:=Q3 h;clear h;have h:=h1;clear h1
 rw[he,append_assoc]at hO
 clear he;refine Cc cf240 hE M4 (γ:=Unit) (fun s3 g=>[(0,.v (yv)),(1,.v (.eref [.eref (B2 aH) 0] 0)),(2,.v (.eref (C0 aL) 0)),(3,.v (.eref [sr eAr2 aP] 0)),(15,.v (sr eAr8 r2)),fi 16 (Ar.len r2),fi 17 s3]) (fun s3 g w H1=>B8 (I (List.map (fun(x:(List A1))=>[sr eAr2 x]) w++tl)) F [] H1) (fun x e l w H1=>e= .exit 0∧l=[]∧B8 (I (List.map (fun(x:(List A1))=>[sr eAr2 x]) w++tl)) F [] H1) (fun e l H1=>(e= .ret∧l=[]∧B8 D F [] H1)) (by kernel_rfl) ?_ (w':=w5++[]) () hx ?_ ?_ ?_ ?_
 ·rintro s3 _ w6 w7 H o hO h;clear hx
  skip
  cbv;refine A8 hE h (fun _ h=>?_) fun _ h=>?_
  ·cbv;refine B9 hE eAs7 h fun x9 h=>?_;cbv;refine A4 hE h (c241 N aH aL aP x9) (.refl _) fun r10 h=>?_;cbv;refine A8 hE h (fun _ h=>?_) fun _ h=>?_
   ·cbv;obtain⟨w11,h1,he⟩:=V3 h;clear h;have h:=h1;clear h1
    rw[he,append_assoc]at hO
    clear he;have hO:B8 (I ([sr eAr2 x9]::(List.map (fun(x:(List A1))=>[sr eAr2 x]) (w11++w7)++tl))) F [] _:=hO;refine DD hE hI hD hy hO (.refl _) (fun H hO=>?_) (fun H hO=>?_)
    ·cbv;refine HW hE (nt_eq _) ?_;cbv;obtain⟨hw,rfl⟩:=C7 h
     rw[←hw]at hO
     exact⟨_,(),rfl,.e rfl (.e2 (.e4 .z)),rfl,hO⟩
    clear h;cbv;refine HV hE (nt_eq _) ?_;cbv;exact .inr ⟨_,⟨rfl,rfl,hO⟩,.z,rfl⟩
   cbv;obtain⟨hw,rfl⟩:=C7 h
   rw[←hw]at hO
   exact⟨_,(),rfl,.e rfl (.e2 (.e4 .z)),rfl,hO⟩
  cbv;obtain⟨hw,rfl⟩:=C7 h
  rw[←hw]at hO
  exact .inl ⟨_,_,rfl,⟨rfl,rfl,hO⟩,.z,rfl⟩
 ·exact .e rfl (.e2 (.e4 .z))
 ·exact hO
 ·rintro e l H ⟨rfl,rfl,hO⟩;clear hx;cbv;obtain⟨hw,_⟩:=C7 h
  rw[←hw]at hO
  exact hK _ _ _ hO trivial
 rintro e l H hX;obtain⟨rfl,rfl,hO⟩:=hX;clear h;cbv;exact hKD _ _ _ hO trivial
theorem k268 (N n:Nat) (ih127:Nu N n):Al7 N (n+1):=by
 intro aH aL aP aS bU bW cK r h
 unfold O1 at h
 obtain⟨⟨w0,u0⟩,h1,hr⟩:=bind_some h;clear h;have hr:=AL hr;subst hr;have h:=h1;clear h1;refine N8 cf268 M4 func268 (by rfl) (by kernel_rfl) call268 ntmps268 (by rfl) (fun _=>rfl) ?_;intro yv I D hI hD hy tl F E H K hE hO hK hKD
 have hO:B8 (I (List.map (fun(x:(List A1))=>[sr eAr2 x]) (w0++[])++tl)) F [] H:=by rw[append_nil];exact hO
 cbv;refine A4 hE h (ih127 aH aL aP aS) (.refl _) fun r1 h=>?_;cbv;refine D4 hE ?_;cbv;obtain⟨w3,w4,s7,hx,h1,he⟩:=Q3 h;clear h;have h:=h1;clear h1
 rw[he,append_assoc]at hO
 clear he;refine Cc cf268 hE M4 (γ:=Unit) (fun s2 g=>[(0,.v (yv)),(1,.v (.eref [.eref (B2 aH) 0] 0)),(3,.v (.eref [sr eAr2 aP] 0)),(5,.v (.eref [bU] 0)),(15,.v (sr eAr8 r1)),fi 16 (Ar.len r1),fi 17 s2]) (fun s2 g w H1=>B8 (I (List.map (fun(x:(List A1))=>[sr eAr2 x]) w++tl)) F [] H1) (fun x e l w H1=>match(generalizing:=false) x with| .inl y=>e= .exit 0∧l=[]∧B8 (I (List.map (fun(x:(List A1))=>[sr eAr2 x]) w++tl)) F [] H1| .inr y=>e= .ret∧l=[]∧B8 (I (List.map (fun(x:(List A1))=>[sr eAr2 x]) w++tl)) F [] H1) (fun e l H1=>(e= .ret∧l=[]∧B8 D F [] H1)) (by kernel_rfl) ?_ (w':=w4++[]) () hx ?_ ?_ ?_ ?_
 ·rintro s2 _ w5 w6 H o hO h;clear hx
  skip
  cbv;refine A8 hE h (fun _ h=>?_) fun _ h=>?_
  ·cbv;refine B9 hE eAs7 h fun x8 h=>?_;cbv;refine D5 hE (g:=fun r9=>sr eAr2 r9) h (c269 N aP x8) (.refl _) fun r9 h=>?_;cbv;refine D5 hE (g:=fun r10=>vi r10) h (c270 N x8) (.refl _) fun r10 h=>?_;cbv;refine XM hE (g:=fun r11=>sr eAr8 r11) h (fun r11 hx=>cK r9 (ar .add .i64 r10 1) r11 hx) (.refl _) fun r11 h=>?_;cbv;refine D4 hE ?_;cbv;obtain⟨w13,w14,s17,hx,h1,he⟩:=Q3 h;clear h;have h:=h1;clear h1
   rw[he,append_assoc]at hO
   clear he;refine Cc cf268 hE M4 (γ:=Unit) (fun s12 g=>[(0,.v (yv)),(1,.v (.eref [.eref (B2 aH) 0] 0)),(3,.v (.eref [sr eAr2 aP] 0)),(5,.v (.eref [bU] 0)),(8,.v (sr eAr2 x8)),(15,.v (sr eAr8 r1)),fi 16 (Ar.len r1),fi 17 s2,(28,.v (sr eAr8 r11)),fi 29 (Ar.len r11),fi 30 s12]) (fun s12 g w H1=>B8 (I (List.map (fun(x:(List A1))=>[sr eAr2 x]) w++tl)) F [] H1) (fun x e l w H1=>match(generalizing:=false) x with| .inl y=>e= .exit 2∧l=[(0,.v (yv)),(1,.v (.eref [.eref (B2 aH) 0] 0)),(3,.v (.eref [sr eAr2 aP] 0)),(5,.v (.eref [bU] 0)),(15,.v (sr eAr8 r1)),fi 16 (Ar.len r1),fi 17 s2]∧B8 (I (List.map (fun(x:(List A1))=>[sr eAr2 x]) w++tl)) F [] H1| .inr y=>e= .ret∧l=[]∧B8 (I (List.map (fun(x:(List A1))=>[sr eAr2 x]) w++tl)) F [] H1) (fun e l H1=>(e= .ret∧l=[]∧B8 D F [] H1)) (by kernel_rfl) ?_ (w':=w14++w6) () hx ?_ ?_ ?_ ?_
   ·rintro s12 _ w15 w16 H o hO h;clear hx
    skip
    cbv;refine A8 hE h (fun _ h=>?_) fun _ h=>?_
    ·cbv;refine B9 hE eAs7 h fun x18 h=>?_;cbv;refine A8 hE h (fun _ h=>?_) fun _ h=>?_
     ·cbv;obtain⟨hw,rfl⟩:=C7 h
      rw[←hw]at hO
      exact .inl ⟨_,_,rfl,⟨rfl,rfl,hO⟩,.z,rfl⟩
     cbv;refine A4 hE h (c269 N x8 x18) (.refl _) fun r19 h=>?_;cbv;obtain⟨w20,h1,he⟩:=V3 h;clear h;have h:=h1;clear h1
     rw[he,append_assoc]at hO
     clear he;have hO:B8 (I ([sr eAr2 r19]::(List.map (fun(x:(List A1))=>[sr eAr2 x]) (w20++w16)++tl))) F [] _:=hO;refine DD hE hI hD hy hO (.refl _) (fun H hO=>?_) (fun H hO=>?_)
     ·cbv;refine HW hE (nt_eq _) ?_;cbv;obtain⟨hw,rfl⟩:=C7 h
      rw[←hw]at hO
      exact⟨_,(),rfl,.e rfl (.e2 (.e4 (.e4 .z))),rfl,hO⟩
     clear h;cbv;refine HV hE (nt_eq _) ?_;cbv;exact .inr ⟨_,⟨rfl,rfl,hO⟩,.z,rfl⟩
    cbv;obtain⟨hw,rfl⟩:=C7 h
    rw[←hw]at hO
    exact .inl ⟨_,_,rfl,⟨rfl,rfl,hO⟩,.e rfl (.e2 (.e4 .z)),rfl⟩
   ·exact .e rfl (.e2 (.e4 (.e4 .z)))
   ·exact hO
   ·rintro e l H hX;clear hx
    rcases s17 with y21|y22
    ·obtain⟨rfl,rfl,hO⟩:=hX;cbv;obtain⟨hw,rfl⟩:=C7 h
     rw[←hw]at hO
     exact⟨_,(),rfl,.e rfl (.e2 (.e4 .z)),rfl,hO⟩
    obtain⟨rfl,rfl,hO⟩:=hX;cbv;obtain⟨hw,rfl⟩:=C7 h
    rw[←hw]at hO
    exact .inl ⟨_,_,rfl,⟨rfl,rfl,hO⟩,.z,rfl⟩
   rintro e l H hX;obtain⟨rfl,rfl,hO⟩:=hX;clear h;cbv;exact .inr ⟨_,⟨rfl,rfl,hO⟩,.z,rfl⟩
  cbv;obtain⟨hw,rfl⟩:=C7 h
  rw[←hw]at hO
  exact .inl ⟨_,_,rfl,⟨rfl,rfl,hO⟩,.z,rfl⟩
 ·exact .e rfl (.e2 (.e4 .z))
 ·exact hO
 ·rintro e l H hX;clear hx
  rcases s7 with y23|y24
  ·obtain⟨rfl,rfl,hO⟩:=hX;cbv;obtain⟨hw,_⟩:=C7 h
   rw[←hw]at hO
   exact hK _ _ _ hO trivial
  obtain⟨rfl,rfl,hO⟩:=hX;cbv;obtain⟨hw,_⟩:=C7 h
  rw[←hw]at hO
  exact hK _ _ _ hO trivial
 rintro e l H hX;obtain⟨rfl,rfl,hO⟩:=hX;clear h;cbv;exact hKD _ _ _ hO trivial
theorem R8 (N:Nat):∀n,Nu N n∧Am8 N n∧Am7 N n∧Am6 N n∧Am5 N n∧Am4 N n∧Ad3 N n∧Am3 N n∧Am2 N n∧Am1 N n∧Am0 N n∧Al9 N n∧Al8 N n∧Al7 N n:=by
 intro n
 induction n with
 |zero=>exact⟨(by intro aK aA aO aM r h;unfold C6 at h;cases h),(by intro aK aA aO aM r h;unfold L5 at h;cases h),(by intro aK aA aO aM r h;unfold L6 at h;cases h),(by intro aK aA aO aM r h;unfold L7 at h;cases h),(by intro aK aA aO aM r h;unfold K5 at h;cases h),(by intro aK aA aO aM r h;unfold F3 at h;cases h),(by intro aK aA aO aM bX bT cI cJ r h;unfold K4 at h;cases h),(by intro aO aM aL aP r h;unfold J8 at h;cases h),(by intro aH aL aP aS r h;unfold Q1 at h;cases h),(by intro aH aL aP aS r h;unfold Q2 at h;cases h),(by intro aH aL aP aS r h;unfold O3 at h;cases h),(by intro aO aM aL aP r h;unfold G9 at h;cases h),(by intro aH aL aP aS r h;unfold O2 at h;cases h),(by intro aH aL aP aS bU bW cK r h;unfold O1 at h;cases h)⟩
 |succ n ih=>
  obtain⟨ih127,ih191,ih192,ih193,ih194,ih195,ih233,ih234,ih235,ih236,ih238,ih239,ih240,ih268⟩:=ih;exact⟨k127 N n ih191 ih192 ih193 ih194 ih195,k191 N n ih127 ih233 ih234,k192 N n ih235,k193 N n ih236,k194 N n ih238,k195 N n ih240,k233 N n ih268,k234 N n ih127,k235 N n ih127,k236 N n ih127,k238 N n ih127 ih233 ih239,k239 N n ih127,k240 N n ih127,k268 N n ih127⟩
theorem c127 (N n aK aA aO aM r)(h:C6 N n aK aA aO aM=some r):B3 prog 127 [.eref (B2 aK) 0,(B6 aA),sr eAr2 aO,vi aM] (sr eAr8 r):=(R8 N n).1 aK aA aO aM r h
theorem c128 {cmp:D1→D1→Option Int}{g:Nat}{C:List V}(eg:∀vals w,(callFunc g vals).run prog w= .ok (.enter g vals) w)(hc:∀y1 y2 r,cmp y1 y2=some r→B3 prog g ([(BE y1),(BE y2)]++C) (vi r)){l r:List D1}(h:GE cmp l=some r):
 PQ prog 128 (.func (.func g) [] C) 1 (lst eAr5 l) (lst eAr5 r):=KS Go.Proofs.Tryz.sorts128 call128 (va:=fun x=>(DG x)) eAs4 (fun _=>rfl) eg hc h
def cf69 :Cf:=⟨[13,6000010],[(19,12)],[],[],[(70,10),(70,68)],[]⟩
theorem c69 (N aA aF r) (h:M2 N aA aF=some r):B3 prog 69 [(B6 aA),sr eAr6 aF] (.tup [sr eAr5 r.1,vi r.2]):=by
 unfold M2 at h
 refine I8 cf69 func69 call69 ntmps69 ?_;intro E H0 K hE hK hO;cbv;refine A4 hE h (c49 N aA) (.refl _) fun r1 h=>?_;cbv;refine A8 hE h (fun hc h=>?_) (fun hc h=>?_)
 ·cbv;cases h;exact hK hO (.tup (.cons (.lit _ (C2)) (.refl _)))
 cbv;refine A4 hE h (c126 N aF) (.refl _) fun r2 h=>?_;cbv;refine A8 hE h (fun hc h=>?_) (fun hc h=>?_)
 ·cbv;cases h;exact hK hO (.tup (.cons (.lit _ (C2)) (.refl _)))
 cbv;refine A4 hE h (c127 N N (⟨aF,false⟩:B0) aA ([]) 0) (.cons (.refl _) (.cons (.refl _) (.cons (.lit _ (C2)) (.refl _)))) fun r3 h=>?_;cbv;refine Ao7 hE (fun hc=>by cases hc) (fun hc=>?_);cbv;refine XN hE (f:=eAr5) hO fun q4 H hq4 hO=>?_;cbv;refine D4 hE ?_;cbv;obtain⟨s7,hx,h⟩:=bind_some h;refine W3 cf69 hE M4 (γ:=OG) (fun s5 g=>[(1,.v (sr eAr6 aF)),(10,.v (.own g.id g.lo g.n)),(36,.v (sr eAr8 r3)),fi 37 (Ar.len r3),fi 38 s5.1]) (fun s5 g H1=>Cr g (Ar.len s5.2)∧B8 Eq H0 [ob g 1 eAr5 s5.2] H1) (fun x e l H1=>∃u1:OG,Cr u1 (Ar.len x)∧e= .exit 0∧l=[(10,.v (.own u1.id u1.lo u1.n))]∧B8 Eq H0 [ob u1 1 eAr5 x] H1) (by kernel_rfl) ?_ q4 hx ?_ ?_ ?_
 ·rintro s5 q6 H o ⟨hq6,hO⟩ h;clear hx;cbv;refine A8 hE h (fun hc h=>?_) (fun hc h=>?_)
  ·cbv;refine B9 hE eAs7 h fun x8 h=>?_;cbv;refine C3 hE hO fun b9 H hO=>?_;cbv;refine D4 hE ?_;cbv;replace hO:=hO.cast (L':=[cb b9 [.sl (lst eAs3 ([])) .nil],ob q6 1 eAr5 s5.2]) (by simp only[ob,cb,sr,←C2]<;>rfl);replace hO:=hO.tl0 (t:=.nil) rfl;obtain⟨s12,hx,h⟩:=bind_some h;refine W3 cf69 hE M4 (γ:=D7) (fun s10 g=>[(1,.v (sr eAr6 aF)),(10,.v (.own q6.id q6.lo q6.n)),(13,.v (.ref b9 0)),(36,.v (sr eAr8 r3)),fi 37 (Ar.len r3),fi 38 s5.1,(42,.v (sr eAr2 x8)),fi 43 (Ar.len x8),fi 44 s10.1]) (fun s10 g H1=>W6 g∧B8 Eq H0 [.tl g,cb b9 [.sl (lst eAs3 s10.2.cQ) g],ob q6 1 eAr5 s5.2] H1) (fun x e l H1=>∃u1:D7,W6 u1∧e= .exit 2∧l=[(1,.v (sr eAr6 aF)),(10,.v (.own q6.id q6.lo q6.n)),(13,.v (.ref b9 0)),(36,.v (sr eAr8 r3)),fi 37 (Ar.len r3),fi 38 s5.1]∧B8 Eq H0 [.tl u1,cb b9 [.sl (lst eAs3 x.cQ) u1],ob q6 1 eAr5 s5.2] H1) (by kernel_rfl) ?_ .nil hx ?_ ?_ ?_
   ·rintro s10 t11 H o ⟨ht11,hO⟩ h;clear hx;cbv;refine A8 hE h (fun hc h=>?_) (fun hc h=>?_)
    ·cbv;refine B9 hE eAs6 h fun x13 h=>?_;cbv;refine B1 hE hO 1 rfl ?_;cbv;refine B9 hE eAs0 h fun x14 h=>?_;cbv;refine D5 hE (g:=fun r15=>(IW r15)) h (c96 N x14) (.refl _) fun r15 h=>?_;cbv;refine Cd (f:=eAs3) hE Qk (by decide) hO 0 rfl ht11 (l:=s10.2.cQ) (m:=[(⟨x13.cT,r15⟩:E8)]) (.refl _) (.lstc (.eq (eAs5 (⟨x13.cT,r15⟩:E8)) (.refl _)) (.lst0)) h fun l17 t16 H hO ht16 h=>?_;cbv;refine A9 hE hO 1 rfl rfl fun H hO=>?_;cbv;cases h;exact⟨_,t16,rfl,.e rfl (.e4 (.e4 .z)),rfl,ht16,hO⟩
    cbv;cases h;exact⟨_,_,rfl,⟨t11,ht11,rfl,rfl,hO⟩,.e2 (.e4 .z),rfl⟩
   ·exact .e rfl (.e4 (.e4 .z))
   ·exact⟨trivial,hO⟩
   clear hx;rintro e l H ⟨t18,ht18,rfl,rfl,hO⟩;cbv;refine B1 hE hO 1 rfl ?_;cbv;refine Ix (f:=eAr5) hE JQ (by decide) hO hq6 2 rfl (m:=[s12]) (Ik (f:=eAr5) hE JQ (.lstc (.eq (eAs4 s12) (.agg (.cons (.ro _ _) (.refl _)))) (.lst0))) h fun l20 q19 H hq19 hO h=>?_;cbv;cases h;exact⟨_,q19,rfl,.e rfl (.e4 .z),rfl,hq19,hO.tail.tail⟩
  cbv;cases h;exact⟨_,_,rfl,⟨q6,hq6,rfl,rfl,hO⟩,.e rfl .z,rfl⟩
 ·exact .e rfl (.e4 .z)
 ·exact⟨hq4,hO⟩
 clear hx;rintro e l H ⟨q21,hq21,rfl,rfl,hO⟩;cbv;refine Rj hE hO hq21 0 rfl h (fun l22 hx=>c128 (g:=102) (C:=[]) call102 (fun y1 y2 r hx=>c102 N y1 y2 r hx) hx) fun l22 H hq21 hO h=>?_;cbv;refine XO hE hO hq21 0 rfl fun H hO=>?_;cbv;refine Mq hE (by trivial) ?_;cbv;cases h;exact hK hO (.refl _)
theorem c14 (N aA aF r)(h:X3 N aA aF=some r):B3 prog 14 [(B6 aA),sr eAr6 aF] (.tup [sr eAr5 r.1,vi r.2]):=by
 unfold X3 at h
 refine I8 cf0 func14 call14 ntmps14 ?_;intro E H0 K hE hK hO;cbv;refine A4 hE h (c69 N aA aF) (.refl _) fun r1 h=>?_;cbv;cases h;exact hK hO (.refl _)
theorem c39 (N aA aF r)(h:Dl N aA aF=some r):B3 prog 39 [(B6 aA),sr eAr6 aF] (.tup [vi r.1,vi r.2]):=by
 unfold Dl at h
 refine I8 cf0 func39 call39 ntmps39 ?_;intro E H0 K hE hK hO;cbv;refine A4 hE h (c69 N aA aF) (.refl _) fun r1 h=>?_;cbv;refine D4 hE ?_;cbv;cases h;exact hK hO (.refl _)
def cf40 :Cf:=⟨[4],[],[],[],[],[]⟩
theorem c40 (N aA aF r)(h:Dk N aA aF=some r):B3 prog 40 [(B6 aA),sr eAr6 aF] (.tup [(BE r.1),.bool r.2.1,vi r.2.2]):=by
 unfold Dk at h
 refine I8 cf40 func40 call40 ntmps40 ?_;intro E H0 K hE hK hO;cbv;refine C3 hE hO fun b1 H hO=>?_;cbv;refine A4 hE h (c69 N aA aF) (.refl _) fun r2 h=>?_;cbv;refine D4 hE ?_;cbv;refine A8 hE h (fun _ h=>?_) fun _ h=>?_
 ·cbv;refine A9 hE hO 0 rfl rfl fun H hO=>?_;cbv;refine B1 hE hO 0 rfl ?_;cbv;cases h;exact hK hO (.tup (.cons (.agg (.cons (.lit _ (C2)) (.refl _))) (.refl _)))
 cbv;refine B9 hE eAs4 h fun x3 h=>?_;cbv;refine A9 hE hO 0 rfl rfl fun H hO=>?_;cbv;refine B1 hE hO 0 rfl ?_;cbv;cases h;exact hK hO (.refl _)
theorem c62 (N aI r) (h:FO N aI=some r):B3 prog 62 [sr (V.int .i64) aI] (sr eAr6 r):=by
 unfold FO at h
 refine I8 cf0 func62 call62 ntmps62 ?_;intro E H0 K hE hK hO;cbv;refine D4 hE ?_;cbv;replace hO:=hO.tl0 (t:=.nil) rfl;obtain⟨s3,hx,h⟩:=bind_some h;refine W3 cf0 hE M4 (γ:=D7) (fun s1 g=>[(3,.v (.sl (lst eAr6 s1.1) g)),(6,.v (sr (V.int .i64) aI)),fi 7 (Ar.len aI),fi 8 s1.2]) (fun s1 g H1=>W6 g∧B8 Eq H0 [.tl g] H1) (fun x e l H1=>∃u1:D7,W6 u1∧e= .exit 0∧l=[(3,.v (.sl (lst eAr6 x) u1))]∧B8 Eq H0 [.tl u1] H1) (by kernel_rfl) ?_ .nil hx ?_ ?_ ?_
 ·rintro s1 t2 H o ⟨ht2,hO⟩ h;clear hx;cbv;refine A8 hE h (fun _ h=>?_) fun _ h=>?_
  ·cbv;refine B9 hE (fun _=>rfl) h fun x4 h=>?_;cbv;refine Cd (f:=eAr6) hE NB (by decide) hO 0 rfl ht2 (l:=s1.1) (m:=[(⟨0,s1.2,0,ar .add .i64 s1.2 1,[(⟨0,x4,⟨#[]⟩⟩:A5)]⟩:A6)]) (.refl _) (.lstc (.eq (eAs0 (⟨0,s1.2,0,ar .add .i64 s1.2 1,[(⟨0,x4,⟨#[]⟩⟩:A5)]⟩:A6)) (.agg (.cons (.refl _) (.cons (.refl _) (.cons (.refl _) (.cons (.refl _) (.cons (.lit _ (D6 ((eAr9 (⟨0,x4,⟨#[]⟩⟩:A5)).symm) (C2))) (.refl _)))))))) (.lst0)) h fun l6 t5 H hO ht5 h=>?_;cbv;cases h;exact⟨_,t5,rfl,.e4 .z,rfl,ht5,hO⟩
  cbv;cases h;exact⟨_,_,rfl,⟨t2,ht2,rfl,rfl,hO⟩,.e rfl .z,rfl⟩
 ·exact .v (.slt _ (.lst0)) (.e rfl (.e2 .z))
 ·exact⟨trivial,hO⟩
 clear hx;rintro e l H ⟨t7,ht7,rfl,rfl,hO⟩;cbv;cases h;exact hK hO (.ro _ _)
def cf63 :Cf:=⟨[4],[],[],[],[],[]⟩
theorem c63 (N aQ cD r)(h:BK N aQ cD=some r):B3 prog 63 [vi aQ,sr eAr4 cD] ((B6 r)):=by
 unfold BK at h
 refine I8 cf63 func63 call63 ntmps63 ?_;intro E H0 K hE hK hO;cbv;refine C3 hE hO fun b1 H hO=>?_;cbv;refine A9 hE hO 0 rfl rfl fun H hO=>?_;cbv;refine B1 hE hO 0 rfl ?_;cbv;cases h;exact hK hO (.agg (.cons (.refl _) (.cons (.refl _) (.cons (.refl _) (.cons (.refl _) (.cons (.refl _) (.cons (.refl _) (.cons (.refl _) (.cons (.lit _ (C2)) (.refl _))))))))))
def cf64 :Cf:=⟨[4],[],[],[],[],[]⟩
theorem c64 (N aJ bO r)(h:Bc N aJ bO=some r):B3 prog 64 [vi aJ,(G0 bO)] ((B6 r)):=by
 unfold Bc at h
 refine I8 cf64 func64 call64 ntmps64 ?_;intro E H0 K hE hK hO;cbv;refine C3 hE hO fun b1 H hO=>?_;cbv;refine A9 hE hO 0 rfl rfl fun H hO=>?_;cbv;refine B1 hE hO 0 rfl ?_;cbv;cases h;exact hK hO (.agg (.cons (.refl _) (.cons (.lit _ (C2)) (.refl _))))
def cf120 :Cf:=⟨[2],[],[],[],[],[]⟩
theorem c120 (N aD r)(h:Iq N aD=some r):B3 prog 120 [.bool aD] ((D3 r)):=by
 unfold Iq at h
 refine I8 cf120 func120 call120 ntmps120 ?_;intro E H0 K hE hK hO;cbv;refine C3 hE hO fun b1 H hO=>?_;cbv;refine A8 hE h (fun _ h=>?_) fun _ h=>?_
 ·cbv;refine A9 hE hO 0 rfl rfl fun H hO=>?_;cbv;refine B1 hE hO 0 rfl ?_;cbv;cases h;exact hK hO (.refl _)
 cbv;refine A9 hE hO 0 rfl rfl fun H hO=>?_;cbv;refine B1 hE hO 0 rfl ?_;cbv;cases h;exact hK hO (.refl _)
def cf65 :Cf:=⟨[0],[],[],[],[],[]⟩
theorem c65 (N r)(h:Fm N=some r):B3 prog 65 [] ((G0 r)):=by
 unfold Fm at h
 refine I8 cf65 func65 call65 ntmps65 ?_;intro E H0 K hE hK hO;cbv;refine C3 hE hO fun b1 H hO=>?_;cbv;refine A4 hE h (c120 N true) (.refl _) fun r2 h=>?_;cbv;refine A9 hE hO 0 rfl rfl fun H hO=>?_;cbv;refine B1 hE hO 0 rfl ?_;cbv;cases h;exact hK hO (.agg (.cons (.refl _) (.cons (.lit _ (C2)) (.refl _))))
def cf66 :Cf:=⟨[4],[],[],[],[],[]⟩
theorem c66 (N aC aD r)(h:BL N aC aD=some r):B3 prog 66 [(G0 aC),(G0 aD)] ((G0 r)):=by
 unfold BL at h
 refine I8 cf66 func66 call66 ntmps66 ?_;intro E H0 K hE hK hO;cbv;refine C3 hE hO fun b1 H hO=>?_;cbv;refine A9 hE hO 0 rfl rfl fun H hO=>?_;cbv;refine B1 hE hO 0 rfl ?_;cbv;cases h;exact hK hO (.agg (.cons (.refl _) (.cons (.lit _ (D6 ((eAs1 aC).symm) (D6 ((eAs1 aD).symm) (C2)))) (.refl _))))
def cf67 :Cf:=⟨[2],[],[],[],[],[]⟩
theorem c67 (N aJ r)(h:Ac N aJ=some r):B3 prog 67 [vi aJ] ((G0 r)):=by
 unfold Ac at h
 refine I8 cf67 func67 call67 ntmps67 ?_;intro E H0 K hE hK hO;cbv;refine C3 hE hO fun b1 H hO=>?_;cbv;refine A9 hE hO 0 rfl rfl fun H hO=>?_;cbv;refine B1 hE hO 0 rfl ?_;cbv;cases h;exact hK hO (.agg (.cons (.refl _) (.cons (.lit _ (C2)) (.refl _))))
def cf68 :Cf:=⟨[2],[],[],[],[],[]⟩
theorem c68 (N aW r)(h:Bd N aW=some r):B3 prog 68 [vi aW] ((G0 r)):=by
 unfold Bd at h
 refine I8 cf68 func68 call68 ntmps68 ?_;intro E H0 K hE hK hO;cbv;refine C3 hE hO fun b1 H hO=>?_;cbv;refine A9 hE hO 0 rfl rfl fun H hO=>?_;cbv;refine B1 hE hO 0 rfl ?_;cbv;cases h;exact hK hO (.agg (.cons (.refl _) (.cons (.lit _ (C2)) (.refl _))))
def cf13 :Cf:=⟨[3,5],[(5,24)],[],[],[],[]⟩
theorem c13 (N r) (h:E4 N=some r):B3 prog 13 [] (.bool r):=by
 unfold E4 at h
 refine I8 cf13 func13 call13 ntmps13 ?_;intro E H0 K hE hK hO;cbv;refine A4 hE h (c62 N ([5,3,8,5])) (.cons (.lit _ (D6 (rfl) (D6 (rfl) (D6 (rfl) (D6 (rfl) (C2)))))) (.refl _)) fun r1 h=>?_;cbv;refine A4 hE h (c65 N) (.refl _) fun r2 h=>?_;cbv;refine A4 hE h (c64 N 0 r2) (.refl _) fun r3 h=>?_;cbv;refine A4 hE h (c67 N 0) (.refl _) fun r4 h=>?_;cbv;refine A4 hE h (c67 N 1) (.refl _) fun r5 h=>?_;cbv;refine A4 hE h (c66 N r4 r5) (.refl _) fun r6 h=>?_;cbv;refine A4 hE h (c64 N 1 r6) (.refl _) fun r7 h=>?_;cbv;refine A4 hE h (c63 N 1 ([r3,r7])) (.cons (.refl _) (.cons (.lit _ (D6 ((eAr3 r3).symm) (D6 ((eAr3 r7).symm) (C2)))) (.refl _))) fun r8 h=>?_;cbv;refine A4 hE h (c65 N) (.refl _) fun r9 h=>?_;cbv;refine A4 hE h (c64 N 1 r9) (.refl _) fun r10 h=>?_;cbv;refine A4 hE h (c65 N) (.refl _) fun r11 h=>?_;cbv;refine A4 hE h (c64 N 2 r11) (.refl _) fun r12 h=>?_;cbv;refine A4 hE h (c63 N 1 ([r10,r12])) (.cons (.refl _) (.cons (.lit _ (D6 ((eAr3 r10).symm) (D6 ((eAr3 r12).symm) (C2)))) (.refl _))) fun r13 h=>?_;cbv;refine A4 hE h (c63 N 5 ([r13])) (.cons (.refl _) (.cons (.lit _ (D6 ((eAr3 r13).symm) (C2))) (.refl _))) fun r14 h=>?_;cbv;refine C3 hE hO fun b15 H hO=>?_;cbv;refine A9 hE hO 0 rfl rfl fun H hO=>?_;cbv;refine A4 hE h (c68 N 6) (.refl _) fun r16 h=>?_;cbv;refine A4 hE h (c67 N 0) (.refl _) fun r17 h=>?_;cbv;refine A4 hE h (c66 N r16 r17) (.refl _) fun r18 h=>?_;cbv;refine A9 hE hO 0 rfl rfl fun H hO=>?_;cbv;refine B1 hE hO 0 rfl ?_;cbv;refine D5 hE (g:=fun r19=>(G0 r19)) h (c67 N 0) (.refl _) fun r19 h=>?_;cbv;refine D5 hE (g:=fun r20=>(G0 r20)) h (c68 N 6) (.refl _) fun r20 h=>?_;cbv;refine D5 hE (g:=fun r21=>(G0 r21)) h (c66 N r19 r20) (.refl _) fun r21 h=>?_;cbv;refine D5 hE (g:=fun r22=>(B6 r22)) h (c64 N 0 r21) (.refl _) fun r22 h=>?_;cbv;refine D5 hE (g:=fun r23=>(B6 r23)) h (c63 N 4 ([r22])) (.cons (.refl _) (.cons (.lit _ (D6 ((eAr3 r22).symm) (C2))) (.refl _))) fun r23 h=>?_;cbv;refine D5 hE (g:=fun r24=>(G0 r24)) h (c68 N 4) (.refl _) fun r24 h=>?_;cbv;refine D5 hE (g:=fun r25=>(G0 r25)) h (c67 N 0) (.refl _) fun r25 h=>?_;cbv;refine D5 hE (g:=fun r26=>(G0 r26)) h (c66 N r24 r25) (.refl _) fun r26 h=>?_;cbv;refine D5 hE (g:=fun r27=>(B6 r27)) h (c64 N 0 r26) (.refl _) fun r27 h=>?_;cbv;refine D5 hE (g:=fun r28=>(G0 r28)) h (c67 N 1) (.refl _) fun r28 h=>?_;cbv;refine D5 hE (g:=fun r29=>(G0 r29)) h (c68 N 6) (.refl _) fun r29 h=>?_;cbv;refine D5 hE (g:=fun r30=>(G0 r30)) h (c66 N r28 r29) (.refl _) fun r30 h=>?_;cbv;refine D5 hE (g:=fun r31=>(B6 r31)) h (c64 N 1 r30) (.refl _) fun r31 h=>?_;cbv;refine D5 hE (g:=fun r32=>(B6 r32)) h (c63 N 3 ([r27,r31])) (.cons (.refl _) (.cons (.lit _ (D6 ((eAr3 r27).symm) (D6 ((eAr3 r31).symm) (C2)))) (.refl _))) fun r32 h=>?_;cbv;refine Ao5 hE (n:=5) rfl ?_;cbv;obtain⟨s34,hx,h⟩:=bind_some h;refine E3 cf13 hE M4 (fun s33=>[(1,.v (sr eAr6 r1)),(2,.v (.eref (C0 r8) 0)),(56,.v (.sl (lst eAr4 ([r8,(⟨6,[r8],0,0,0,1,(⟨0,[],0,0,0,(⟨0,0,⟨#[]⟩⟩:A5)⟩:A3)⟩:A0),{r14 with cP:=r18},r23,r32])) .ro)),fi 57 5,fi 58 s33]) (fun s33 H1=>B8 Eq H0 [cb b15 [vi r14.Op,sr eAr4 r14.cO,vi r14.Typ,vi r14.Var,vi r14.cR,vi r14.Span,vi r18.Op,sr eAr7 r18.cO,vi r18.Var,vi r18.Field,vi r18.Kind,vi r18.Value.Kind,vi r18.Value.Num,.str r18.Value.Text]] H1) (fun x e l H1=>match(generalizing:=false) x with| .inl y=>e= .exit 0∧l=[(1,.v (sr eAr6 r1)),(2,.v (.eref (C0 r8) 0))]∧B8 Eq H0 [cb b15 [vi r14.Op,sr eAr4 r14.cO,vi r14.Typ,vi r14.Var,vi r14.cR,vi r14.Span,vi r18.Op,sr eAr7 r18.cO,vi r18.Var,vi r18.Field,vi r18.Kind,vi r18.Value.Kind,vi r18.Value.Num,.str r18.Value.Text]] H1| .inr y=>e= .ret∧l=[(0,.b false)]∧B8 Eq H0 [cb b15 [vi r14.Op,sr eAr4 r14.cO,vi r14.Typ,vi r14.Var,vi r14.cR,vi r14.Span,vi r18.Op,sr eAr7 r18.cO,vi r18.Var,vi r18.Field,vi r18.Kind,vi r18.Value.Kind,vi r18.Value.Num,.str r18.Value.Text]] H1) (by kernel_rfl) ?_ hx ?_ hO ?_
 ·intro s33 H o hO h;clear hx;cbv;refine A8 hE h (fun _ h=>?_) fun _ h=>?_
  ·cbv;refine B9 hE eAr3 h fun x35 h=>?_;cbv;refine C3 hE hO fun b36 H hO=>?_;cbv;refine A9 hE hO 0 rfl rfl fun H hO=>?_;cbv;refine B1 hE hO 0 rfl ?_;cbv;refine A4 hE h (c39 N x35 r1) (.refl _) fun r37 h=>?_;cbv;refine B1 hE hO 0 rfl ?_;cbv;refine A4 hE h (c14 N x35 r1) (.refl _) fun r38 h=>?_;cbv;refine A8 hE h (fun _ h=>?_) fun _ h=>?_
   ·cbv;cases h;exact⟨_,_,rfl,⟨rfl,rfl,hO.tail⟩,.b rfl (.z),rfl⟩
   cbv;refine Ai2 hE (f:=(V.int .i64)) (D6 (rfl) (D6 (rfl) (D6 (rfl) (D6 (rfl) (D6 (rfl) (C2)))))) (fun _=>rfl) h fun x39 h=>?_;cbv;refine D4 hE ?_;cbv;refine A8 hE h (fun _ h=>?_) fun _ h=>?_
   ·cbv;cases h;exact⟨_,_,rfl,⟨rfl,rfl,hO.tail⟩,.b rfl (.z),rfl⟩
   cbv;cases h;exact⟨_,rfl,.e rfl (.e4 .z),rfl,hO.tail⟩
  cbv;cases h;exact⟨_,_,rfl,⟨rfl,rfl,hO⟩,.e2 .z,rfl⟩
 ·exact .e2 (.v (.sl _ (.lstc (.eq (eAr3 r8) (.refl _)) (.lstc (.eq (eAr3 (⟨6,[r8],0,0,0,1,(⟨0,[],0,0,0,(⟨0,0,⟨#[]⟩⟩:A5)⟩:A3)⟩:A0)) (.agg (.cons (.refl _) (.cons (.lit _ (D6 ((eAr3 r8).symm) (C2))) (.cons (.refl _) (.cons (.refl _) (.cons (.refl _) (.cons (.refl _) (.cons (.refl _) (.cons (.lit _ (C2)) (.refl _))))))))))) (.lstc (.eq (eAr3 ({r14 with cP:=r18})) (.refl _)) (.lstc (.eq (eAr3 r23) (.refl _)) (.lstc (.eq (eAr3 r32) (.refl _)) (.lst0))))))) (.e rfl (.e rfl (.z))))
 clear hx
 rcases s34 with y40|y43
 ·rintro e l H ⟨rfl,rfl,hO⟩;cbv;refine A4 hE h (c40 N r8 r1) (.refl _) fun r41 h=>?_;cbv;refine D4 hE ?_;cbv;refine A8 hE h (fun _ h=>?_) fun _ h=>?_
  ·cbv;refine B9 hE eAs5 h fun x42 h=>?_;cbv;cases h;exact hK hO (.refl _)
  cbv;cases h;exact hK hO (.refl _)
 rintro e l H ⟨rfl,rfl,hO⟩;cbv;cases h;exact hK hO (.refl _)
theorem c80 (N aA r)(h:N7 N aA=some r):B3 prog 80 [(B6 aA)] (.bool r):=by
 unfold N7 at h
 refine I8 cf0 func80 call80 ntmps80 ?_;intro E H0 K hE hK hO;cbv;cases h;exact hK hO (.refl _)
theorem c79 (N aA r)(h:O4 N aA=some r):B3 prog 79 [(B6 aA)] (.bool r):=by
 unfold O4 at h
 refine I8 cf0 func79 call79 ntmps79 ?_;intro E H0 K hE hK hO;cbv;refine A8 hE h (fun _ h=>?_) fun _ h=>?_
 ·cbv;cases h;exact hK hO (.refl _)
 cbv;refine A4 hE h (c80 N aA) (.refl _) fun r1 h=>?_;cbv;cases h;exact hK hO (.refl _)
theorem c81 (N aA r)(h:N1 N aA=some r):B3 prog 81 [(B6 aA)] (.bool r):=by
 unfold N1 at h
 refine I8 cf0 func81 call81 ntmps81 ?_;intro E H0 K hE hK hO;cbv;cases h;exact hK hO (.refl _)
def cf82 :Cf:=⟨[],[(6,10)],[],[],[],[]⟩
theorem c82 (N:Nat):∀n aC aD r,O5 N n aC aD=some r→B3 prog 82 [(G0 aC),(G0 aD)] (.bool r):=by
 intro n
 induction n with
 |zero=>intro aC aD r h;cases h
 |succ n ih=>
 intro aC aD r h
 unfold O5 at h
 refine I8 cf82 func82 call82 ntmps82 ?_;intro E H0 K hE hK hO;cbv;refine D4 hE ?_;cbv;refine D4 hE ?_;cbv;refine A8 hE h (fun _ h=>?_) fun _ h=>?_
 ·cbv;cases h;exact hK hO (.refl _)
 cbv;obtain⟨s2,hx,h⟩:=bind_some h;refine E3 cf82 hE M4 (fun s1=>[(2,.v (.eref (Ak aC) 0)),(3,.v (.eref (Ak aD) 0)),fi 5 s1]) (fun s1 H1=>B8 Eq H0 [] H1) (fun x e l H1=>match(generalizing:=false) x with| .inl y=>e= .exit 0∧l=[]∧B8 Eq H0 [] H1| .inr y=>e= .ret∧l=[(4,.b false)]∧B8 Eq H0 [] H1) (by kernel_rfl) ?_ hx ?_ hO ?_
 ·intro s1 H o hO h;clear hx;cbv;refine D4 hE ?_;cbv;refine A8 hE h (fun _ h=>?_) fun _ h=>?_
  ·cbv;refine B9 hE eAs1 h fun x3 h=>?_;cbv;refine B9 hE eAs1 h fun x4 h=>?_;cbv;refine A4 hE h (ih x3 x4) (.refl _) fun r5 h=>?_;cbv;refine A8 hE h (fun _ h=>?_) fun _ h=>?_
   ·cbv;cases h;exact⟨_,_,rfl,⟨rfl,rfl,hO⟩,.b rfl (.z),rfl⟩
   cbv;cases h;exact⟨_,rfl,.e rfl (.e2 .z),rfl,hO⟩
  cbv;cases h;exact⟨_,_,rfl,⟨rfl,rfl,hO⟩,.z,rfl⟩
 ·exact .e rfl (.e2 .z)
 clear hx
 rcases s2 with y6|y7
 ·rintro e l H ⟨rfl,rfl,hO⟩;cbv;cases h;exact hK hO (.refl _)
 rintro e l H ⟨rfl,rfl,hO⟩;cbv;cases h;exact hK hO (.refl _)
theorem c132 (N aA r)(h:W7 N aA=some r):B3 prog 132 [(B6 aA)] (.bool r):=by
 unfold W7 at h
 refine I8 cf0 func132 call132 ntmps132 ?_;intro E H0 K hE hK hO;cbv;refine A4 hE h (c79 N aA) (.refl _) fun r1 h=>?_;cbv;cases h;exact hK hO (.refl _)
theorem c134 (N aQ r)(h:BH N aQ=some r):B3 prog 134 [vi aQ] (.tup [.bool r.1,.bool r.2]):=by
 unfold BH at h
 refine I8 cf0 func134 call134 ntmps134 ?_;intro E H0 K hE hK hO;cbv;cases h;exact hK hO (.refl _)
theorem c228 (N aJ r) (h:Db N aJ=some r):B3 prog 228 [(D3 aJ)] (vi r):=by
 unfold Db at h
 refine I8 cf0 func228 call228 ntmps228 ?_;intro E H0 K hE hK hO;cbv;refine A8 hE h (fun _ h=>?_) fun _ h=>?_
 ·cbv;cases h;exact hK hO (.refl _)
 cbv;refine A8 hE h (fun _ h=>?_) fun _ h=>?_
 ·cbv;refine A8 hE h (fun _ h=>?_) fun _ h=>?_
  ·cbv;cases h;exact hK hO (.refl _)
  cbv;refine A8 hE h (fun _ h=>?_) fun _ h=>?_
  ·cbv;cases h;exact hK hO (.refl _)
  cbv;cases h;exact hK hO (.refl _)
 cbv;refine A8 hE h (fun _ h=>?_) fun _ h=>?_
 ·cbv;cases h;exact hK hO (.refl _)
 cbv;refine A8 hE h (fun _ h=>?_) fun _ h=>?_
 ·cbv;cases h;exact hK hO (.refl _)
 cbv;cases h;exact hK hO (.refl _)
def cf250 :Cf:=⟨[],[],[(4,4)],[],[],[]⟩
theorem c250 (N aQ r) (h:CY N aQ=some r):B3 prog 250 [vi aQ] (vi r):=by
 unfold CY at h
 refine I8 cf250 func250 call250 ntmps250 ?_;intro E H0 K hE hK hO;cbv;obtain⟨s1,hx,h⟩:=bind_some h;refine U4 cf250 hE M4 (fun e l H1=>e= .normal∧l=[fi 3 aQ,(4,.v (.bool s1))]∧B8 Eq H0 [] H1) (by kernel_rfl) ?_ ?_
 ·clear h;have h:=hx;clear hx;cbv;refine A8 hE h (fun _ h=>?_) fun _ h=>?_
  ·cbv;cases h;exact⟨_,⟨rfl,rfl,hO⟩,.e2 .z,rfl⟩
  cbv;refine A8 hE h (fun _ h=>?_) fun _ h=>?_
  ·cbv;cases h;exact⟨_,⟨rfl,rfl,hO⟩,.e2 .z,rfl⟩
  cbv;refine A8 hE h (fun _ h=>?_) fun _ h=>?_
  ·cbv;cases h;exact⟨_,⟨rfl,rfl,hO⟩,.e2 .z,rfl⟩
  cbv;refine A8 hE h (fun _ h=>?_) fun _ h=>?_
  ·cbv;cases h;exact⟨_,⟨rfl,rfl,hO⟩,.e2 .z,rfl⟩
  cbv;cases h;exact⟨_,⟨rfl,rfl,hO⟩,.e2 .z,rfl⟩
 clear hx;rintro e l H ⟨rfl,rfl,hO⟩;cbv;refine A8 hE h (fun _ h=>?_) fun _ h=>?_
 ·cbv;cases h;exact hK hO (.refl _)
 cbv;refine A8 hE h (fun _ h=>?_) fun _ h=>?_
 ·cbv;cases h;exact hK hO (.refl _)
 cbv;refine A8 hE h (fun _ h=>?_) fun _ h=>?_
 ·cbv;cases h;exact hK hO (.refl _)
 cbv;refine A8 hE h (fun _ h=>?_) fun _ h=>?_
 ·cbv;cases h;exact hK hO (.refl _)
 cbv;refine A8 hE h (fun _ h=>?_) fun _ h=>?_
 ·cbv;cases h;exact hK hO (.refl _)
 cbv;refine A8 hE h (fun _ h=>?_) fun _ h=>?_
 ·cbv;cases h;exact hK hO (.refl _)
 cbv;refine A8 hE h (fun _ h=>?_) fun _ h=>?_
 ·cbv;cases h;exact hK hO (.refl _)
 cbv;refine A8 hE h (fun _ h=>?_) fun _ h=>?_
 ·cbv;cases h;exact hK hO (.refl _)
 cbv;refine A8 hE h (fun _ h=>?_) fun _ h=>?_
 ·cbv;cases h;exact hK hO (.refl _)
 cbv;cases h;exact hK hO (.refl _)
theorem c251 (N bJ aJ r)(h:CZ N bJ aJ=some r):B3 prog 251 [vi bJ,(D3 aJ)] (.bool r):=by
 unfold CZ at h
 refine I8 cf0 func251 call251 ntmps251 ?_;intro E H0 K hE hK hO;cbv;cases h;exact hK hO (.refl _)
def cf212 :Cf:=⟨[],[],[(69,15)],[],[],[]⟩
theorem c212 (N aB r) (h:CB N aB=some r):B3 prog 212 [(G0 aB)] (vi r):=by
 unfold CB at h
 refine I8 cf212 func212 call212 ntmps212 ?_;intro E H0 K hE hK hO;cbv;refine A4 hE h (c250 N aB.Op) (.refl _) fun r1 h=>?_;cbv;refine A8 hE h (fun _ h=>?_) fun _ h=>?_
 ·cbv;cases h;exact hK hO (.refl _)
 cbv;refine D4 hE ?_;cbv;refine A8 hE h (fun _ h=>?_) fun _ h=>?_
 ·cbv;cases h;exact hK hO (.refl _)
 cbv;refine A4 hE h (c134 N aB.Op) (.refl _) fun r2 h=>?_;cbv;refine A8 hE h (fun _ h=>?_) fun _ h=>?_
 ·cbv;cases h;exact hK hO (.refl _)
 cbv;refine A8 hE h (fun _ h=>?_) fun _ h=>?_
 ·cbv;cases h;exact hK hO (.refl _)
 cbv;obtain⟨s3,hx,h⟩:=bind_some h;refine U4 cf212 hE M4 (fun e l H1=>match(generalizing:=false) s3 with| .inl y=>e= .normal∧l=[(1,.v (.eref (Ak aB) 0)),(4,.v (.bool r2.1)),(5,.v (.bool r2.2)),(6,.v (.bool (Ar.cmp .eql aB.Op 4))),(7,.v (.bool (Ar.or (Ar.cmp .eql aB.Op 4) (Ar.cmp .eql aB.Op 0))))]∧B8 Eq H0 [] H1| .inr y=>e= .ret∧l=[fi 2 y]∧B8 Eq H0 [] H1) (by kernel_rfl) ?_ ?_
 ·clear h;have h:=hx;clear hx;cbv;refine A8 hE h (fun _ h=>?_) fun _ h=>?_
  ·cbv;refine A4 hE h (c228 N aB.Value) (.refl _) fun r4 h=>?_;cbv;refine A8 hE h (fun _ h=>?_) fun _ h=>?_
   ·cbv;cases h;exact⟨_,⟨rfl,rfl,hO⟩,.e rfl .z,rfl⟩
   cbv;cases h;exact⟨_,⟨rfl,rfl,hO⟩,.e rfl (.e4 .z),rfl⟩
  cbv;cases h;exact⟨_,⟨rfl,rfl,hO⟩,.e rfl (.e4 .z),rfl⟩
 clear hx
 rcases s3 with y5|y7
 ·rintro e l H ⟨rfl,rfl,hO⟩;cbv;refine A8 hE h (fun _ h=>?_) fun _ h=>?_
  ·cbv;refine A4 hE h (c251 N aB.Kind aB.Value) (.refl _) fun r6 h=>?_;cbv;refine A8 hE h (fun _ h=>?_) fun _ h=>?_
   ·cbv;cases h;exact hK hO (.refl _)
   cbv;refine A8 hE h (fun _ h=>?_) fun _ h=>?_
   ·cbv;cases h;exact hK hO (.refl _)
   cbv;cases h;exact hK hO (.refl _)
  cbv;refine A8 hE h (fun _ h=>?_) fun _ h=>?_
  ·cbv;cases h;exact hK hO (.refl _)
  cbv;cases h;exact hK hO (.refl _)
 rintro e l H ⟨rfl,rfl,hO⟩;cbv;cases h;exact hK hO (.refl _)
theorem c171 (N:Nat):∀n aB r,Aa N n aB=some r→B3 prog 171 [(G0 aB)] (vi r):=by
 intro n
 induction n with
 |zero=>intro aB r h;cases h
 |succ n ih=>
 intro aB r h
 unfold Aa at h
 refine I8 cf0 func171 call171 ntmps171 ?_;intro E H0 K hE hK hO;cbv;refine A4 hE h (c212 N aB) (.refl _) fun r1 h=>?_;cbv;refine A8 hE h (fun _ h=>?_) fun _ h=>?_
 ·cbv;cases h;exact hK hO (.refl _)
 cbv;obtain⟨s3,hx,h⟩:=bind_some h;refine E3 cf0 hE M4 (fun s2=>[(1,.v (.eref (Ak aB) 0)),fi 4 s2]) (fun s2 H1=>B8 Eq H0 [] H1) (fun x e l H1=>match(generalizing:=false) x with| .inl y=>e= .exit 0∧l=[]∧B8 Eq H0 [] H1| .inr y=>e= .ret∧l=[fi 2 y]∧B8 Eq H0 [] H1) (by kernel_rfl) ?_ hx ?_ hO ?_
 ·intro s2 H o hO h;clear hx;cbv;refine D4 hE ?_;cbv;refine A8 hE h (fun _ h=>?_) fun _ h=>?_
  ·cbv;refine B9 hE eAs1 h fun x4 h=>?_;cbv;refine A4 hE h (ih x4) (.refl _) fun r5 h=>?_;cbv;refine A8 hE h (fun _ h=>?_) fun _ h=>?_
   ·cbv;cases h;exact⟨_,_,rfl,⟨rfl,rfl,hO⟩,.e rfl .z,rfl⟩
   cbv;cases h;exact⟨_,rfl,.e2 .z,rfl,hO⟩
  cbv;cases h;exact⟨_,_,rfl,⟨rfl,rfl,hO⟩,.z,rfl⟩
 ·exact .e2 .z
 clear hx
 rcases s3 with y6|y7
 ·rintro e l H ⟨rfl,rfl,hO⟩;cbv;cases h;exact hK hO (.refl _)
 rintro e l H ⟨rfl,rfl,hO⟩;cbv;cases h;exact hK hO (.refl _)
end Go.Ab
namespace Go.Ab
open Go.RowKit Go.Proofs Go.Proofs.Tryz H6
variable [Ar][H6]
set_option maxRecDepth 100000
theorem c136 (N aB r)(h:AM N aB=some r):B3 prog 136 [(G0 aB)] (vi r):=by
 unfold AM at h
 refine I8 cf0 func136 call136 ntmps136 ?_;intro E H0 K hE hK hO;cbv;refine A4 hE h (c105 N N aB 64) (.refl _) fun r1 h=>?_;cbv;refine A8 hE h (fun _ h=>?_) fun _ h=>?_
 ·cbv;cases h;exact hK hO (.refl _)
 cbv;refine A4 hE h (c155 N N aB) (.refl _) fun r2 h=>?_;cbv;refine A8 hE h (fun _ h=>?_) fun _ h=>?_
 ·cbv;cases h;exact hK hO (.refl _)
 cbv;refine A4 hE h (c171 N N aB) (.refl _) fun r3 h=>?_;cbv;cases h;exact hK hO (.refl _)
def cf169 :Cf:=⟨[],[],[(11,6)],[],[],[]⟩
theorem c169 (N aA r) (h:CX N aA=some r):B3 prog 169 [(B6 aA)] (.bool r):=by
 unfold CX at h
 refine I8 cf169 func169 call169 ntmps169 ?_;intro E H0 K hE hK hO;cbv;refine A8 hE h (fun _ h=>?_) fun _ h=>?_
 ·cbv;refine D4 hE ?_;cbv;cases h;exact hK hO (.refl _)
 cbv;obtain⟨s1,hx,h⟩:=bind_some h;refine U4 cf169 hE M4 (fun e l H1=>e= .normal∧l=[(1,.v (.eref (C0 aA) 0)),fi 4 aA.Op,(11,.v (.bool s1))]∧B8 Eq H0 [] H1) (by kernel_rfl) ?_ ?_
 ·clear h;have h:=hx;clear hx;cbv;refine A8 hE h (fun _ h=>?_) fun _ h=>?_
  ·cbv;cases h;exact⟨_,⟨rfl,rfl,hO⟩,.e rfl (.e2 .z),rfl⟩
  cbv;refine A8 hE h (fun _ h=>?_) fun _ h=>?_
  ·cbv;cases h;exact⟨_,⟨rfl,rfl,hO⟩,.e rfl (.e2 .z),rfl⟩
  cbv;cases h;exact⟨_,⟨rfl,rfl,hO⟩,.e rfl (.e2 .z),rfl⟩
 clear hx;rintro e l H ⟨rfl,rfl,hO⟩;cbv;refine A8 hE h (fun _ h=>?_) fun _ h=>?_
 ·cbv;refine D4 hE ?_;cbv;cases h;exact hK hO (.refl _)
 cbv;refine A8 hE h (fun _ h=>?_) fun _ h=>?_
 ·cbv;refine D4 hE ?_;cbv;cases h;exact hK hO (.refl _)
 cbv;refine D4 hE ?_;cbv;cases h;exact hK hO (.refl _)
theorem c170 (N bH aW bP r)(h:Y9 N bH aW bP=some r):B3 prog 170 [.bool bH,vi aW,vi bP] (.bool r):=by
 unfold Y9 at h
 refine I8 cf0 func170 call170 ntmps170 ?_;intro E H0 K hE hK hO;cbv;cases h;exact hK hO (.refl _)
def cf131 :Cf:=⟨[],[(5,11),(6,21)],[(51,10)],[],[],[]⟩
theorem c131 (N aA r) (h:V8 N aA=some r):B3 prog 131 [(B6 aA)] (vi r):=by
 unfold V8 at h
 refine I8 cf131 func131 call131 ntmps131 ?_;intro E H0 K hE hK hO;cbv;refine A8 hE h (fun _ h=>?_) fun _ h=>?_
 ·cbv;cases h;exact hK hO (.refl _)
 cbv;refine A4 hE h (c169 N aA) (.refl _) fun r1 h=>?_;cbv;refine A8 hE h (fun _ h=>?_) fun _ h=>?_
 ·cbv;cases h;exact hK hO (.refl _)
 cbv;refine D5 hE (g:=fun r2=>.bool r2) h (c79 N aA) (.refl _) fun r2 h=>?_;cbv;refine D5 hE (g:=fun r3=>.bool r3) h (c80 N aA) (.refl _) fun r3 h=>?_;cbv;refine A8 hE h (fun _ h=>?_) fun _ h=>?_
 ·cbv;refine D5 hE (g:=fun r4=>.bool r4) h (c132 N aA) (.refl _) fun r4 h=>?_;cbv;refine D5 hE (g:=fun r5=>.bool r5) h (c170 N r2 aA.Typ 15) (.refl _) fun r5 h=>?_;cbv;refine A8 hE h (fun _ h=>?_) fun _ h=>?_
  ·cbv;cases h;exact hK hO (.refl _)
  cbv;refine D5 hE (g:=fun r6=>.bool r6) h (c170 N r2 aA.Var 15) (.refl _) fun r6 h=>?_;cbv;refine A8 hE h (fun _ h=>?_) fun _ h=>?_
  ·cbv;cases h;exact hK hO (.refl _)
  cbv;refine D5 hE (g:=fun r7=>.bool r7) h (c170 N true aA.cR 63) (.refl _) fun r7 h=>?_;cbv;refine A8 hE h (fun _ h=>?_) fun _ h=>?_
  ·cbv;cases h;exact hK hO (.refl _)
  cbv;refine D5 hE (g:=fun r8=>.bool r8) h (c81 N aA) (.refl _) fun r8 h=>?_;cbv;refine A4 hE h (c170 N r8 aA.Span 1099511627776) (.refl _) fun r9 h=>?_;cbv;refine A8 hE h (fun _ h=>?_) fun _ h=>?_
  ·cbv;cases h;exact hK hO (.refl _)
  cbv;obtain⟨s10,hx,h⟩:=bind_some h;refine U4 cf131 hE M4 (fun e l H1=>match(generalizing:=false) s10 with| .inl y=>e= .normal∧l=[(1,.v (.eref (C0 aA) 0)),(3,.v (.bool r2)),(4,.b true),(5,.v (.bool r4))]∧B8 Eq H0 [] H1| .inr y=>e= .ret∧l=[fi 2 y]∧B8 Eq H0 [] H1) (by kernel_rfl) ?_ ?_
  ·clear h;have h:=hx;clear hx;cbv;refine A8 hE h (fun _ h=>?_) fun _ h=>?_
   ·cbv;refine A4 hE h (c136 N aA.cP) (.refl _) fun r11 h=>?_;cbv;refine A8 hE h (fun _ h=>?_) fun _ h=>?_
    ·cbv;cases h;exact⟨_,⟨rfl,rfl,hO⟩,.e rfl .z,rfl⟩
    cbv;cases h;exact⟨_,⟨rfl,rfl,hO⟩,.e2 (.b rfl (.e rfl (.z))),rfl⟩
   cbv;cases h;exact⟨_,⟨rfl,rfl,hO⟩,.e2 (.b rfl (.e rfl (.z))),rfl⟩
  clear hx
  rcases s10 with y12|y15
  ·rintro e l H ⟨rfl,rfl,hO⟩;cbv;refine A8 hE h (fun _ h=>?_) fun _ h=>?_
   ·cbv;cases h;exact hK hO (.refl _)
   cbv;refine A4 hE h (c81 N aA) (.refl _) fun r13 h=>?_;cbv;refine A8 hE h (fun _ h=>?_) fun _ h=>?_
   ·cbv;cases h;exact hK hO (.refl _)
   cbv;refine A8 hE h (fun _ h=>?_) fun _ h=>?_
   ·cbv;refine A4 hE h (c82 N N aA.cP (⟨0,[],0,0,0,(⟨0,0,⟨#[]⟩⟩:A5)⟩:A3)) (.cons (.refl _) (.cons (.agg (.cons (.refl _) (.cons (.lit _ (C2)) (.refl _)))) (.refl _))) fun r14 h=>?_;cbv;refine A8 hE h (fun _ h=>?_) fun _ h=>?_
    ·cbv;cases h;exact hK hO (.refl _)
    cbv;cases h;exact hK hO (.refl _)
   cbv;cases h;exact hK hO (.refl _)
  rintro e l H ⟨rfl,rfl,hO⟩;cbv;cases h;exact hK hO (.refl _)
 cbv;refine D5 hE (g:=fun r16=>.bool r16) h (c81 N aA) (.refl _) fun r16 h=>?_;cbv;refine D5 hE (g:=fun r17=>.bool r17) h (c132 N aA) (.refl _) fun r17 h=>?_;cbv;refine D5 hE (g:=fun r18=>.bool r18) h (c170 N r2 aA.Typ 15) (.refl _) fun r18 h=>?_;cbv;refine A8 hE h (fun _ h=>?_) fun _ h=>?_
 ·cbv;cases h;exact hK hO (.refl _)
 cbv;refine D5 hE (g:=fun r19=>.bool r19) h (c170 N r2 aA.Var 15) (.refl _) fun r19 h=>?_;cbv;refine A8 hE h (fun _ h=>?_) fun _ h=>?_
 ·cbv;cases h;exact hK hO (.refl _)
 cbv;refine D5 hE (g:=fun r20=>.bool r20) h (c170 N r16 aA.cR 63) (.refl _) fun r20 h=>?_;cbv;refine A8 hE h (fun _ h=>?_) fun _ h=>?_
 ·cbv;cases h;exact hK hO (.refl _)
 cbv;refine D5 hE (g:=fun r21=>.bool r21) h (c81 N aA) (.refl _) fun r21 h=>?_;cbv;refine A4 hE h (c170 N r21 aA.Span 1099511627776) (.refl _) fun r22 h=>?_;cbv;refine A8 hE h (fun _ h=>?_) fun _ h=>?_
 ·cbv;cases h;exact hK hO (.refl _)
 cbv;obtain⟨s23,hx,h⟩:=bind_some h;refine U4 cf131 hE M4 (fun e l H1=>match(generalizing:=false) s23 with| .inl y=>e= .normal∧l=[(1,.v (.eref (C0 aA) 0)),(3,.v (.bool r2)),(4,.v (.bool r16)),(5,.v (.bool r17))]∧B8 Eq H0 [] H1| .inr y=>e= .ret∧l=[fi 2 y]∧B8 Eq H0 [] H1) (by kernel_rfl) ?_ ?_
 ·clear h;have h:=hx;clear hx;cbv;refine A8 hE h (fun _ h=>?_) fun _ h=>?_
  ·cbv;refine A4 hE h (c136 N aA.cP) (.refl _) fun r24 h=>?_;cbv;refine A8 hE h (fun _ h=>?_) fun _ h=>?_
   ·cbv;cases h;exact⟨_,⟨rfl,rfl,hO⟩,.e rfl .z,rfl⟩
   cbv;cases h;exact⟨_,⟨rfl,rfl,hO⟩,.e4 .z,rfl⟩
  cbv;cases h;exact⟨_,⟨rfl,rfl,hO⟩,.e4 .z,rfl⟩
 clear hx
 rcases s23 with y25|y28
 ·rintro e l H ⟨rfl,rfl,hO⟩;cbv;refine A8 hE h (fun _ h=>?_) fun _ h=>?_
  ·cbv;cases h;exact hK hO (.refl _)
  cbv;refine A4 hE h (c81 N aA) (.refl _) fun r26 h=>?_;cbv;refine A8 hE h (fun _ h=>?_) fun _ h=>?_
  ·cbv;cases h;exact hK hO (.refl _)
  cbv;refine A8 hE h (fun _ h=>?_) fun _ h=>?_
  ·cbv;refine A4 hE h (c82 N N aA.cP (⟨0,[],0,0,0,(⟨0,0,⟨#[]⟩⟩:A5)⟩:A3)) (.cons (.refl _) (.cons (.agg (.cons (.refl _) (.cons (.lit _ (C2)) (.refl _)))) (.refl _))) fun r27 h=>?_;cbv;refine A8 hE h (fun _ h=>?_) fun _ h=>?_
   ·cbv;cases h;exact hK hO (.refl _)
   cbv;cases h;exact hK hO (.refl _)
  cbv;cases h;exact hK hO (.refl _)
 rintro e l H ⟨rfl,rfl,hO⟩;cbv;cases h;exact hK hO (.refl _)
theorem c73 (N aA r) (h:W8 N aA=some r):B3 prog 73 [(B6 aA)] (vi r):=by
 unfold W8 at h
 refine I8 cf0 func73 call73 ntmps73 ?_;intro E H0 K hE hK hO;cbv;refine A4 hE h (c104 N N aA 64) (.refl _) fun r1 h=>?_;cbv;refine A8 hE h (fun _ h=>?_) fun _ h=>?_
 ·cbv;cases h;exact hK hO (.refl _)
 cbv;refine A4 hE h (c124 N N aA) (.refl _) fun r2 h=>?_;cbv;refine A8 hE h (fun _ h=>?_) fun _ h=>?_
 ·cbv;cases h;exact hK hO (.refl _)
 cbv;refine A4 hE h (c75 N N aA) (.refl _) fun r3 h=>?_;cbv;obtain⟨s5,hx,h⟩:=bind_some h;refine E3 cf0 hE M4 (fun s4=>[(3,.v (sr eAr4 r3)),fi 4 s4]) (fun s4 H1=>B8 Eq H0 [] H1) (fun x e l H1=>match(generalizing:=false) x with| .inl y=>e= .exit 0∧l=[]∧B8 Eq H0 [] H1| .inr y=>e= .ret∧l=[fi 2 y]∧B8 Eq H0 [] H1) (by kernel_rfl) ?_ hx ?_ hO ?_
 ·intro s4 H o hO h;clear hx;cbv;refine D4 hE ?_;cbv;refine A8 hE h (fun _ h=>?_) fun _ h=>?_
  ·cbv;refine B9 hE eAr3 h fun x6 h=>?_;cbv;refine A4 hE h (c131 N x6) (.refl _) fun r7 h=>?_;cbv;refine A8 hE h (fun _ h=>?_) fun _ h=>?_
   ·cbv;cases h;exact⟨_,_,rfl,⟨rfl,rfl,hO⟩,.e rfl .z,rfl⟩
   cbv;cases h;exact⟨_,rfl,.e2 .z,rfl,hO⟩
  cbv;cases h;exact⟨_,_,rfl,⟨rfl,rfl,hO⟩,.z,rfl⟩
 ·exact .e2 .z
 clear hx
 rcases s5 with y8|y9
 ·rintro e l H ⟨rfl,rfl,hO⟩;cbv;cases h;exact hK hO (.refl _)
 rintro e l H ⟨rfl,rfl,hO⟩;cbv;cases h;exact hK hO (.refl _)
theorem c74 (N aF r) (h:AY N aF=some r):B3 prog 74 [sr eAr4 aF] (.bool r):=by
 unfold AY at h
 refine I8 cf0 func74 call74 ntmps74 ?_;intro E H0 K hE hK hO;cbv;obtain⟨s2,hx,h⟩:=bind_some h;refine E3 cf0 hE M4 (fun s1=>[(0,.v (sr eAr4 aF)),fi 3 s1]) (fun s1 H1=>B8 Eq H0 [] H1) (fun x e l H1=>match(generalizing:=false) x with| .inl y=>e= .exit 0∧l=[]∧B8 Eq H0 [] H1| .inr y=>e= .ret∧l=[(2,.b false)]∧B8 Eq H0 [] H1) (by kernel_rfl) ?_ hx ?_ hO ?_
 ·intro s1 H o hO h;clear hx;cbv;refine D4 hE ?_;cbv;refine A8 hE h (fun _ h=>?_) fun _ h=>?_
  ·cbv;refine B9 hE eAr3 h fun x3 h=>?_;cbv;refine A8 hE h (fun _ h=>?_) fun _ h=>?_
   ·cbv;cases h;exact⟨_,_,rfl,⟨rfl,rfl,hO⟩,.b rfl (.z),rfl⟩
   cbv;cases h;exact⟨_,rfl,.e2 .z,rfl,hO⟩
  cbv;cases h;exact⟨_,_,rfl,⟨rfl,rfl,hO⟩,.z,rfl⟩
 ·exact .e2 .z
 clear hx
 rcases s2 with y4|y5
 ·rintro e l H ⟨rfl,rfl,hO⟩;cbv;cases h;exact hK hO (.refl _)
 rintro e l H ⟨rfl,rfl,hO⟩;cbv;cases h;exact hK hO (.refl _)
def cf20 :Cf:=⟨[],[],[(28,13)],[],[],[]⟩
theorem c20 (N aA r) (h:Z9 N aA=some r):B3 prog 20 [(B6 aA)] (vi r):=by
 unfold Z9 at h
 refine I8 cf20 func20 call20 ntmps20 ?_;intro E H0 K hE hK hO;cbv;refine A4 hE h (c73 N aA) (.refl _) fun r1 h=>?_;cbv;refine A8 hE h (fun _ h=>?_) fun _ h=>?_
 ·cbv;cases h;exact hK hO (.refl _)
 cbv;refine A4 hE h (c75 N N aA) (.refl _) fun r2 h=>?_;cbv;refine A4 hE h (c74 N r2) (.refl _) fun r3 h=>?_;cbv;refine A8 hE h (fun _ h=>?_) fun _ h=>?_
 ·cbv;cases h;exact hK hO (.refl _)
 cbv;obtain⟨s5,hx,h⟩:=bind_some h;refine E3 cf20 hE M4 (fun s4=>[(4,.v (sr eAr4 r2)),fi 5 s4.1,fi 6 s4.2.1,fi 7 s4.2.2]) (fun s4 H1=>B8 Eq H0 [] H1) (fun x e l H1=>match(generalizing:=false) x with| .inl y=>e= .exit 0∧l=[]∧B8 Eq H0 [] H1| .inr y=>e= .ret∧l=[fi 2 14]∧B8 Eq H0 [] H1) (by kernel_rfl) ?_ hx ?_ hO ?_
 ·intro s4 H o hO h;clear hx;cbv;refine D4 hE ?_;cbv;refine A8 hE h (fun _ h=>?_) fun _ h=>?_
  ·cbv;refine B9 hE eAr3 h fun x6 h=>?_;cbv;refine A4 hE h (c79 N x6) (.refl _) fun r7 h=>?_;cbv;obtain⟨s8,hx,h⟩:=bind_some h;refine U4 cf20 hE M4 (fun e l H1=>match(generalizing:=false) s8 with| .inl y=>e= .normal∧l=[(4,.v (sr eAr4 r2)),fi 5 y,fi 6 s4.2.1,fi 7 s4.2.2]∧B8 Eq H0 [] H1| .inr y=>e= .ret∧l=[fi 2 14]∧B8 Eq H0 [] H1) (by kernel_rfl) ?_ ?_
   ·clear h;have h:=hx;clear hx;cbv;refine A8 hE h (fun _ h=>?_) fun _ h=>?_
    ·cbv;refine B9 hE eAr3 h fun x9 h=>?_;cbv;refine A8 hE h (fun _ h=>?_) fun _ h=>?_
     ·cbv;cases h;exact⟨_,⟨rfl,rfl,hO⟩,.e rfl .z,rfl⟩
     cbv;cases h;exact⟨_,⟨rfl,rfl,hO⟩,.e4 .z,rfl⟩
    cbv;cases h;exact⟨_,⟨rfl,rfl,hO⟩,.e4 .z,rfl⟩
   clear hx
   rcases s8 with y10|y17
   ·rintro e l H ⟨rfl,rfl,hO⟩;cbv;refine B9 hE eAr3 h fun x11 h=>?_;cbv;refine A4 hE h (c80 N x11) (.refl _) fun r12 h=>?_;cbv;refine A8 hE h (fun _ h=>?_) fun _ h=>?_
    ·cbv;refine B9 hE eAr3 h fun x13 h=>?_;cbv;refine A8 hE h (fun _ h=>?_) fun _ h=>?_
     ·cbv;cases h;exact⟨_,_,rfl,⟨rfl,rfl,hO⟩,.e rfl .z,rfl⟩
     cbv;cases h;exact⟨_,rfl,.e4 .z,rfl,hO⟩
    cbv;refine B9 hE eAr3 h fun x14 h=>?_;cbv;refine A4 hE h (c81 N x14) (.refl _) fun r15 h=>?_;cbv;refine A8 hE h (fun _ h=>?_) fun _ h=>?_
    ·cbv;refine B9 hE eAr3 h fun x16 h=>?_;cbv;refine A8 hE h (fun _ h=>?_) fun _ h=>?_
     ·cbv;cases h;exact⟨_,_,rfl,⟨rfl,rfl,hO⟩,.e rfl .z,rfl⟩
     cbv;cases h;exact⟨_,rfl,.e4 .z,rfl,hO⟩
    cbv;cases h;exact⟨_,rfl,.e4 .z,rfl,hO⟩
   rintro e l H ⟨rfl,rfl,hO⟩;cbv;cases h;exact⟨_,_,rfl,⟨rfl,rfl,hO⟩,.e rfl .z,rfl⟩
  cbv;cases h;exact⟨_,_,rfl,⟨rfl,rfl,hO⟩,.z,rfl⟩
 ·exact .e4 .z
 clear hx
 rcases s5 with y18|y19
 ·rintro e l H ⟨rfl,rfl,hO⟩;cbv;cases h;exact hK hO (.refl _)
 rintro e l H ⟨rfl,rfl,hO⟩;cbv;cases h;exact hK hO (.refl _)
def cf27 :Cf:=⟨[2],[],[],[],[],[]⟩
theorem c27 (N aB r)(h:Fg N aB=some r):B3 prog 27 [(BF aB)] ((IW r)):=by
 unfold Fg at h
 refine I8 cf27 func27 call27 ntmps27 ?_;intro E H0 K hE hK hO;cbv;refine C3 hE hO fun b1 H hO=>?_;cbv;refine A9 hE hO 0 rfl rfl fun H hO=>?_;cbv;refine B1 hE hO 0 rfl ?_;cbv;cases h;exact hK hO (.refl _)
theorem c38 (N aC aD r) (h:R6 N aC aD=some r):B3 prog 38 [(IW aC),(IW aD)] (vi r):=by
 unfold R6 at h
 refine I8 cf0 func38 call38 ntmps38 ?_;intro E H0 K hE hK hO;cbv;refine A8 hE h (fun _ h=>?_) fun _ h=>?_
 ·cbv;refine A8 hE h (fun _ h=>?_) fun _ h=>?_
  ·cbv;cases h;exact hK hO (.refl _)
  cbv;cases h;exact hK hO (.refl _)
 cbv;refine A8 hE h (fun _ h=>?_) fun _ h=>?_
 ·cbv;refine A8 hE h (fun _ h=>?_) fun _ h=>?_
  ·cbv;cases h;exact hK hO (.refl _)
  cbv;cases h;exact hK hO (.refl _)
 cbv;refine A8 hE h (fun _ h=>?_) fun _ h=>?_
 ·cbv;cases h;exact hK hO (.refl _)
 cbv;refine A8 hE h (fun _ h=>?_) fun _ h=>?_
 ·cbv;cases h;exact hK hO (.refl _)
 cbv;cases h;exact hK hO (.refl _)
theorem c87 (N aB r)(h:DA N aB=some r):B3 prog 87 [(BF aB)] (.bool r):=by
 unfold DA at h
 refine I8 cf0 func87 call87 ntmps87 ?_;intro E H0 K hE hK hO;cbv;cases h;exact hK hO (.refl _)
theorem c88 (N aC aD r)(h:CC N aC aD=some r):B3 prog 88 [(BF aC),(BF aD)] (.bool r):=by
 unfold CC at h
 refine I8 cf0 func88 call88 ntmps88 ?_;intro E H0 K hE hK hO;cbv;cases h;exact hK hO (.refl _)
def cf31 :Cf:=⟨[],[(8,13),(13,8)],[],[],[],[]⟩
theorem c31 (N aF r) (h:Da N aF=some r):B3 prog 31 [sr eAr6 aF] (vi r):=by
 unfold Da at h
 refine I8 cf31 func31 call31 ntmps31 ?_;intro E H0 K hE hK hO;cbv;refine D4 hE ?_;cbv;refine A8 hE h (fun _ h=>?_) fun _ h=>?_
 ·cbv;cases h;exact hK hO (.refl _)
 cbv;obtain⟨s2,hx,h⟩:=bind_some h;refine E3 cf31 hE M4 (fun s1=>[(0,.v (sr eAr6 aF)),fi 3 s1]) (fun s1 H1=>B8 Eq H0 [] H1) (fun x e l H1=>match(generalizing:=false) x with| .inl y=>e= .exit 0∧l=[]∧B8 Eq H0 [] H1| .inr y=>e= .ret∧l=[fi 2 y]∧B8 Eq H0 [] H1) (by kernel_rfl) ?_ hx ?_ hO ?_
 ·intro s1 H o hO h;clear hx;cbv;refine D4 hE ?_;cbv;refine A8 hE h (fun _ h=>?_) fun _ h=>?_
  ·cbv;refine B9 hE eAs0 h fun x3 h=>?_;cbv;refine A4 hE h (c87 N x3) (.refl _) fun r4 h=>?_;cbv;refine A8 hE h (fun _ h=>?_) fun _ h=>?_
   ·cbv;cases h;exact⟨_,_,rfl,⟨rfl,rfl,hO⟩,.e rfl .z,rfl⟩
   cbv;refine A8 hE h (fun _ h=>?_) fun _ h=>?_
   ·cbv;refine B9 hE eAs0 h fun x5 h=>?_;cbv;refine D5 hE (g:=fun r6=>(IW r6)) h (c27 N x5) (.refl _) fun r6 h=>?_;cbv;refine B9 hE eAs0 h fun x7 h=>?_;cbv;refine A4 hE h (c27 N x7) (.refl _) fun r8 h=>?_;cbv;refine A4 hE h (c38 N r6 r8) (.refl _) fun r9 h=>?_;cbv;refine A8 hE h (fun _ h=>?_) fun _ h=>?_
    ·cbv;cases h;exact⟨_,_,rfl,⟨rfl,rfl,hO⟩,.e rfl .z,rfl⟩
    cbv;obtain⟨s11,hx,h⟩:=bind_some h;refine E3 cf31 hE M4 (fun s10=>[(0,.v (sr eAr6 aF)),fi 3 s1,fi 4 s10]) (fun s10 H1=>B8 Eq H0 [] H1) (fun x e l H1=>match(generalizing:=false) x with| .inl y=>e= .exit 2∧l=[(0,.v (sr eAr6 aF)),fi 3 s1]∧B8 Eq H0 [] H1| .inr y=>e= .ret∧l=[fi 2 7]∧B8 Eq H0 [] H1) (by kernel_rfl) ?_ hx ?_ hO ?_
    ·intro s10 H o hO h;clear hx;cbv;refine A8 hE h (fun _ h=>?_) fun _ h=>?_
     ·cbv;refine B9 hE eAs0 h fun x12 h=>?_;cbv;refine B9 hE eAs0 h fun x13 h=>?_;cbv;refine A4 hE h (c88 N x12 x13) (.refl _) fun r14 h=>?_;cbv;refine A8 hE h (fun _ h=>?_) fun _ h=>?_
      ·cbv;cases h;exact⟨_,_,rfl,⟨rfl,rfl,hO⟩,.e rfl .z,rfl⟩
      cbv;cases h;exact⟨_,rfl,.e rfl (.e2 .z),rfl,hO⟩
     cbv;cases h;exact⟨_,_,rfl,⟨rfl,rfl,hO⟩,.e2 .z,rfl⟩
    ·exact .e rfl (.e2 .z)
    clear hx
    rcases s11 with y15|y16
    ·rintro e l H ⟨rfl,rfl,hO⟩;cbv;cases h;exact⟨_,rfl,.e2 .z,rfl,hO⟩
    rintro e l H ⟨rfl,rfl,hO⟩;cbv;cases h;exact⟨_,_,rfl,⟨rfl,rfl,hO⟩,.e rfl .z,rfl⟩
   cbv;obtain⟨s18,hx,h⟩:=bind_some h;refine E3 cf31 hE M4 (fun s17=>[(0,.v (sr eAr6 aF)),fi 3 s1,fi 4 s17]) (fun s17 H1=>B8 Eq H0 [] H1) (fun x e l H1=>match(generalizing:=false) x with| .inl y=>e= .exit 2∧l=[(0,.v (sr eAr6 aF)),fi 3 s1]∧B8 Eq H0 [] H1| .inr y=>e= .ret∧l=[fi 2 7]∧B8 Eq H0 [] H1) (by kernel_rfl) ?_ hx ?_ hO ?_
   ·intro s17 H o hO h;clear hx;cbv;refine A8 hE h (fun _ h=>?_) fun _ h=>?_
    ·cbv;refine B9 hE eAs0 h fun x19 h=>?_;cbv;refine B9 hE eAs0 h fun x20 h=>?_;cbv;refine A4 hE h (c88 N x19 x20) (.refl _) fun r21 h=>?_;cbv;refine A8 hE h (fun _ h=>?_) fun _ h=>?_
     ·cbv;cases h;exact⟨_,_,rfl,⟨rfl,rfl,hO⟩,.e rfl .z,rfl⟩
     cbv;cases h;exact⟨_,rfl,.e rfl (.e2 .z),rfl,hO⟩
    cbv;cases h;exact⟨_,_,rfl,⟨rfl,rfl,hO⟩,.e2 .z,rfl⟩
   ·exact .e rfl (.e2 .z)
   clear hx
   rcases s18 with y22|y23
   ·rintro e l H ⟨rfl,rfl,hO⟩;cbv;cases h;exact⟨_,rfl,.e2 .z,rfl,hO⟩
   rintro e l H ⟨rfl,rfl,hO⟩;cbv;cases h;exact⟨_,_,rfl,⟨rfl,rfl,hO⟩,.e rfl .z,rfl⟩
  cbv;cases h;exact⟨_,_,rfl,⟨rfl,rfl,hO⟩,.z,rfl⟩
 ·exact .e2 .z
 clear hx
 rcases s2 with y24|y25
 ·rintro e l H ⟨rfl,rfl,hO⟩;cbv;cases h;exact hK hO (.refl _)
 rintro e l H ⟨rfl,rfl,hO⟩;cbv;cases h;exact hK hO (.refl _)
theorem c70 (N aA aF r)(h:EA N aA aF=some r):B3 prog 70 [(B6 aA),sr eAr6 aF] (vi r):=by
 unfold EA at h
 refine I8 cf0 func70 call70 ntmps70 ?_;intro E H0 K hE hK hO;cbv;refine A4 hE h (c20 N aA) (.refl _) fun r1 h=>?_;cbv;refine A8 hE h (fun _ h=>?_) fun _ h=>?_
 ·cbv;cases h;exact hK hO (.refl _)
 cbv;refine A4 hE h (c31 N aF) (.refl _) fun r2 h=>?_;cbv;cases h;exact hK hO (.refl _)
theorem c89 (N aC aD r)(h:GM N aC aD=some r):B3 prog 89 [(DK aC),(DK aD)] (vi r):=by
 unfold GM at h
 refine I8 cf0 func89 call89 ntmps89 ?_;intro E H0 K hE hK hO;cbv;refine A4 hE h (c38 N aC.Ref aD.Ref) (.refl _) fun r1 h=>?_;cbv;refine A8 hE h (fun _ h=>?_) fun _ h=>?_
 ·cbv;cases h;exact hK hO (.refl _)
 cbv;refine A8 hE h (fun _ h=>?_) fun _ h=>?_
 ·cbv;cases h;exact hK hO (.refl _)
 cbv;refine A8 hE h (fun _ h=>?_) fun _ h=>?_
 ·cbv;cases h;exact hK hO (.refl _)
 cbv;cases h;exact hK hO (.refl _)
def cf33 :Cf:=⟨[],[(4,10)],[],[],[],[]⟩
theorem c33 (N aC aD r) (h:CS N aC aD=some r):B3 prog 33 [(BE aC),(BE aD)] (vi r):=by
 unfold CS at h
 refine I8 cf33 func33 call33 ntmps33 ?_;intro E H0 K hE hK hO;cbv;obtain⟨s2,hx,h⟩:=bind_some h;refine E3 cf33 hE M4 (fun s1=>[(2,.v (.eref (DG aC) 0)),(3,.v (.eref (DG aD) 0)),fi 5 s1]) (fun s1 H1=>B8 Eq H0 [] H1) (fun x e l H1=>match(generalizing:=false) x with| .inl y=>e= .exit 0∧l=[(2,.v (.eref (DG aC) 0)),(3,.v (.eref (DG aD) 0))]∧B8 Eq H0 [] H1| .inr y=>e= .ret∧l=[fi 4 y]∧B8 Eq H0 [] H1) (by kernel_rfl) ?_ hx ?_ hO ?_
 ·intro s1 H o hO h;clear hx;cbv;refine D4 hE ?_;cbv;refine D4 hE ?_;cbv;refine A8 hE h (fun _ h=>?_) fun _ h=>?_
  ·cbv;refine B9 hE eAs5 h fun x3 h=>?_;cbv;refine B9 hE eAs5 h fun x4 h=>?_;cbv;refine A4 hE h (c89 N x3 x4) (.refl _) fun r5 h=>?_;cbv;refine A8 hE h (fun _ h=>?_) fun _ h=>?_
   ·cbv;cases h;exact⟨_,_,rfl,⟨rfl,rfl,hO⟩,.e rfl .z,rfl⟩
   cbv;cases h;exact⟨_,rfl,.e rfl (.e2 .z),rfl,hO⟩
  cbv;cases h;exact⟨_,_,rfl,⟨rfl,rfl,hO⟩,.e2 .z,rfl⟩
 ·exact .e rfl (.e2 .z)
 clear hx
 rcases s2 with y6|y7
 ·rintro e l H ⟨rfl,rfl,hO⟩;cbv;refine D4 hE ?_;cbv;refine D4 hE ?_;cbv;refine A8 hE h (fun _ h=>?_) fun _ h=>?_
  ·cbv;cases h;exact hK hO (.refl _)
  cbv;refine D4 hE ?_;cbv;refine D4 hE ?_;cbv;refine A8 hE h (fun _ h=>?_) fun _ h=>?_
  ·cbv;cases h;exact hK hO (.refl _)
  cbv;cases h;exact hK hO (.refl _)
 rintro e l H ⟨rfl,rfl,hO⟩;cbv;cases h;exact hK hO (.refl _)
end Go.Ab
