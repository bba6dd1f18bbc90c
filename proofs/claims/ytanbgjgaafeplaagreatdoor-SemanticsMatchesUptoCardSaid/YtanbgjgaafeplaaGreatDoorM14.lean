/- GTCo4 GTCo5 -/
import Derived.Test.YtanbgjgaafeplaaGreatDoorM13
set_option linter.all false
open List (append_assoc append_nil)
open Go.Ab.Ar (an ar lst nt_eq)
namespace Go.Ab
open Go.RowKit Go.Proofs Go.Proofs.Tryz I7
variable [Ar][I7]
set_option maxRecDepth 100000
theorem k236 (N n:Nat) (ih127:Nn N n):Ah1 N (n+1):=by
 intro aJ aM aO aS r h
 unfold P8 at h
 obtain⟨⟨w0,u0⟩,h1,hr⟩:=bind_some h;clear h;have hr:=G2 hr;subst hr;have h:=h1;clear h1;refine N4 cf0 M3 func236 (by rfl) (by kernel_rfl) call236 ntmps236 (by rfl) (fun _=>rfl) ?_;intro yv I D hI hD hy tl F E H K hE hO hK hKD
 have hO:C1 (I (List.map (fun(x:(List A0))=>[sr eAl8 x]) (w0++[])++tl)) F [] H:=by rw[append_nil];exact hO
 cbv;refine D5 hE ?_;cbv;replace hO:=hO.tl0 (t:=.nil) rfl;obtain⟨w3,w4,s7,hx,h1,he⟩:=Q0 h;clear h;have h:=h1;clear h1
 rw[he,append_assoc]at hO
 clear he;refine BX cf0 hE M3 (γ:=D1) (fun s1 g=>[(0,.v (yv)),(2,.v (.eref [.eref (B5 aM) 0] 0)),(3,.v (.eref [sr eAl8 aO] 0)),(4,.v (.eref [vi aS] 0)),(6,.v (.sl (lst eAn6 s1.1) g)),(10,.v (sr eAm3 aJ.cL)),fi 11 (Ar.len aJ.cL),fi 12 s1.2]) (fun s1 g w H1=>K8 g∧C1 (I (List.map (fun(x:(List A0))=>[sr eAl8 x]) w++tl)) F [.tl g] H1) (fun x e l w H1=>∃u1:D1,K8 u1∧e= .exit 0∧l=[(0,.v (yv)),(2,.v (.eref [.eref (B5 aM) 0] 0)),(6,.v (.sl (lst eAn6 x) u1))]∧C1 (I (List.map (fun(x:(List A0))=>[sr eAl8 x]) w++tl)) F [.tl u1] H1) (fun e l H1=>False) (by kernel_rfl) ?_ (w':=w4++[]) .nil hx ?_ ?_ ?_ ?_
 ·rintro s1 t2 w5 w6 H o ⟨ht2,hO⟩ h;clear hx
  skip
  cbv;refine A8 hE h (fun _ h=>?_) fun _ h=>?_
  ·cbv;refine B8 hE eAm2 h fun x8 h=>?_;cbv;refine A5 hE h (ih127 aM x8 aO aS) (.refl _) fun r9 h=>?_;cbv;refine AO (f:=eAn6) hE Cm (by decide) hO 0 rfl ht2 (l:=s1.1) (m:=[r9]) (.refl _) (.lstc (.eq (eAo3 r9) (.refl _)) (.lst0)) h fun l11 t10 H hO ht10 h=>?_;cbv;obtain⟨hw,rfl⟩:=D0 h
   rw[←hw]at hO
   exact⟨_,t10,rfl,.e4 (.e4 .z),rfl,⟨ht10,hO⟩⟩
  cbv;obtain⟨hw,rfl⟩:=D0 h
  rw[←hw]at hO
  exact .inl ⟨_,_,rfl,⟨t2,ht2,rfl,rfl,hO⟩,.e rfl (.e2 .z),rfl⟩
 ·exact .e4 (.v (.slt _ (.lst0)) (.e rfl (.e rfl (.e rfl (.z)))))
 ·exact⟨trivial,hO⟩
 ·rintro e l H ⟨t12,ht12,rfl,rfl,hO⟩;clear hx;cbv;refine A8 hE h (fun _ h=>?_) fun _ h=>?_
  ·cbv;obtain⟨l13,hl,h⟩:=bind_some h;obtain⟨w14,h1,he⟩:=U8 h;clear h;have h:=h1;clear h1
   rw[he,append_assoc]at hO
   clear he
   rw[List.map_append,append_assoc]at hO
   refine OO hE hI hD hy (c237 N N s7 ([]) l13 hl) hO (.cons (.ro _ _) (.cons (.lit _ (E6)) (.refl _))) (fun v H hb hO=>?_) (fun v H hb hO=>?_)
   ·cases hb;clear hl;cbv;obtain⟨hw,_⟩:=D0 h
    rw[←hw]at hO
    exact hK _ _ _ hO trivial
   cases hb;clear h hl;cbv;exact hKD _ _ _ hO trivial
  cbv;obtain⟨hw,_⟩:=D0 h
  rw[←hw]at hO
  exact hK _ _ _ hO trivial
 rintro e l H hX;exact hX.elim
theorem k238 (N n:Nat) (ih127:Nn N n) (ih233:ZO N n) (ih239:Ag9 N n):Ah0 N (n+1):=by
 intro aJ aM aO aS r h
 unfold O0 at h
 obtain⟨⟨w0,u0⟩,h1,hr⟩:=bind_some h;clear h;have hr:=G2 hr;subst hr;have h:=h1;clear h1;refine N4 cf238 M3 func238 (by rfl) (by kernel_rfl) call238 ntmps238 (by rfl) (fun _=>rfl) ?_;intro yv I D hI hD hy tl F E H K hE hO hK hKD
 have hO:C1 (I (List.map (fun(x:(List A0))=>[sr eAl8 x]) (w0++[])++tl)) F [] H:=by rw[append_nil];exact hO
 cbv;refine IG hE hy.1 ?_;cbv;refine B8 hE eAm2 h fun x1 h=>?_;cbv;refine C9 hE (g:=fun r2=>sr eAm6 r2) h (ih127 aJ x1 aO aS) (.refl _) fun r2 h=>?_;cbv;refine D5 hE ?_;cbv;obtain⟨w4,w5,s8,hx,h1,he⟩:=Q0 h;clear h;have h:=h1;clear h1
 rw[he,append_assoc]at hO
 clear he;refine BX cf238 hE M3 (γ:=Unit) (fun s3 g=>[(1,.v (.eref [.eref (B5 aJ) 0] 0)),(2,.v (.eref (D3 aM) 0)),(3,.v (.eref [sr eAl8 aO] 0)),(4,.v (.eref [vi aS] 0)),(5,.v (.eref [yv] 0)),(16,.v (sr eAm6 r2)),fi 17 (Ar.len r2),fi 18 s3]) (fun s3 g w H1=>C1 (I (List.map (fun(x:(List A0))=>[sr eAl8 x]) w++tl)) F [] H1) (fun x e l w H1=>match(generalizing:=false) x with| .inl y=>e= .exit 0∧l=[(1,.v (.eref [.eref (B5 aJ) 0] 0)),(2,.v (.eref (D3 aM) 0)),(3,.v (.eref [sr eAl8 aO] 0)),(4,.v (.eref [vi aS] 0)),(5,.v (.eref [yv] 0))]∧C1 (I (List.map (fun(x:(List A0))=>[sr eAl8 x]) w++tl)) F [] H1| .inr y=>e= .ret∧l=[]∧C1 (I (List.map (fun(x:(List A0))=>[sr eAl8 x]) w++tl)) F [] H1) (fun e l H1=>(e= .ret∧l=[]∧C1 D F [] H1)) (by kernel_rfl) ?_ (w':=w5++[]) () hx ?_ ?_ ?_ ?_
 ·rintro s3 _ w6 w7 H o hO h;clear hx
  skip
  cbv;refine A8 hE h (fun _ h=>?_) fun _ h=>?_
  ·cbv;refine B8 hE eAn5 h fun x9 h=>?_;cbv;refine A8 hE h (fun _ h=>?_) fun _ h=>?_
   ·cbv;obtain⟨hw,rfl⟩:=D0 h
    rw[←hw]at hO
    exact .inl ⟨_,_,rfl,⟨rfl,rfl,hO⟩,.z,rfl⟩
   cbv;obtain⟨w10,h1,he⟩:=U8 h;clear h;have h:=h1;clear h1
   rw[he,append_assoc]at hO
   clear he;have hO:C1 (I ([sr eAl8 x9]::(List.map (fun(x:(List A0))=>[sr eAl8 x]) (w10++w7)++tl))) F [] _:=hO;refine Du hE hI hD hy hO (.refl _) (fun H hO=>?_) (fun H hO=>?_)
   ·cbv;refine Ic hE (nt_eq _) ?_;cbv;obtain⟨hw,rfl⟩:=D0 h
    rw[←hw]at hO
    exact⟨_,(),rfl,.e4 (.e4 .z),rfl,hO⟩
   clear h;cbv;refine Ib hE (nt_eq _) ?_;cbv;exact .inr ⟨_,⟨rfl,rfl,hO⟩,.z,rfl⟩
  cbv;obtain⟨hw,rfl⟩:=D0 h
  rw[←hw]at hO
  exact .inl ⟨_,_,rfl,⟨rfl,rfl,hO⟩,.e rfl (.e4 .z),rfl⟩
 ·exact .e4 (.e4 .z)
 ·exact hO
 ·rintro e l H hX;clear hx
  rcases s8 with y11|y25
  ·obtain⟨rfl,rfl,hO⟩:=hX;cbv;refine B8 hE eAm2 h fun x12 h=>?_;cbv;refine HP hE h (fun r13 hx=>ih233 aJ x12 aO aS (.func (.func 239) [] [.eref [.eref (B5 aJ) 0] 0,.eref (D3 aM) 0]) (fun y1 y2=>H7 N n y1 y2 aJ aM) (fun y1 y2 r hx=>B4.value (F:=[]) (C:=[.eref [.eref (B5 aJ) 0] 0,.eref (D3 aM) 0]) (ih239 y1 y2 aJ aM r hx)) ⟨rfl,rfl⟩ r13 hx) (.refl _) fun r13 v14 hv14 h=>?_;cbv;obtain⟨w18,w19,o22,hx,h1,he⟩:=Q0 h;clear h;have h:=h1;clear h1
   rw[he,append_assoc]at hO
   clear he;refine Xi cf238 hE M3 (ι:=Unit) (σ:=Unit) (R:=Unit) (enc:=fun(x:(List A0))=>[sr eAl8 x]) (fun _ w F1 H=>C1 (I (List.map (fun(x:(List A0))=>[sr eAl8 x]) w++tl)) F1 [] H) (fun _ e w F1 H=>False) (fun e F1 H=>e= .ret∧C1 D F1 [] H) (fun i _ y15=>[(5,.v (.eref [yv] 0)),(8,.v (sr eAl8 y15))]) (fun i _ y15 w F1 H=>C1 (I (List.map (fun(x:(List A0))=>[sr eAl8 x]) w++tl)) F1 [] H) (fun _ _=>C1.stable (hI _) _) (fun _ _ _=>⟨fun h=>h.elim,fun _ _ h=>h.elim⟩) (fun _=>D7.con (C1.stable hD _)) (fun _ _ _ _=>C1.stable (hI _) _) hv14 hx (w':=w19++[]) hO (by decide) (fun _=>rfl) (by kernel_rfl) (by kernel_rfl) ?_ ?_ ?_ ?_ ?_
   ·rintro E i17 y15 _ w F16 H hE hO;clear hx h;cbv;exact⟨(),hO,.e2 .z,rfl⟩
   ·rintro E i17 _ y15 _ w20 w21 F16 H o hE hF h hO;clear hx;cbv;obtain⟨w23,h1,he⟩:=U8 h;clear h;have h:=h1;clear h1
    rw[he,append_assoc]at hO
    clear he;have hO:C1 (I ([sr eAl8 y15]::(List.map (fun(x:(List A0))=>[sr eAl8 x]) (w23++w21)++tl))) F16 [] _:=hO;refine Du hE hI hD hy hO (.refl _) (fun H hO=>?_) (fun H hO=>?_)
    ·cbv;refine Ic hE (nt_eq _) ?_;cbv;obtain⟨hw,rfl⟩:=D0 h
     rw[←hw]at hO
     exact⟨_,rfl,hO⟩
    clear h;cbv;refine Ib hE (nt_eq _) ?_;cbv
    first|exact .inr ⟨rfl,rfl,hO⟩|exact .inr (hO)
   ·rintro d24 _ H rfl hd hO;have hO:C1 (I (List.map (fun(x:(List A0))=>[sr eAl8 x]) (w19++[])++tl)) F [.blk d24 DB] H:=C1.dblk hd hO;clear hd hx;cbv;refine Jv hE hO 0 rfl fun H hO=>?_;cbv;obtain⟨hw,_⟩:=D0 h
    rw[←hw]at hO
    exact hK _ _ _ hO trivial
   ·rintro _ _ _ _ _ _ h;exact h.elim
   rintro d24 e H hd ⟨rfl,hO⟩;have hO:C1 D F [.blk d24 DB] H:=C1.dblk hd hO;clear hd hx h;cbv;refine Jv hE hO 0 rfl fun H hO=>?_;cbv;exact hKD _ _ _ hO trivial
  obtain⟨rfl,rfl,hO⟩:=hX;cbv;obtain⟨hw,_⟩:=D0 h
  rw[←hw]at hO
  exact hK _ _ _ hO trivial
 rintro e l H hX;obtain⟨rfl,rfl,hO⟩:=hX;clear h;cbv;exact hKD _ _ _ hO trivial
theorem k239 (N n:Nat)(ih127:Nn N n):Ag9 N (n+1):=by
 intro aN aG aM aO r h
 unfold H7 at h
 refine I4 cf0 func239 call239 ntmps239 ?_;intro E H0 K hE hK hO;cbv;refine A5 hE h (ih127 aM aO aN aG) (.refl _) fun r1 h=>?_;cbv;cases h;exact hK hO (.refl _)
theorem k240 (N n:Nat) (ih127:Nn N n):Ag8 N (n+1):=by
 intro aJ aM aO aS r h
 unfold N9 at h
 obtain⟨⟨w0,u0⟩,h1,hr⟩:=bind_some h;clear h;have hr:=G2 hr;subst hr;have h:=h1;clear h1;refine N4 cf240 M3 func240 (by rfl) (by kernel_rfl) call240 ntmps240 (by rfl) (fun _=>rfl) ?_;intro yv I D hI hD hy tl F E H K hE hO hK hKD
 have hO:C1 (I (List.map (fun(x:(List A0))=>[sr eAl8 x]) (w0++[])++tl)) F [] H:=by rw[append_nil];exact hO
 cbv;refine B8 hE eAm2 h fun x1 h=>?_;cbv;refine C9 hE (g:=fun r2=>sr eAm6 r2) h (ih127 aJ x1 aO aS) (.refl _) fun r2 h=>?_;cbv;refine D5 hE ?_;cbv;obtain⟨w4,w5,s8,hx,h1,he⟩:=Q0 h;clear h;have h:=h1;clear h1
 rw[he,append_assoc]at hO
 clear he;refine BX cf240 hE M3 (γ:=Unit) (fun s3 g=>[(0,.v (yv)),(1,.v (.eref [.eref (B5 aJ) 0] 0)),(2,.v (.eref (D3 aM) 0)),(3,.v (.eref [sr eAl8 aO] 0)),(15,.v (sr eAm6 r2)),fi 16 (Ar.len r2),fi 17 s3]) (fun s3 g w H1=>C1 (I (List.map (fun(x:(List A0))=>[sr eAl8 x]) w++tl)) F [] H1) (fun x e l w H1=>e= .exit 0∧l=[]∧C1 (I (List.map (fun(x:(List A0))=>[sr eAl8 x]) w++tl)) F [] H1) (fun e l H1=>(e= .ret∧l=[]∧C1 D F [] H1)) (by kernel_rfl) ?_ (w':=w5++[]) () hx ?_ ?_ ?_ ?_
 ·rintro s3 _ w6 w7 H o hO h;clear hx
  skip
  cbv;refine A8 hE h (fun _ h=>?_) fun _ h=>?_
  ·cbv;refine B8 hE eAn5 h fun x9 h=>?_;cbv;refine A5 hE h (c241 N aJ aM aO x9) (.refl _) fun r10 h=>?_;cbv;refine A8 hE h (fun _ h=>?_) fun _ h=>?_
   ·cbv;obtain⟨w11,h1,he⟩:=U8 h;clear h;have h:=h1;clear h1
    rw[he,append_assoc]at hO
    clear he;have hO:C1 (I ([sr eAl8 x9]::(List.map (fun(x:(List A0))=>[sr eAl8 x]) (w11++w7)++tl))) F [] _:=hO;refine Du hE hI hD hy hO (.refl _) (fun H hO=>?_) (fun H hO=>?_)
    ·cbv;refine Ic hE (nt_eq _) ?_;cbv;obtain⟨hw,rfl⟩:=D0 h
     rw[←hw]at hO
     exact⟨_,(),rfl,.e rfl (.e2 (.e4 .z)),rfl,hO⟩
    clear h;cbv;refine Ib hE (nt_eq _) ?_;cbv;exact .inr ⟨_,⟨rfl,rfl,hO⟩,.z,rfl⟩
   cbv;obtain⟨hw,rfl⟩:=D0 h
   rw[←hw]at hO
   exact⟨_,(),rfl,.e rfl (.e2 (.e4 .z)),rfl,hO⟩
  cbv;obtain⟨hw,rfl⟩:=D0 h
  rw[←hw]at hO
  exact .inl ⟨_,_,rfl,⟨rfl,rfl,hO⟩,.z,rfl⟩
 ·exact .e rfl (.e2 (.e4 .z))
 ·exact hO
 ·rintro e l H ⟨rfl,rfl,hO⟩;clear hx;cbv;obtain⟨hw,_⟩:=D0 h
  rw[←hw]at hO
  exact hK _ _ _ hO trivial
 rintro e l H hX;obtain⟨rfl,rfl,hO⟩:=hX;clear h;cbv;exact hKD _ _ _ hO trivial
theorem k268 (N n:Nat) (ih127:Nn N n):Ag7 N (n+1):=by
 intro aJ aM aO aS bU bV cI r h
 unfold N8 at h
 obtain⟨⟨w0,u0⟩,h1,hr⟩:=bind_some h;clear h;have hr:=G2 hr;subst hr;have h:=h1;clear h1;refine N4 cf268 M3 func268 (by rfl) (by kernel_rfl) call268 ntmps268 (by rfl) (fun _=>rfl) ?_;intro yv I D hI hD hy tl F E H K hE hO hK hKD
 have hO:C1 (I (List.map (fun(x:(List A0))=>[sr eAl8 x]) (w0++[])++tl)) F [] H:=by rw[append_nil];exact hO
 cbv;refine A5 hE h (ih127 aJ aM aO aS) (.refl _) fun r1 h=>?_;cbv;refine D5 hE ?_;cbv;obtain⟨w3,w4,s7,hx,h1,he⟩:=Q0 h;clear h;have h:=h1;clear h1
 rw[he,append_assoc]at hO
 clear he;refine BX cf268 hE M3 (γ:=Unit) (fun s2 g=>[(0,.v (yv)),(1,.v (.eref [.eref (B5 aJ) 0] 0)),(3,.v (.eref [sr eAl8 aO] 0)),(5,.v (.eref [bU] 0)),(15,.v (sr eAm6 r1)),fi 16 (Ar.len r1),fi 17 s2]) (fun s2 g w H1=>C1 (I (List.map (fun(x:(List A0))=>[sr eAl8 x]) w++tl)) F [] H1) (fun x e l w H1=>match(generalizing:=false) x with| .inl y=>e= .exit 0∧l=[]∧C1 (I (List.map (fun(x:(List A0))=>[sr eAl8 x]) w++tl)) F [] H1| .inr y=>e= .ret∧l=[]∧C1 (I (List.map (fun(x:(List A0))=>[sr eAl8 x]) w++tl)) F [] H1) (fun e l H1=>(e= .ret∧l=[]∧C1 D F [] H1)) (by kernel_rfl) ?_ (w':=w4++[]) () hx ?_ ?_ ?_ ?_
 ·rintro s2 _ w5 w6 H o hO h;clear hx
  skip
  cbv;refine A8 hE h (fun _ h=>?_) fun _ h=>?_
  ·cbv;refine B8 hE eAn5 h fun x8 h=>?_;cbv;refine C9 hE (g:=fun r9=>sr eAl8 r9) h (c269 N aO x8) (.refl _) fun r9 h=>?_;cbv;refine C9 hE (g:=fun r10=>vi r10) h (c270 N x8) (.refl _) fun r10 h=>?_;cbv;refine Xj hE (g:=fun r11=>sr eAm6 r11) h (fun r11 hx=>cI r9 (ar .add .i64 r10 1) r11 hx) (.refl _) fun r11 h=>?_;cbv;refine D5 hE ?_;cbv;obtain⟨w13,w14,s17,hx,h1,he⟩:=Q0 h;clear h;have h:=h1;clear h1
   rw[he,append_assoc]at hO
   clear he;refine BX cf268 hE M3 (γ:=Unit) (fun s12 g=>[(0,.v (yv)),(1,.v (.eref [.eref (B5 aJ) 0] 0)),(3,.v (.eref [sr eAl8 aO] 0)),(5,.v (.eref [bU] 0)),(8,.v (sr eAl8 x8)),(15,.v (sr eAm6 r1)),fi 16 (Ar.len r1),fi 17 s2,(28,.v (sr eAm6 r11)),fi 29 (Ar.len r11),fi 30 s12]) (fun s12 g w H1=>C1 (I (List.map (fun(x:(List A0))=>[sr eAl8 x]) w++tl)) F [] H1) (fun x e l w H1=>match(generalizing:=false) x with| .inl y=>e= .exit 2∧l=[(0,.v (yv)),(1,.v (.eref [.eref (B5 aJ) 0] 0)),(3,.v (.eref [sr eAl8 aO] 0)),(5,.v (.eref [bU] 0)),(15,.v (sr eAm6 r1)),fi 16 (Ar.len r1),fi 17 s2]∧C1 (I (List.map (fun(x:(List A0))=>[sr eAl8 x]) w++tl)) F [] H1| .inr y=>e= .ret∧l=[]∧C1 (I (List.map (fun(x:(List A0))=>[sr eAl8 x]) w++tl)) F [] H1) (fun e l H1=>(e= .ret∧l=[]∧C1 D F [] H1)) (by kernel_rfl) ?_ (w':=w14++w6) () hx ?_ ?_ ?_ ?_
   ·rintro s12 _ w15 w16 H o hO h;clear hx
    skip
    cbv;refine A8 hE h (fun _ h=>?_) fun _ h=>?_
    ·cbv;refine B8 hE eAn5 h fun x18 h=>?_;cbv;refine A8 hE h (fun _ h=>?_) fun _ h=>?_
     ·cbv;obtain⟨hw,rfl⟩:=D0 h
      rw[←hw]at hO
      exact .inl ⟨_,_,rfl,⟨rfl,rfl,hO⟩,.z,rfl⟩
     cbv;refine A5 hE h (c269 N x8 x18) (.refl _) fun r19 h=>?_;cbv;obtain⟨w20,h1,he⟩:=U8 h;clear h;have h:=h1;clear h1
     rw[he,append_assoc]at hO
     clear he;have hO:C1 (I ([sr eAl8 r19]::(List.map (fun(x:(List A0))=>[sr eAl8 x]) (w20++w16)++tl))) F [] _:=hO;refine Du hE hI hD hy hO (.refl _) (fun H hO=>?_) (fun H hO=>?_)
     ·cbv;refine Ic hE (nt_eq _) ?_;cbv;obtain⟨hw,rfl⟩:=D0 h
      rw[←hw]at hO
      exact⟨_,(),rfl,.e rfl (.e2 (.e4 (.e4 .z))),rfl,hO⟩
     clear h;cbv;refine Ib hE (nt_eq _) ?_;cbv;exact .inr ⟨_,⟨rfl,rfl,hO⟩,.z,rfl⟩
    cbv;obtain⟨hw,rfl⟩:=D0 h
    rw[←hw]at hO
    exact .inl ⟨_,_,rfl,⟨rfl,rfl,hO⟩,.e rfl (.e2 (.e4 .z)),rfl⟩
   ·exact .e rfl (.e2 (.e4 (.e4 .z)))
   ·exact hO
   ·rintro e l H hX;clear hx
    rcases s17 with y21|y22
    ·obtain⟨rfl,rfl,hO⟩:=hX;cbv;obtain⟨hw,rfl⟩:=D0 h
     rw[←hw]at hO
     exact⟨_,(),rfl,.e rfl (.e2 (.e4 .z)),rfl,hO⟩
    obtain⟨rfl,rfl,hO⟩:=hX;cbv;obtain⟨hw,rfl⟩:=D0 h
    rw[←hw]at hO
    exact .inl ⟨_,_,rfl,⟨rfl,rfl,hO⟩,.z,rfl⟩
   rintro e l H hX;obtain⟨rfl,rfl,hO⟩:=hX;clear h;cbv;exact .inr ⟨_,⟨rfl,rfl,hO⟩,.z,rfl⟩
  cbv;obtain⟨hw,rfl⟩:=D0 h
  rw[←hw]at hO
  exact .inl ⟨_,_,rfl,⟨rfl,rfl,hO⟩,.z,rfl⟩
 ·exact .e rfl (.e2 (.e4 .z))
 ·exact hO
 ·rintro e l H hX;clear hx
  rcases s7 with y23|y24
  ·obtain⟨rfl,rfl,hO⟩:=hX;cbv;obtain⟨hw,_⟩:=D0 h
   rw[←hw]at hO
   exact hK _ _ _ hO trivial
  obtain⟨rfl,rfl,hO⟩:=hX;cbv;obtain⟨hw,_⟩:=D0 h
  rw[←hw]at hO
  exact hK _ _ _ hO trivial
 rintro e l H hX;obtain⟨rfl,rfl,hO⟩:=hX;clear h;cbv;exact hKD _ _ _ hO trivial
theorem R3 (N:Nat):∀n,Nn N n∧Ah8 N n∧Ah7 N n∧Ah6 N n∧Ah5 N n∧Ah4 N n∧ZO N n∧Ah3 N n∧Ah2 N n∧Ah1 N n∧Ah0 N n∧Ag9 N n∧Ag8 N n∧Ag7 N n:=by
 intro n
 induction n with
 |zero=>exact⟨(by intro aK aA aN aG r h;unfold C8 at h;cases h),(by intro aK aA aN aG r h;unfold L4 at h;cases h),(by intro aK aA aN aG r h;unfold L5 at h;cases h),(by intro aK aA aN aG r h;unfold L6 at h;cases h),(by intro aK aA aN aG r h;unfold K5 at h;cases h),(by intro aK aA aN aG r h;unfold E5 at h;cases h),(by intro aK aA aN aG bW bS cF cH r h;unfold K4 at h;cases h),(by intro aN aG aM aO r h;unfold J4 at h;cases h),(by intro aJ aM aO aS r h;unfold P7 at h;cases h),(by intro aJ aM aO aS r h;unfold P8 at h;cases h),(by intro aJ aM aO aS r h;unfold O0 at h;cases h),(by intro aN aG aM aO r h;unfold H7 at h;cases h),(by intro aJ aM aO aS r h;unfold N9 at h;cases h),(by intro aJ aM aO aS bU bV cI r h;unfold N8 at h;cases h)⟩
 |succ n ih=>
  obtain⟨ih127,ih191,ih192,ih193,ih194,ih195,ih233,ih234,ih235,ih236,ih238,ih239,ih240,ih268⟩:=ih;exact⟨k127 N n ih191 ih192 ih193 ih194 ih195,k191 N n ih127 ih233 ih234,k192 N n ih235,k193 N n ih236,k194 N n ih238,k195 N n ih240,k233 N n ih268,k234 N n ih127,k235 N n ih127,k236 N n ih127,k238 N n ih127 ih233 ih239,k239 N n ih127,k240 N n ih127,k268 N n ih127⟩
theorem c127 (N n aK aA aN aG r)(h:C8 N n aK aA aN aG=some r):B4 prog 127 [.eref (B5 aK) 0,(C3 aA),sr eAl8 aN,vi aG] (sr eAm6 r):=(R3 N n).1 aK aA aN aG r h
theorem c128 {cmp:E4→E4→Option Int}{g:Nat}{C:List V}(eg:∀vals w,(callFunc g vals).run prog w= .ok (.enter g vals) w)(hc:∀y1 y2 r,cmp y1 y2=some r→B4 prog g ([(Ez y1),(Ez y2)]++C) (vi r)){l r:List E4}(h:GL cmp l=some r):
 Px prog 128 (.func (.func g) [] C) 1 (lst eAm7 l) (lst eAm7 r):=KZ Go.Proofs.Tryz.sorts128 call128 (va:=fun x=>(EV x)) eAn8 (fun _=>rfl) eg hc h
def cf69 :Cf:=⟨[13,6000010],[(19,12)],[],[],[(70,10),(70,68)],[]⟩
theorem c69 (N aA aF r) (h:O1 N aA aF=some r):B4 prog 69 [(C3 aA),sr eAl9 aF] (.tup [sr eAm7 r.1,vi r.2]):=by
 unfold O1 at h
 refine I4 cf69 func69 call69 ntmps69 ?_;intro E H0 K hE hK hO;cbv;refine A5 hE h (c49 N aA) (.refl _) fun r1 h=>?_;cbv;refine A8 hE h (fun hc h=>?_) (fun hc h=>?_)
 ·cbv;cases h;exact hK hO (.tup (.cons (.lit _ (E6)) (.refl _)))
 cbv;refine A5 hE h (c126 N aF) (.refl _) fun r2 h=>?_;cbv;refine A8 hE h (fun hc h=>?_) (fun hc h=>?_)
 ·cbv;cases h;exact hK hO (.tup (.cons (.lit _ (E6)) (.refl _)))
 cbv;refine A5 hE h (c127 N N (⟨aF,false⟩:B3) aA ([]) 0) (.cons (.refl _) (.cons (.refl _) (.cons (.lit _ (E6)) (.refl _)))) fun r3 h=>?_;cbv;refine Aj8 hE (fun hc=>by cases hc) (fun hc=>?_);cbv;refine SD hE (f:=eAm7) hO fun q4 H hq4 hO=>?_;cbv;refine D5 hE ?_;cbv;obtain⟨s7,hx,h⟩:=bind_some h;refine M8 cf69 hE M3 (γ:=OG) (fun s5 g=>[(1,.v (sr eAl9 aF)),(10,.v (.own g.id g.lo g.n)),(36,.v (sr eAm6 r3)),fi 37 (Ar.len r3),fi 38 s5.1]) (fun s5 g H1=>Eu g (Ar.len s5.2)∧C1 Eq H0 [ob g 1 eAm7 s5.2] H1) (fun x e l H1=>∃u1:OG,Eu u1 (Ar.len x)∧e= .exit 0∧l=[(10,.v (.own u1.id u1.lo u1.n))]∧C1 Eq H0 [ob u1 1 eAm7 x] H1) (by kernel_rfl) ?_ q4 hx ?_ ?_ ?_
 ·rintro s5 q6 H o ⟨hq6,hO⟩ h;clear hx;cbv;refine A8 hE h (fun hc h=>?_) (fun hc h=>?_)
  ·cbv;refine B8 hE eAn5 h fun x8 h=>?_;cbv;refine C5 hE hO fun b9 H hO=>?_;cbv;refine D5 hE ?_;cbv;replace hO:=hO.cast (L':=[cb b9 [.sl (lst eAn0 ([])) .nil],ob q6 1 eAm7 s5.2]) (by simp only[ob,cb,sr,←E6]<;>rfl);replace hO:=hO.tl0 (t:=.nil) rfl;obtain⟨s12,hx,h⟩:=bind_some h;refine M8 cf69 hE M3 (γ:=D1) (fun s10 g=>[(1,.v (sr eAl9 aF)),(10,.v (.own q6.id q6.lo q6.n)),(13,.v (.ref b9 0)),(36,.v (sr eAm6 r3)),fi 37 (Ar.len r3),fi 38 s5.1,(42,.v (sr eAl8 x8)),fi 43 (Ar.len x8),fi 44 s10.1]) (fun s10 g H1=>K8 g∧C1 Eq H0 [.tl g,cb b9 [.sl (lst eAn0 s10.2.cO) g],ob q6 1 eAm7 s5.2] H1) (fun x e l H1=>∃u1:D1,K8 u1∧e= .exit 2∧l=[(1,.v (sr eAl9 aF)),(10,.v (.own q6.id q6.lo q6.n)),(13,.v (.ref b9 0)),(36,.v (sr eAm6 r3)),fi 37 (Ar.len r3),fi 38 s5.1]∧C1 Eq H0 [.tl u1,cb b9 [.sl (lst eAn0 x.cO) u1],ob q6 1 eAm7 s5.2] H1) (by kernel_rfl) ?_ .nil hx ?_ ?_ ?_
   ·rintro s10 t11 H o ⟨ht11,hO⟩ h;clear hx;cbv;refine A8 hE h (fun hc h=>?_) (fun hc h=>?_)
    ·cbv;refine B8 hE eAn4 h fun x13 h=>?_;cbv;refine B2 hE hO 1 rfl ?_;cbv;refine B8 hE eAm5 h fun x14 h=>?_;cbv;refine C9 hE (g:=fun r15=>(HX r15)) h (c96 N x14) (.refl _) fun r15 h=>?_;cbv;refine AO (f:=eAn0) hE KF (by decide) hO 0 rfl ht11 (l:=s10.2.cO) (m:=[(⟨x13.cR,r15⟩:E0)]) (.refl _) (.lstc (.eq (eAn7 (⟨x13.cR,r15⟩:E0)) (.refl _)) (.lst0)) h fun l17 t16 H hO ht16 h=>?_;cbv;refine A9 hE hO 1 rfl rfl fun H hO=>?_;cbv;cases h;exact⟨_,t16,rfl,.e rfl (.e4 (.e4 .z)),rfl,ht16,hO⟩
    cbv;cases h;exact⟨_,_,rfl,⟨t11,ht11,rfl,rfl,hO⟩,.e2 (.e4 .z),rfl⟩
   ·exact .e rfl (.e4 (.e4 .z))
   ·exact⟨trivial,hO⟩
   clear hx;rintro e l H ⟨t18,ht18,rfl,rfl,hO⟩;cbv;refine B2 hE hO 1 rfl ?_;cbv;refine FX (f:=eAm7) hE DD (by decide) hO hq6 2 rfl (m:=[s12]) (GK (f:=eAm7) hE DD (.lstc (.eq (eAn8 s12) (.agg (.cons (.ro _ _) (.refl _)))) (.lst0))) h fun l20 q19 H hq19 hO h=>?_;cbv;cases h;exact⟨_,q19,rfl,.e rfl (.e4 .z),rfl,hq19,hO.tail.tail⟩
  cbv;cases h;exact⟨_,_,rfl,⟨q6,hq6,rfl,rfl,hO⟩,.e rfl .z,rfl⟩
 ·exact .e rfl (.e4 .z)
 ·exact⟨hq4,hO⟩
 clear hx;rintro e l H ⟨q21,hq21,rfl,rfl,hO⟩;cbv;refine QN hE hO hq21 0 rfl h (fun l22 hx=>c128 (g:=102) (C:=[]) call102 (fun y1 y2 r hx=>c102 N y1 y2 r hx) hx) fun l22 H hq21 hO h=>?_;cbv;refine Ad9 hE hO hq21 0 rfl fun H hO=>?_;cbv;refine IG hE (by trivial) ?_;cbv;cases h;exact hK hO (.refl _)
theorem c14 (N aA aF r)(h:W5 N aA aF=some r):B4 prog 14 [(C3 aA),sr eAl9 aF] (.tup [sr eAm7 r.1,vi r.2]):=by
 unfold W5 at h
 refine I4 cf0 func14 call14 ntmps14 ?_;intro E H0 K hE hK hO;cbv;refine A5 hE h (c69 N aA aF) (.refl _) fun r1 h=>?_;cbv;cases h;exact hK hO (.refl _)
theorem c39 (N aA aF r)(h:Df N aA aF=some r):B4 prog 39 [(C3 aA),sr eAl9 aF] (.tup [vi r.1,vi r.2]):=by
 unfold Df at h
 refine I4 cf0 func39 call39 ntmps39 ?_;intro E H0 K hE hK hO;cbv;refine A5 hE h (c69 N aA aF) (.refl _) fun r1 h=>?_;cbv;refine D5 hE ?_;cbv;cases h;exact hK hO (.refl _)
def cf40 :Cf:=⟨[4],[],[],[],[],[]⟩
theorem c40 (N aA aF r)(h:De N aA aF=some r):B4 prog 40 [(C3 aA),sr eAl9 aF] (.tup [(Ez r.1),.bool r.2.1,vi r.2.2]):=by
 unfold De at h
 refine I4 cf40 func40 call40 ntmps40 ?_;intro E H0 K hE hK hO;cbv;refine C5 hE hO fun b1 H hO=>?_;cbv;refine A5 hE h (c69 N aA aF) (.refl _) fun r2 h=>?_;cbv;refine D5 hE ?_;cbv;refine A8 hE h (fun _ h=>?_) fun _ h=>?_
 ·cbv;refine A9 hE hO 0 rfl rfl fun H hO=>?_;cbv;refine B2 hE hO 0 rfl ?_;cbv;cases h;exact hK hO (.tup (.cons (.agg (.cons (.lit _ (E6)) (.refl _))) (.refl _)))
 cbv;refine B8 hE eAn8 h fun x3 h=>?_;cbv;refine A9 hE hO 0 rfl rfl fun H hO=>?_;cbv;refine B2 hE hO 0 rfl ?_;cbv;cases h;exact hK hO (.refl _)
theorem c62 (N aP r) (h:FZ N aP=some r):B4 prog 62 [sr (V.int .i64) aP] (sr eAl9 r):=by
 unfold FZ at h
 refine I4 cf0 func62 call62 ntmps62 ?_;intro E H0 K hE hK hO;cbv;refine D5 hE ?_;cbv;replace hO:=hO.tl0 (t:=.nil) rfl;obtain⟨s3,hx,h⟩:=bind_some h;refine M8 cf0 hE M3 (γ:=D1) (fun s1 g=>[(3,.v (.sl (lst eAl9 s1.1) g)),(6,.v (sr (V.int .i64) aP)),fi 7 (Ar.len aP),fi 8 s1.2]) (fun s1 g H1=>K8 g∧C1 Eq H0 [.tl g] H1) (fun x e l H1=>∃u1:D1,K8 u1∧e= .exit 0∧l=[(3,.v (.sl (lst eAl9 x) u1))]∧C1 Eq H0 [.tl u1] H1) (by kernel_rfl) ?_ .nil hx ?_ ?_ ?_
 ·rintro s1 t2 H o ⟨ht2,hO⟩ h;clear hx;cbv;refine A8 hE h (fun _ h=>?_) fun _ h=>?_
  ·cbv;refine B8 hE (fun _=>rfl) h fun x4 h=>?_;cbv;refine AO (f:=eAl9) hE Kb (by decide) hO 0 rfl ht2 (l:=s1.1) (m:=[(⟨0,s1.2,0,ar .add .i64 s1.2 1,[(⟨0,x4,⟨#[]⟩⟩:A4)]⟩:A7)]) (.refl _) (.lstc (.eq (eAm5 (⟨0,s1.2,0,ar .add .i64 s1.2 1,[(⟨0,x4,⟨#[]⟩⟩:A4)]⟩:A7)) (.agg (.cons (.refl _) (.cons (.refl _) (.cons (.refl _) (.cons (.refl _) (.cons (.lit _ (F9 ((eAm4 (⟨0,x4,⟨#[]⟩⟩:A4)).symm) (E6))) (.refl _)))))))) (.lst0)) h fun l6 t5 H hO ht5 h=>?_;cbv;cases h;exact⟨_,t5,rfl,.e4 .z,rfl,ht5,hO⟩
  cbv;cases h;exact⟨_,_,rfl,⟨t2,ht2,rfl,rfl,hO⟩,.e rfl .z,rfl⟩
 ·exact .v (.slt _ (.lst0)) (.e rfl (.e2 .z))
 ·exact⟨trivial,hO⟩
 clear hx;rintro e l H ⟨t7,ht7,rfl,rfl,hO⟩;cbv;cases h;exact hK hO (.ro _ _)
def cf63 :Cf:=⟨[4],[],[],[],[],[]⟩
theorem c63 (N aL aV r)(h:BB N aL aV=some r):B4 prog 63 [vi aL,sr eAm3 aV] ((C3 r)):=by
 unfold BB at h
 refine I4 cf63 func63 call63 ntmps63 ?_;intro E H0 K hE hK hO;cbv;refine C5 hE hO fun b1 H hO=>?_;cbv;refine A9 hE hO 0 rfl rfl fun H hO=>?_;cbv;refine B2 hE hO 0 rfl ?_;cbv;cases h;exact hK hO (.agg (.cons (.refl _) (.cons (.refl _) (.cons (.refl _) (.cons (.refl _) (.cons (.refl _) (.cons (.refl _) (.cons (.refl _) (.cons (.lit _ (E6)) (.refl _))))))))))
def cf64 :Cf:=⟨[4],[],[],[],[],[]⟩
theorem c64 (N aH bM r)(h:AY N aH bM=some r):B4 prog 64 [vi aH,(I0 bM)] ((C3 r)):=by
 unfold AY at h
 refine I4 cf64 func64 call64 ntmps64 ?_;intro E H0 K hE hK hO;cbv;refine C5 hE hO fun b1 H hO=>?_;cbv;refine A9 hE hO 0 rfl rfl fun H hO=>?_;cbv;refine B2 hE hO 0 rfl ?_;cbv;cases h;exact hK hO (.agg (.cons (.refl _) (.cons (.lit _ (E6)) (.refl _))))
def cf120 :Cf:=⟨[2],[],[],[],[],[]⟩
theorem c120 (N aD r)(h:O3 N aD=some r):B4 prog 120 [.bool aD] ((C6 r)):=by
 unfold O3 at h
 refine I4 cf120 func120 call120 ntmps120 ?_;intro E H0 K hE hK hO;cbv;refine C5 hE hO fun b1 H hO=>?_;cbv;refine A8 hE h (fun _ h=>?_) fun _ h=>?_
 ·cbv;refine A9 hE hO 0 rfl rfl fun H hO=>?_;cbv;refine B2 hE hO 0 rfl ?_;cbv;cases h;exact hK hO (.refl _)
 cbv;refine A9 hE hO 0 rfl rfl fun H hO=>?_;cbv;refine B2 hE hO 0 rfl ?_;cbv;cases h;exact hK hO (.refl _)
def cf65 :Cf:=⟨[0],[],[],[],[],[]⟩
theorem c65 (N r)(h:Fv N=some r):B4 prog 65 [] ((I0 r)):=by
 unfold Fv at h
 refine I4 cf65 func65 call65 ntmps65 ?_;intro E H0 K hE hK hO;cbv;refine C5 hE hO fun b1 H hO=>?_;cbv;refine A5 hE h (c120 N true) (.refl _) fun r2 h=>?_;cbv;refine A9 hE hO 0 rfl rfl fun H hO=>?_;cbv;refine B2 hE hO 0 rfl ?_;cbv;cases h;exact hK hO (.agg (.cons (.refl _) (.cons (.lit _ (E6)) (.refl _))))
def cf66 :Cf:=⟨[4],[],[],[],[],[]⟩
theorem c66 (N aC aD r)(h:BC N aC aD=some r):B4 prog 66 [(I0 aC),(I0 aD)] ((I0 r)):=by
 unfold BC at h
 refine I4 cf66 func66 call66 ntmps66 ?_;intro E H0 K hE hK hO;cbv;refine C5 hE hO fun b1 H hO=>?_;cbv;refine A9 hE hO 0 rfl rfl fun H hO=>?_;cbv;refine B2 hE hO 0 rfl ?_;cbv;cases h;exact hK hO (.agg (.cons (.refl _) (.cons (.lit _ (F9 ((eAn3 aC).symm) (F9 ((eAn3 aD).symm) (E6)))) (.refl _))))
def cf67 :Cf:=⟨[2],[],[],[],[],[]⟩
theorem c67 (N aH r)(h:Z4 N aH=some r):B4 prog 67 [vi aH] ((I0 r)):=by
 unfold Z4 at h
 refine I4 cf67 func67 call67 ntmps67 ?_;intro E H0 K hE hK hO;cbv;refine C5 hE hO fun b1 H hO=>?_;cbv;refine A9 hE hO 0 rfl rfl fun H hO=>?_;cbv;refine B2 hE hO 0 rfl ?_;cbv;cases h;exact hK hO (.agg (.cons (.refl _) (.cons (.lit _ (E6)) (.refl _))))
def cf68 :Cf:=⟨[2],[],[],[],[],[]⟩
theorem c68 (N aX r)(h:AZ N aX=some r):B4 prog 68 [vi aX] ((I0 r)):=by
 unfold AZ at h
 refine I4 cf68 func68 call68 ntmps68 ?_;intro E H0 K hE hK hO;cbv;refine C5 hE hO fun b1 H hO=>?_;cbv;refine A9 hE hO 0 rfl rfl fun H hO=>?_;cbv;refine B2 hE hO 0 rfl ?_;cbv;cases h;exact hK hO (.agg (.cons (.refl _) (.cons (.lit _ (E6)) (.refl _))))
def cf13 :Cf:=⟨[3,5],[(5,24)],[],[],[],[]⟩
theorem c13 (N r) (h:BR N=some r):B4 prog 13 [] (.bool r):=by
 unfold BR at h
 refine I4 cf13 func13 call13 ntmps13 ?_;intro E H0 K hE hK hO;cbv;refine A5 hE h (c62 N ([5,3,8,5])) (.cons (.lit _ (F9 (rfl) (F9 (rfl) (F9 (rfl) (F9 (rfl) (E6)))))) (.refl _)) fun r1 h=>?_;cbv;refine A5 hE h (c65 N) (.refl _) fun r2 h=>?_;cbv;refine A5 hE h (c64 N 0 r2) (.refl _) fun r3 h=>?_;cbv;refine A5 hE h (c67 N 0) (.refl _) fun r4 h=>?_;cbv;refine A5 hE h (c67 N 1) (.refl _) fun r5 h=>?_;cbv;refine A5 hE h (c66 N r4 r5) (.refl _) fun r6 h=>?_;cbv;refine A5 hE h (c64 N 1 r6) (.refl _) fun r7 h=>?_;cbv;refine A5 hE h (c63 N 1 ([r3,r7])) (.cons (.refl _) (.cons (.lit _ (F9 ((eAm2 r3).symm) (F9 ((eAm2 r7).symm) (E6)))) (.refl _))) fun r8 h=>?_;cbv;refine A5 hE h (c65 N) (.refl _) fun r9 h=>?_;cbv;refine A5 hE h (c64 N 1 r9) (.refl _) fun r10 h=>?_;cbv;refine A5 hE h (c65 N) (.refl _) fun r11 h=>?_;cbv;refine A5 hE h (c64 N 2 r11) (.refl _) fun r12 h=>?_;cbv;refine A5 hE h (c63 N 1 ([r10,r12])) (.cons (.refl _) (.cons (.lit _ (F9 ((eAm2 r10).symm) (F9 ((eAm2 r12).symm) (E6)))) (.refl _))) fun r13 h=>?_;cbv;refine A5 hE h (c63 N 5 ([r13])) (.cons (.refl _) (.cons (.lit _ (F9 ((eAm2 r13).symm) (E6))) (.refl _))) fun r14 h=>?_;cbv;refine C5 hE hO fun b15 H hO=>?_;cbv;refine A9 hE hO 0 rfl rfl fun H hO=>?_;cbv;refine A5 hE h (c68 N 6) (.refl _) fun r16 h=>?_;cbv;refine A5 hE h (c67 N 0) (.refl _) fun r17 h=>?_;cbv;refine A5 hE h (c66 N r16 r17) (.refl _) fun r18 h=>?_;cbv;refine A9 hE hO 0 rfl rfl fun H hO=>?_;cbv;refine B2 hE hO 0 rfl ?_;cbv;refine C9 hE (g:=fun r19=>(I0 r19)) h (c67 N 0) (.refl _) fun r19 h=>?_;cbv;refine C9 hE (g:=fun r20=>(I0 r20)) h (c68 N 6) (.refl _) fun r20 h=>?_;cbv;refine C9 hE (g:=fun r21=>(I0 r21)) h (c66 N r19 r20) (.refl _) fun r21 h=>?_;cbv;refine C9 hE (g:=fun r22=>(C3 r22)) h (c64 N 0 r21) (.refl _) fun r22 h=>?_;cbv;refine C9 hE (g:=fun r23=>(C3 r23)) h (c63 N 4 ([r22])) (.cons (.refl _) (.cons (.lit _ (F9 ((eAm2 r22).symm) (E6))) (.refl _))) fun r23 h=>?_;cbv;refine C9 hE (g:=fun r24=>(I0 r24)) h (c68 N 4) (.refl _) fun r24 h=>?_;cbv;refine C9 hE (g:=fun r25=>(I0 r25)) h (c67 N 0) (.refl _) fun r25 h=>?_;cbv;refine C9 hE (g:=fun r26=>(I0 r26)) h (c66 N r24 r25) (.refl _) fun r26 h=>?_;cbv;refine C9 hE (g:=fun r27=>(C3 r27)) h (c64 N 0 r26) (.refl _) fun r27 h=>?_;cbv;refine C9 hE (g:=fun r28=>(I0 r28)) h (c67 N 1) (.refl _) fun r28 h=>?_;cbv;refine C9 hE (g:=fun r29=>(I0 r29)) h (c68 N 6) (.refl _) fun r29 h=>?_;cbv;refine C9 hE (g:=fun r30=>(I0 r30)) h (c66 N r28 r29) (.refl _) fun r30 h=>?_;cbv;refine C9 hE (g:=fun r31=>(C3 r31)) h (c64 N 1 r30) (.refl _) fun r31 h=>?_;cbv;refine C9 hE (g:=fun r32=>(C3 r32)) h (c63 N 3 ([r27,r31])) (.cons (.refl _) (.cons (.lit _ (F9 ((eAm2 r27).symm) (F9 ((eAm2 r31).symm) (E6)))) (.refl _))) fun r32 h=>?_;cbv;refine Aj6 hE (n:=5) rfl ?_;cbv;obtain⟨s34,hx,h⟩:=bind_some h;refine F2 cf13 hE M3 (fun s33=>[(1,.v (sr eAl9 r1)),(2,.v (.eref (D3 r8) 0)),(56,.v (.sl (lst eAm3 ([r8,(⟨6,[r8],0,0,0,1,(⟨0,[],0,0,0,(⟨0,0,⟨#[]⟩⟩:A4)⟩:B0)⟩:A1),{r14 with cN:=r18},r23,r32])) .ro)),fi 57 5,fi 58 s33]) (fun s33 H1=>C1 Eq H0 [cb b15 [vi r14.Op,sr eAm3 r14.cL,vi r14.Typ,vi r14.Var,vi r14.cQ,vi r14.Span,vi r18.Op,sr eAn2 r18.cL,vi r18.Var,vi r18.Field,vi r18.Kind,vi r18.Value.Kind,vi r18.Value.Num,.str r18.Value.Text]] H1) (fun x e l H1=>match(generalizing:=false) x with| .inl y=>e= .exit 0∧l=[(1,.v (sr eAl9 r1)),(2,.v (.eref (D3 r8) 0))]∧C1 Eq H0 [cb b15 [vi r14.Op,sr eAm3 r14.cL,vi r14.Typ,vi r14.Var,vi r14.cQ,vi r14.Span,vi r18.Op,sr eAn2 r18.cL,vi r18.Var,vi r18.Field,vi r18.Kind,vi r18.Value.Kind,vi r18.Value.Num,.str r18.Value.Text]] H1| .inr y=>e= .ret∧l=[(0,.b false)]∧C1 Eq H0 [cb b15 [vi r14.Op,sr eAm3 r14.cL,vi r14.Typ,vi r14.Var,vi r14.cQ,vi r14.Span,vi r18.Op,sr eAn2 r18.cL,vi r18.Var,vi r18.Field,vi r18.Kind,vi r18.Value.Kind,vi r18.Value.Num,.str r18.Value.Text]] H1) (by kernel_rfl) ?_ hx ?_ hO ?_
 ·intro s33 H o hO h;clear hx;cbv;refine A8 hE h (fun _ h=>?_) fun _ h=>?_
  ·cbv;refine B8 hE eAm2 h fun x35 h=>?_;cbv;refine C5 hE hO fun b36 H hO=>?_;cbv;refine A9 hE hO 0 rfl rfl fun H hO=>?_;cbv;refine B2 hE hO 0 rfl ?_;cbv;refine A5 hE h (c39 N x35 r1) (.refl _) fun r37 h=>?_;cbv;refine B2 hE hO 0 rfl ?_;cbv;refine A5 hE h (c14 N x35 r1) (.refl _) fun r38 h=>?_;cbv;refine A8 hE h (fun _ h=>?_) fun _ h=>?_
   ·cbv;cases h;exact⟨_,_,rfl,⟨rfl,rfl,hO.tail⟩,.b rfl (.z),rfl⟩
   cbv;refine Ae0 hE (f:=(V.int .i64)) (F9 (rfl) (F9 (rfl) (F9 (rfl) (F9 (rfl) (F9 (rfl) (E6)))))) (fun _=>rfl) h fun x39 h=>?_;cbv;refine D5 hE ?_;cbv;refine A8 hE h (fun _ h=>?_) fun _ h=>?_
   ·cbv;cases h;exact⟨_,_,rfl,⟨rfl,rfl,hO.tail⟩,.b rfl (.z),rfl⟩
   cbv;cases h;exact⟨_,rfl,.e rfl (.e4 .z),rfl,hO.tail⟩
  cbv;cases h;exact⟨_,_,rfl,⟨rfl,rfl,hO⟩,.e2 .z,rfl⟩
 ·exact .e2 (.v (.sl _ (.lstc (.eq (eAm2 r8) (.refl _)) (.lstc (.eq (eAm2 (⟨6,[r8],0,0,0,1,(⟨0,[],0,0,0,(⟨0,0,⟨#[]⟩⟩:A4)⟩:B0)⟩:A1)) (.agg (.cons (.refl _) (.cons (.lit _ (F9 ((eAm2 r8).symm) (E6))) (.cons (.refl _) (.cons (.refl _) (.cons (.refl _) (.cons (.refl _) (.cons (.refl _) (.cons (.lit _ (E6)) (.refl _))))))))))) (.lstc (.eq (eAm2 ({r14 with cN:=r18})) (.refl _)) (.lstc (.eq (eAm2 r23) (.refl _)) (.lstc (.eq (eAm2 r32) (.refl _)) (.lst0))))))) (.e rfl (.e rfl (.z))))
 clear hx
 rcases s34 with y40|y43
 ·rintro e l H ⟨rfl,rfl,hO⟩;cbv;refine A5 hE h (c40 N r8 r1) (.refl _) fun r41 h=>?_;cbv;refine D5 hE ?_;cbv;refine A8 hE h (fun _ h=>?_) fun _ h=>?_
  ·cbv;refine B8 hE eAn7 h fun x42 h=>?_;cbv;cases h;exact hK hO (.refl _)
  cbv;cases h;exact hK hO (.refl _)
 rintro e l H ⟨rfl,rfl,hO⟩;cbv;cases h;exact hK hO (.refl _)
theorem c80 (N aA r)(h:X3 N aA=some r):B4 prog 80 [(C3 aA)] (.bool r):=by
 unfold X3 at h
 refine I4 cf0 func80 call80 ntmps80 ?_;intro E H0 K hE hK hO;cbv;cases h;exact hK hO (.refl _)
theorem c79 (N aA r)(h:V3 N aA=some r):B4 prog 79 [(C3 aA)] (.bool r):=by
 unfold V3 at h
 refine I4 cf0 func79 call79 ntmps79 ?_;intro E H0 K hE hK hO;cbv;refine A8 hE h (fun _ h=>?_) fun _ h=>?_
 ·cbv;cases h;exact hK hO (.refl _)
 cbv;refine A5 hE h (c80 N aA) (.refl _) fun r1 h=>?_;cbv;cases h;exact hK hO (.refl _)
theorem c81 (N aA r)(h:U1 N aA=some r):B4 prog 81 [(C3 aA)] (.bool r):=by
 unfold U1 at h
 refine I4 cf0 func81 call81 ntmps81 ?_;intro E H0 K hE hK hO;cbv;cases h;exact hK hO (.refl _)
def cf82 :Cf:=⟨[],[(6,10)],[],[],[],[]⟩
theorem c82 (N:Nat):∀n aC aD r,Q1 N n aC aD=some r→B4 prog 82 [(I0 aC),(I0 aD)] (.bool r):=by
 intro n
 induction n with
 |zero=>intro aC aD r h;cases h
 |succ n ih=>
 intro aC aD r h
 unfold Q1 at h
 refine I4 cf82 func82 call82 ntmps82 ?_;intro E H0 K hE hK hO;cbv;refine D5 hE ?_;cbv;refine D5 hE ?_;cbv;refine A8 hE h (fun _ h=>?_) fun _ h=>?_
 ·cbv;cases h;exact hK hO (.refl _)
 cbv;obtain⟨s2,hx,h⟩:=bind_some h;refine F2 cf82 hE M3 (fun s1=>[(2,.v (.eref (Af aC) 0)),(3,.v (.eref (Af aD) 0)),fi 5 s1]) (fun s1 H1=>C1 Eq H0 [] H1) (fun x e l H1=>match(generalizing:=false) x with| .inl y=>e= .exit 0∧l=[]∧C1 Eq H0 [] H1| .inr y=>e= .ret∧l=[(4,.b false)]∧C1 Eq H0 [] H1) (by kernel_rfl) ?_ hx ?_ hO ?_
 ·intro s1 H o hO h;clear hx;cbv;refine D5 hE ?_;cbv;refine A8 hE h (fun _ h=>?_) fun _ h=>?_
  ·cbv;refine B8 hE eAn3 h fun x3 h=>?_;cbv;refine B8 hE eAn3 h fun x4 h=>?_;cbv;refine A5 hE h (ih x3 x4) (.refl _) fun r5 h=>?_;cbv;refine A8 hE h (fun _ h=>?_) fun _ h=>?_
   ·cbv;cases h;exact⟨_,_,rfl,⟨rfl,rfl,hO⟩,.b rfl (.z),rfl⟩
   cbv;cases h;exact⟨_,rfl,.e rfl (.e2 .z),rfl,hO⟩
  cbv;cases h;exact⟨_,_,rfl,⟨rfl,rfl,hO⟩,.z,rfl⟩
 ·exact .e rfl (.e2 .z)
 clear hx
 rcases s2 with y6|y7
 ·rintro e l H ⟨rfl,rfl,hO⟩;cbv;cases h;exact hK hO (.refl _)
 rintro e l H ⟨rfl,rfl,hO⟩;cbv;cases h;exact hK hO (.refl _)
theorem c132 (N aA r)(h:Ah N aA=some r):B4 prog 132 [(C3 aA)] (.bool r):=by
 unfold Ah at h
 refine I4 cf0 func132 call132 ntmps132 ?_;intro E H0 K hE hK hO;cbv;refine A5 hE h (c79 N aA) (.refl _) fun r1 h=>?_;cbv;cases h;exact hK hO (.refl _)
theorem c134 (N aL r)(h:DS N aL=some r):B4 prog 134 [vi aL] (.tup [.bool r.1,.bool r.2]):=by
 unfold DS at h
 refine I4 cf0 func134 call134 ntmps134 ?_;intro E H0 K hE hK hO;cbv;cases h;exact hK hO (.refl _)
theorem c228 (N aH r) (h:W7 N aH=some r):B4 prog 228 [(C6 aH)] (vi r):=by
 unfold W7 at h
 refine I4 cf0 func228 call228 ntmps228 ?_;intro E H0 K hE hK hO;cbv;refine A8 hE h (fun _ h=>?_) fun _ h=>?_
 ·cbv;cases h;exact hK hO (.refl _)
 cbv;refine A8 hE h (fun _ h=>?_) fun _ h=>?_
 ·cbv;refine A8 hE h (fun _ h=>?_) fun _ h=>?_
  ·cbv;cases h;exact hK hO (.refl _)
  cbv;refine A8 hE h (fun _ h=>?_) fun _ h=>?_
  ·cbv;cases h;exact hK hO (.refl _)
  cbv;cases h;exact hK hO (.refl _)
 cbv;refine A8 hE h (fun _ h=>?_) fun _ h=>?_
 ·cbv;cases h;exact hK hO (.refl _)
 cbv;refine A8 hE h (fun _ h=>?_) fun _ h=>?_
 ·cbv;cases h;exact hK hO (.refl _)
 cbv;cases h;exact hK hO (.refl _)
def cf250 :Cf:=⟨[],[],[(4,4)],[],[],[]⟩
theorem c250 (N aL r) (h:CW N aL=some r):B4 prog 250 [vi aL] (vi r):=by
 unfold CW at h
 refine I4 cf250 func250 call250 ntmps250 ?_;intro E H0 K hE hK hO;cbv;obtain⟨s1,hx,h⟩:=bind_some h;refine S3 cf250 hE M3 (fun e l H1=>e= .normal∧l=[fi 3 aL,(4,.v (.bool s1))]∧C1 Eq H0 [] H1) (by kernel_rfl) ?_ ?_
 ·clear h;have h:=hx;clear hx;cbv;refine A8 hE h (fun _ h=>?_) fun _ h=>?_
  ·cbv;cases h;exact⟨_,⟨rfl,rfl,hO⟩,.e2 .z,rfl⟩
  cbv;refine A8 hE h (fun _ h=>?_) fun _ h=>?_
  ·cbv;cases h;exact⟨_,⟨rfl,rfl,hO⟩,.e2 .z,rfl⟩
  cbv;refine A8 hE h (fun _ h=>?_) fun _ h=>?_
  ·cbv;cases h;exact⟨_,⟨rfl,rfl,hO⟩,.e2 .z,rfl⟩
  cbv;refine A8 hE h (fun _ h=>?_) fun _ h=>?_
  ·cbv;cases h;exact⟨_,⟨rfl,rfl,hO⟩,.e2 .z,rfl⟩
  cbv;cases h;exact⟨_,⟨rfl,rfl,hO⟩,.e2 .z,rfl⟩
 clear hx;rintro e l H ⟨rfl,rfl,hO⟩;cbv;refine A8 hE h (fun _ h=>?_) fun _ h=>?_
 ·cbv;cases h;exact hK hO (.refl _)
 cbv;refine A8 hE h (fun _ h=>?_) fun _ h=>?_
 ·cbv;cases h;exact hK hO (.refl _)
 cbv;refine A8 hE h (fun _ h=>?_) fun _ h=>?_
 ·cbv;cases h;exact hK hO (.refl _)
 cbv;refine A8 hE h (fun _ h=>?_) fun _ h=>?_
 ·cbv;cases h;exact hK hO (.refl _)
 cbv;refine A8 hE h (fun _ h=>?_) fun _ h=>?_
 ·cbv;cases h;exact hK hO (.refl _)
 cbv;refine A8 hE h (fun _ h=>?_) fun _ h=>?_
 ·cbv;cases h;exact hK hO (.refl _)
 cbv;refine A8 hE h (fun _ h=>?_) fun _ h=>?_
 ·cbv;cases h;exact hK hO (.refl _)
 cbv;refine A8 hE h (fun _ h=>?_) fun _ h=>?_
 ·cbv;cases h;exact hK hO (.refl _)
 cbv;refine A8 hE h (fun _ h=>?_) fun _ h=>?_
 ·cbv;cases h;exact hK hO (.refl _)
 cbv;cases h;exact hK hO (.refl _)
theorem c251 (N aW aH r)(h:U5 N aW aH=some r):B4 prog 251 [vi aW,(C6 aH)] (.bool r):=by
 unfold U5 at h
 refine I4 cf0 func251 call251 ntmps251 ?_;intro E H0 K hE hK hO;cbv;cases h;exact hK hO (.refl _)
def cf212 :Cf:=⟨[],[],[(69,15)],[],[],[]⟩
theorem c212 (N aB r) (h:Cr N aB=some r):B4 prog 212 [(I0 aB)] (vi r):=by
 unfold Cr at h
 refine I4 cf212 func212 call212 ntmps212 ?_;intro E H0 K hE hK hO;cbv;refine A5 hE h (c250 N aB.Op) (.refl _) fun r1 h=>?_;cbv;refine A8 hE h (fun _ h=>?_) fun _ h=>?_
 ·cbv;cases h;exact hK hO (.refl _)
 cbv;refine D5 hE ?_;cbv;refine A8 hE h (fun _ h=>?_) fun _ h=>?_
 ·cbv;cases h;exact hK hO (.refl _)
 cbv;refine A5 hE h (c134 N aB.Op) (.refl _) fun r2 h=>?_;cbv;refine A8 hE h (fun _ h=>?_) fun _ h=>?_
 ·cbv;cases h;exact hK hO (.refl _)
 cbv;refine A8 hE h (fun _ h=>?_) fun _ h=>?_
 ·cbv;cases h;exact hK hO (.refl _)
 cbv;obtain⟨s3,hx,h⟩:=bind_some h;refine S3 cf212 hE M3 (fun e l H1=>match(generalizing:=false) s3 with| .inl y=>e= .normal∧l=[(1,.v (.eref (Af aB) 0)),(4,.v (.bool r2.1)),(5,.v (.bool r2.2)),(6,.v (.bool (Ar.cmp .eql aB.Op 4))),(7,.v (.bool (Ar.or (Ar.cmp .eql aB.Op 4) (Ar.cmp .eql aB.Op 0))))]∧C1 Eq H0 [] H1| .inr y=>e= .ret∧l=[fi 2 y]∧C1 Eq H0 [] H1) (by kernel_rfl) ?_ ?_
 ·clear h;have h:=hx;clear hx;cbv;refine A8 hE h (fun _ h=>?_) fun _ h=>?_
  ·cbv;refine A5 hE h (c228 N aB.Value) (.refl _) fun r4 h=>?_;cbv;refine A8 hE h (fun _ h=>?_) fun _ h=>?_
   ·cbv;cases h;exact⟨_,⟨rfl,rfl,hO⟩,.e rfl .z,rfl⟩
   cbv;cases h;exact⟨_,⟨rfl,rfl,hO⟩,.e rfl (.e4 .z),rfl⟩
  cbv;cases h;exact⟨_,⟨rfl,rfl,hO⟩,.e rfl (.e4 .z),rfl⟩
 clear hx
 rcases s3 with y5|y7
 ·rintro e l H ⟨rfl,rfl,hO⟩;cbv;refine A8 hE h (fun _ h=>?_) fun _ h=>?_
  ·cbv;refine A5 hE h (c251 N aB.Kind aB.Value) (.refl _) fun r6 h=>?_;cbv;refine A8 hE h (fun _ h=>?_) fun _ h=>?_
   ·cbv;cases h;exact hK hO (.refl _)
   cbv;refine A8 hE h (fun _ h=>?_) fun _ h=>?_
   ·cbv;cases h;exact hK hO (.refl _)
   cbv;cases h;exact hK hO (.refl _)
  cbv;refine A8 hE h (fun _ h=>?_) fun _ h=>?_
  ·cbv;cases h;exact hK hO (.refl _)
  cbv;cases h;exact hK hO (.refl _)
 rintro e l H ⟨rfl,rfl,hO⟩;cbv;cases h;exact hK hO (.refl _)
theorem c171 (N:Nat):∀n aB r,Z2 N n aB=some r→B4 prog 171 [(I0 aB)] (vi r):=by
 intro n
 induction n with
 |zero=>intro aB r h;cases h
 |succ n ih=>
 intro aB r h
 unfold Z2 at h
 refine I4 cf0 func171 call171 ntmps171 ?_;intro E H0 K hE hK hO;cbv;refine A5 hE h (c212 N aB) (.refl _) fun r1 h=>?_;cbv;refine A8 hE h (fun _ h=>?_) fun _ h=>?_
 ·cbv;cases h;exact hK hO (.refl _)
 cbv;obtain⟨s3,hx,h⟩:=bind_some h;refine F2 cf0 hE M3 (fun s2=>[(1,.v (.eref (Af aB) 0)),fi 4 s2]) (fun s2 H1=>C1 Eq H0 [] H1) (fun x e l H1=>match(generalizing:=false) x with| .inl y=>e= .exit 0∧l=[]∧C1 Eq H0 [] H1| .inr y=>e= .ret∧l=[fi 2 y]∧C1 Eq H0 [] H1) (by kernel_rfl) ?_ hx ?_ hO ?_
 ·intro s2 H o hO h;clear hx;cbv;refine D5 hE ?_;cbv;refine A8 hE h (fun _ h=>?_) fun _ h=>?_
  ·cbv;refine B8 hE eAn3 h fun x4 h=>?_;cbv;refine A5 hE h (ih x4) (.refl _) fun r5 h=>?_;cbv;refine A8 hE h (fun _ h=>?_) fun _ h=>?_
   ·cbv;cases h;exact⟨_,_,rfl,⟨rfl,rfl,hO⟩,.e rfl .z,rfl⟩
   cbv;cases h;exact⟨_,rfl,.e2 .z,rfl,hO⟩
  cbv;cases h;exact⟨_,_,rfl,⟨rfl,rfl,hO⟩,.z,rfl⟩
 ·exact .e2 .z
 clear hx
 rcases s3 with y6|y7
 ·rintro e l H ⟨rfl,rfl,hO⟩;cbv;cases h;exact hK hO (.refl _)
 rintro e l H ⟨rfl,rfl,hO⟩;cbv;cases h;exact hK hO (.refl _)
end Go.Ab
namespace Go.Ab
open Go.RowKit Go.Proofs Go.Proofs.Tryz I7
variable [Ar][I7]
set_option maxRecDepth 100000
theorem c136 (N aB r)(h:AL N aB=some r):B4 prog 136 [(I0 aB)] (vi r):=by
 unfold AL at h
 refine I4 cf0 func136 call136 ntmps136 ?_;intro E H0 K hE hK hO;cbv;refine A5 hE h (c105 N N aB 64) (.refl _) fun r1 h=>?_;cbv;refine A8 hE h (fun _ h=>?_) fun _ h=>?_
 ·cbv;cases h;exact hK hO (.refl _)
 cbv;refine A5 hE h (c155 N N aB) (.refl _) fun r2 h=>?_;cbv;refine A8 hE h (fun _ h=>?_) fun _ h=>?_
 ·cbv;cases h;exact hK hO (.refl _)
 cbv;refine A5 hE h (c171 N N aB) (.refl _) fun r3 h=>?_;cbv;cases h;exact hK hO (.refl _)
def cf169 :Cf:=⟨[],[],[(11,6)],[],[],[]⟩
theorem c169 (N aA r) (h:CU N aA=some r):B4 prog 169 [(C3 aA)] (.bool r):=by
 unfold CU at h
 refine I4 cf169 func169 call169 ntmps169 ?_;intro E H0 K hE hK hO;cbv;refine A8 hE h (fun _ h=>?_) fun _ h=>?_
 ·cbv;refine D5 hE ?_;cbv;cases h;exact hK hO (.refl _)
 cbv;obtain⟨s1,hx,h⟩:=bind_some h;refine S3 cf169 hE M3 (fun e l H1=>e= .normal∧l=[(1,.v (.eref (D3 aA) 0)),fi 4 aA.Op,(11,.v (.bool s1))]∧C1 Eq H0 [] H1) (by kernel_rfl) ?_ ?_
 ·clear h;have h:=hx;clear hx;cbv;refine A8 hE h (fun _ h=>?_) fun _ h=>?_
  ·cbv;cases h;exact⟨_,⟨rfl,rfl,hO⟩,.e rfl (.e2 .z),rfl⟩
  cbv;refine A8 hE h (fun _ h=>?_) fun _ h=>?_
  ·cbv;cases h;exact⟨_,⟨rfl,rfl,hO⟩,.e rfl (.e2 .z),rfl⟩
  cbv;cases h;exact⟨_,⟨rfl,rfl,hO⟩,.e rfl (.e2 .z),rfl⟩
 clear hx;rintro e l H ⟨rfl,rfl,hO⟩;cbv;refine A8 hE h (fun _ h=>?_) fun _ h=>?_
 ·cbv;refine D5 hE ?_;cbv;cases h;exact hK hO (.refl _)
 cbv;refine A8 hE h (fun _ h=>?_) fun _ h=>?_
 ·cbv;refine D5 hE ?_;cbv;cases h;exact hK hO (.refl _)
 cbv;refine D5 hE ?_;cbv;cases h;exact hK hO (.refl _)
theorem c170 (N bI aX bN r)(h:Y5 N bI aX bN=some r):B4 prog 170 [.bool bI,vi aX,vi bN] (.bool r):=by
 unfold Y5 at h
 refine I4 cf0 func170 call170 ntmps170 ?_;intro E H0 K hE hK hO;cbv;cases h;exact hK hO (.refl _)
def cf131 :Cf:=⟨[],[(5,11),(6,21)],[(51,10)],[],[],[]⟩
theorem c131 (N aA r) (h:V4 N aA=some r):B4 prog 131 [(C3 aA)] (vi r):=by
 unfold V4 at h
 refine I4 cf131 func131 call131 ntmps131 ?_;intro E H0 K hE hK hO;cbv;refine A8 hE h (fun _ h=>?_) fun _ h=>?_
 ·cbv;cases h;exact hK hO (.refl _)
 cbv;refine A5 hE h (c169 N aA) (.refl _) fun r1 h=>?_;cbv;refine A8 hE h (fun _ h=>?_) fun _ h=>?_
 ·cbv;cases h;exact hK hO (.refl _)
 cbv;refine C9 hE (g:=fun r2=>.bool r2) h (c79 N aA) (.refl _) fun r2 h=>?_;cbv;refine C9 hE (g:=fun r3=>.bool r3) h (c80 N aA) (.refl _) fun r3 h=>?_;cbv;refine A8 hE h (fun _ h=>?_) fun _ h=>?_
 ·cbv;refine C9 hE (g:=fun r4=>.bool r4) h (c132 N aA) (.refl _) fun r4 h=>?_;cbv;refine C9 hE (g:=fun r5=>.bool r5) h (c170 N r2 aA.Typ 15) (.refl _) fun r5 h=>?_;cbv;refine A8 hE h (fun _ h=>?_) fun _ h=>?_
  ·cbv;cases h;exact hK hO (.refl _)
  cbv;refine C9 hE (g:=fun r6=>.bool r6) h (c170 N r2 aA.Var 15) (.refl _) fun r6 h=>?_;cbv;refine A8 hE h (fun _ h=>?_) fun _ h=>?_
  ·cbv;cases h;exact hK hO (.refl _)
  cbv;refine C9 hE (g:=fun r7=>.bool r7) h (c170 N true aA.cQ 63) (.refl _) fun r7 h=>?_;cbv;refine A8 hE h (fun _ h=>?_) fun _ h=>?_
  ·cbv;cases h;exact hK hO (.refl _)
  cbv;refine C9 hE (g:=fun r8=>.bool r8) h (c81 N aA) (.refl _) fun r8 h=>?_;cbv;refine A5 hE h (c170 N r8 aA.Span 1099511627776) (.refl _) fun r9 h=>?_;cbv;refine A8 hE h (fun _ h=>?_) fun _ h=>?_
  ·cbv;cases h;exact hK hO (.refl _)
  cbv;obtain⟨s10,hx,h⟩:=bind_some h;refine S3 cf131 hE M3 (fun e l H1=>match(generalizing:=false) s10 with| .inl y=>e= .normal∧l=[(1,.v (.eref (D3 aA) 0)),(3,.v (.bool r2)),(4,.b true),(5,.v (.bool r4))]∧C1 Eq H0 [] H1| .inr y=>e= .ret∧l=[fi 2 y]∧C1 Eq H0 [] H1) (by kernel_rfl) ?_ ?_
  ·clear h;have h:=hx;clear hx;cbv;refine A8 hE h (fun _ h=>?_) fun _ h=>?_
   ·cbv;refine A5 hE h (c136 N aA.cN) (.refl _) fun r11 h=>?_;cbv;refine A8 hE h (fun _ h=>?_) fun _ h=>?_
    ·cbv;cases h;exact⟨_,⟨rfl,rfl,hO⟩,.e rfl .z,rfl⟩
    cbv;cases h;exact⟨_,⟨rfl,rfl,hO⟩,.e2 (.b rfl (.e rfl (.z))),rfl⟩
   cbv;cases h;exact⟨_,⟨rfl,rfl,hO⟩,.e2 (.b rfl (.e rfl (.z))),rfl⟩
  clear hx
  rcases s10 with y12|y15
  ·rintro e l H ⟨rfl,rfl,hO⟩;cbv;refine A8 hE h (fun _ h=>?_) fun _ h=>?_
   ·cbv;cases h;exact hK hO (.refl _)
   cbv;refine A5 hE h (c81 N aA) (.refl _) fun r13 h=>?_;cbv;refine A8 hE h (fun _ h=>?_) fun _ h=>?_
   ·cbv;cases h;exact hK hO (.refl _)
   cbv;refine A8 hE h (fun _ h=>?_) fun _ h=>?_
   ·cbv;refine A5 hE h (c82 N N aA.cN (⟨0,[],0,0,0,(⟨0,0,⟨#[]⟩⟩:A4)⟩:B0)) (.cons (.refl _) (.cons (.agg (.cons (.refl _) (.cons (.lit _ (E6)) (.refl _)))) (.refl _))) fun r14 h=>?_;cbv;refine A8 hE h (fun _ h=>?_) fun _ h=>?_
    ·cbv;cases h;exact hK hO (.refl _)
    cbv;cases h;exact hK hO (.refl _)
   cbv;cases h;exact hK hO (.refl _)
  rintro e l H ⟨rfl,rfl,hO⟩;cbv;cases h;exact hK hO (.refl _)
 cbv;refine C9 hE (g:=fun r16=>.bool r16) h (c81 N aA) (.refl _) fun r16 h=>?_;cbv;refine C9 hE (g:=fun r17=>.bool r17) h (c132 N aA) (.refl _) fun r17 h=>?_;cbv;refine C9 hE (g:=fun r18=>.bool r18) h (c170 N r2 aA.Typ 15) (.refl _) fun r18 h=>?_;cbv;refine A8 hE h (fun _ h=>?_) fun _ h=>?_
 ·cbv;cases h;exact hK hO (.refl _)
 cbv;refine C9 hE (g:=fun r19=>.bool r19) h (c170 N r2 aA.Var 15) (.refl _) fun r19 h=>?_;cbv;refine A8 hE h (fun _ h=>?_) fun _ h=>?_
 ·cbv;cases h;exact hK hO (.refl _)
 cbv;refine C9 hE (g:=fun r20=>.bool r20) h (c170 N r16 aA.cQ 63) (.refl _) fun r20 h=>?_;cbv;refine A8 hE h (fun _ h=>?_) fun _ h=>?_
 ·cbv;cases h;exact hK hO (.refl _)
 cbv;refine C9 hE (g:=fun r21=>.bool r21) h (c81 N aA) (.refl _) fun r21 h=>?_;cbv;refine A5 hE h (c170 N r21 aA.Span 1099511627776) (.refl _) fun r22 h=>?_;cbv;refine A8 hE h (fun _ h=>?_) fun _ h=>?_
 ·cbv;cases h;exact hK hO (.refl _)
 cbv;obtain⟨s23,hx,h⟩:=bind_some h;refine S3 cf131 hE M3 (fun e l H1=>match(generalizing:=false) s23 with| .inl y=>e= .normal∧l=[(1,.v (.eref (D3 aA) 0)),(3,.v (.bool r2)),(4,.v (.bool r16)),(5,.v (.bool r17))]∧C1 Eq H0 [] H1| .inr y=>e= .ret∧l=[fi 2 y]∧C1 Eq H0 [] H1) (by kernel_rfl) ?_ ?_
 ·clear h;have h:=hx;clear hx;cbv;refine A8 hE h (fun _ h=>?_) fun _ h=>?_
  ·cbv;refine A5 hE h (c136 N aA.cN) (.refl _) fun r24 h=>?_;cbv;refine A8 hE h (fun _ h=>?_) fun _ h=>?_
   ·cbv;cases h;exact⟨_,⟨rfl,rfl,hO⟩,.e rfl .z,rfl⟩
   cbv;cases h;exact⟨_,⟨rfl,rfl,hO⟩,.e4 .z,rfl⟩
  cbv;cases h;exact⟨_,⟨rfl,rfl,hO⟩,.e4 .z,rfl⟩
 clear hx
 rcases s23 with y25|y28
 ·rintro e l H ⟨rfl,rfl,hO⟩;cbv;refine A8 hE h (fun _ h=>?_) fun _ h=>?_
  ·cbv;cases h;exact hK hO (.refl _)
  cbv;refine A5 hE h (c81 N aA) (.refl _) fun r26 h=>?_;cbv;refine A8 hE h (fun _ h=>?_) fun _ h=>?_
  ·cbv;cases h;exact hK hO (.refl _)
  cbv;refine A8 hE h (fun _ h=>?_) fun _ h=>?_
  ·cbv;refine A5 hE h (c82 N N aA.cN (⟨0,[],0,0,0,(⟨0,0,⟨#[]⟩⟩:A4)⟩:B0)) (.cons (.refl _) (.cons (.agg (.cons (.refl _) (.cons (.lit _ (E6)) (.refl _)))) (.refl _))) fun r27 h=>?_;cbv;refine A8 hE h (fun _ h=>?_) fun _ h=>?_
   ·cbv;cases h;exact hK hO (.refl _)
   cbv;cases h;exact hK hO (.refl _)
  cbv;cases h;exact hK hO (.refl _)
 rintro e l H ⟨rfl,rfl,hO⟩;cbv;cases h;exact hK hO (.refl _)
theorem c73 (N aA r) (h:Ai N aA=some r):B4 prog 73 [(C3 aA)] (vi r):=by
 unfold Ai at h
 refine I4 cf0 func73 call73 ntmps73 ?_;intro E H0 K hE hK hO;cbv;refine A5 hE h (c104 N N aA 64) (.refl _) fun r1 h=>?_;cbv;refine A8 hE h (fun _ h=>?_) fun _ h=>?_
 ·cbv;cases h;exact hK hO (.refl _)
 cbv;refine A5 hE h (c124 N N aA) (.refl _) fun r2 h=>?_;cbv;refine A8 hE h (fun _ h=>?_) fun _ h=>?_
 ·cbv;cases h;exact hK hO (.refl _)
 cbv;refine A5 hE h (c75 N N aA) (.refl _) fun r3 h=>?_;cbv;obtain⟨s5,hx,h⟩:=bind_some h;refine F2 cf0 hE M3 (fun s4=>[(3,.v (sr eAm3 r3)),fi 4 s4]) (fun s4 H1=>C1 Eq H0 [] H1) (fun x e l H1=>match(generalizing:=false) x with| .inl y=>e= .exit 0∧l=[]∧C1 Eq H0 [] H1| .inr y=>e= .ret∧l=[fi 2 y]∧C1 Eq H0 [] H1) (by kernel_rfl) ?_ hx ?_ hO ?_
 ·intro s4 H o hO h;clear hx;cbv;refine D5 hE ?_;cbv;refine A8 hE h (fun _ h=>?_) fun _ h=>?_
  ·cbv;refine B8 hE eAm2 h fun x6 h=>?_;cbv;refine A5 hE h (c131 N x6) (.refl _) fun r7 h=>?_;cbv;refine A8 hE h (fun _ h=>?_) fun _ h=>?_
   ·cbv;cases h;exact⟨_,_,rfl,⟨rfl,rfl,hO⟩,.e rfl .z,rfl⟩
   cbv;cases h;exact⟨_,rfl,.e2 .z,rfl,hO⟩
  cbv;cases h;exact⟨_,_,rfl,⟨rfl,rfl,hO⟩,.z,rfl⟩
 ·exact .e2 .z
 clear hx
 rcases s5 with y8|y9
 ·rintro e l H ⟨rfl,rfl,hO⟩;cbv;cases h;exact hK hO (.refl _)
 rintro e l H ⟨rfl,rfl,hO⟩;cbv;cases h;exact hK hO (.refl _)
theorem c74 (N aF r) (h:BW N aF=some r):B4 prog 74 [sr eAm3 aF] (.bool r):=by
 unfold BW at h
 refine I4 cf0 func74 call74 ntmps74 ?_;intro E H0 K hE hK hO;cbv;obtain⟨s2,hx,h⟩:=bind_some h;refine F2 cf0 hE M3 (fun s1=>[(0,.v (sr eAm3 aF)),fi 3 s1]) (fun s1 H1=>C1 Eq H0 [] H1) (fun x e l H1=>match(generalizing:=false) x with| .inl y=>e= .exit 0∧l=[]∧C1 Eq H0 [] H1| .inr y=>e= .ret∧l=[(2,.b false)]∧C1 Eq H0 [] H1) (by kernel_rfl) ?_ hx ?_ hO ?_
 ·intro s1 H o hO h;clear hx;cbv;refine D5 hE ?_;cbv;refine A8 hE h (fun _ h=>?_) fun _ h=>?_
  ·cbv;refine B8 hE eAm2 h fun x3 h=>?_;cbv;refine A8 hE h (fun _ h=>?_) fun _ h=>?_
   ·cbv;cases h;exact⟨_,_,rfl,⟨rfl,rfl,hO⟩,.b rfl (.z),rfl⟩
   cbv;cases h;exact⟨_,rfl,.e2 .z,rfl,hO⟩
  cbv;cases h;exact⟨_,_,rfl,⟨rfl,rfl,hO⟩,.z,rfl⟩
 ·exact .e2 .z
 clear hx
 rcases s2 with y4|y5
 ·rintro e l H ⟨rfl,rfl,hO⟩;cbv;cases h;exact hK hO (.refl _)
 rintro e l H ⟨rfl,rfl,hO⟩;cbv;cases h;exact hK hO (.refl _)
def cf20 :Cf:=⟨[],[],[(28,13)],[],[],[]⟩
theorem c20 (N aA r) (h:CV N aA=some r):B4 prog 20 [(C3 aA)] (vi r):=by
 unfold CV at h
 refine I4 cf20 func20 call20 ntmps20 ?_;intro E H0 K hE hK hO;cbv;refine A5 hE h (c73 N aA) (.refl _) fun r1 h=>?_;cbv;refine A8 hE h (fun _ h=>?_) fun _ h=>?_
 ·cbv;cases h;exact hK hO (.refl _)
 cbv;refine A5 hE h (c75 N N aA) (.refl _) fun r2 h=>?_;cbv;refine A5 hE h (c74 N r2) (.refl _) fun r3 h=>?_;cbv;refine A8 hE h (fun _ h=>?_) fun _ h=>?_
 ·cbv;cases h;exact hK hO (.refl _)
 cbv;obtain⟨s5,hx,h⟩:=bind_some h;refine F2 cf20 hE M3 (fun s4=>[(4,.v (sr eAm3 r2)),fi 5 s4.1,fi 6 s4.2.1,fi 7 s4.2.2]) (fun s4 H1=>C1 Eq H0 [] H1) (fun x e l H1=>match(generalizing:=false) x with| .inl y=>e= .exit 0∧l=[]∧C1 Eq H0 [] H1| .inr y=>e= .ret∧l=[fi 2 14]∧C1 Eq H0 [] H1) (by kernel_rfl) ?_ hx ?_ hO ?_
 ·intro s4 H o hO h;clear hx;cbv;refine D5 hE ?_;cbv;refine A8 hE h (fun _ h=>?_) fun _ h=>?_
  ·cbv;refine B8 hE eAm2 h fun x6 h=>?_;cbv;refine A5 hE h (c79 N x6) (.refl _) fun r7 h=>?_;cbv;obtain⟨s8,hx,h⟩:=bind_some h;refine S3 cf20 hE M3 (fun e l H1=>match(generalizing:=false) s8 with| .inl y=>e= .normal∧l=[(4,.v (sr eAm3 r2)),fi 5 y,fi 6 s4.2.1,fi 7 s4.2.2]∧C1 Eq H0 [] H1| .inr y=>e= .ret∧l=[fi 2 14]∧C1 Eq H0 [] H1) (by kernel_rfl) ?_ ?_
   ·clear h;have h:=hx;clear hx;cbv;refine A8 hE h (fun _ h=>?_) fun _ h=>?_
    ·cbv;refine B8 hE eAm2 h fun x9 h=>?_;cbv;refine A8 hE h (fun _ h=>?_) fun _ h=>?_
     ·cbv;cases h;exact⟨_,⟨rfl,rfl,hO⟩,.e rfl .z,rfl⟩
     cbv;cases h;exact⟨_,⟨rfl,rfl,hO⟩,.e4 .z,rfl⟩
    cbv;cases h;exact⟨_,⟨rfl,rfl,hO⟩,.e4 .z,rfl⟩
   clear hx
   rcases s8 with y10|y17
   ·rintro e l H ⟨rfl,rfl,hO⟩;cbv;refine B8 hE eAm2 h fun x11 h=>?_;cbv;refine A5 hE h (c80 N x11) (.refl _) fun r12 h=>?_;cbv;refine A8 hE h (fun _ h=>?_) fun _ h=>?_
    ·cbv;refine B8 hE eAm2 h fun x13 h=>?_;cbv;refine A8 hE h (fun _ h=>?_) fun _ h=>?_
     ·cbv;cases h;exact⟨_,_,rfl,⟨rfl,rfl,hO⟩,.e rfl .z,rfl⟩
     cbv;cases h;exact⟨_,rfl,.e4 .z,rfl,hO⟩
    cbv;refine B8 hE eAm2 h fun x14 h=>?_;cbv;refine A5 hE h (c81 N x14) (.refl _) fun r15 h=>?_;cbv;refine A8 hE h (fun _ h=>?_) fun _ h=>?_
    ·cbv;refine B8 hE eAm2 h fun x16 h=>?_;cbv;refine A8 hE h (fun _ h=>?_) fun _ h=>?_
     ·cbv;cases h;exact⟨_,_,rfl,⟨rfl,rfl,hO⟩,.e rfl .z,rfl⟩
     cbv;cases h;exact⟨_,rfl,.e4 .z,rfl,hO⟩
    cbv;cases h;exact⟨_,rfl,.e4 .z,rfl,hO⟩
   rintro e l H ⟨rfl,rfl,hO⟩;cbv;cases h;exact⟨_,_,rfl,⟨rfl,rfl,hO⟩,.e rfl .z,rfl⟩
  cbv;cases h;exact⟨_,_,rfl,⟨rfl,rfl,hO⟩,.z,rfl⟩
 ·exact .e4 .z
 clear hx
 rcases s5 with y18|y19
 ·rintro e l H ⟨rfl,rfl,hO⟩;cbv;cases h;exact hK hO (.refl _)
 rintro e l H ⟨rfl,rfl,hO⟩;cbv;cases h;exact hK hO (.refl _)
def cf27 :Cf:=⟨[2],[],[],[],[],[]⟩
theorem c27 (N aB r)(h:Ct N aB=some r):B4 prog 27 [(V7 aB)] ((HX r)):=by
 unfold Ct at h
 refine I4 cf27 func27 call27 ntmps27 ?_;intro E H0 K hE hK hO;cbv;refine C5 hE hO fun b1 H hO=>?_;cbv;refine A9 hE hO 0 rfl rfl fun H hO=>?_;cbv;refine B2 hE hO 0 rfl ?_;cbv;cases h;exact hK hO (.refl _)
theorem c38 (N aC aD r) (h:BN N aC aD=some r):B4 prog 38 [(HX aC),(HX aD)] (vi r):=by
 unfold BN at h
 refine I4 cf0 func38 call38 ntmps38 ?_;intro E H0 K hE hK hO;cbv;refine A8 hE h (fun _ h=>?_) fun _ h=>?_
 ·cbv;refine A8 hE h (fun _ h=>?_) fun _ h=>?_
  ·cbv;cases h;exact hK hO (.refl _)
  cbv;cases h;exact hK hO (.refl _)
 cbv;refine A8 hE h (fun _ h=>?_) fun _ h=>?_
 ·cbv;refine A8 hE h (fun _ h=>?_) fun _ h=>?_
  ·cbv;cases h;exact hK hO (.refl _)
  cbv;cases h;exact hK hO (.refl _)
 cbv;refine A8 hE h (fun _ h=>?_) fun _ h=>?_
 ·cbv;cases h;exact hK hO (.refl _)
 cbv;refine A8 hE h (fun _ h=>?_) fun _ h=>?_
 ·cbv;cases h;exact hK hO (.refl _)
 cbv;cases h;exact hK hO (.refl _)
theorem c87 (N aB r)(h:Ds N aB=some r):B4 prog 87 [(V7 aB)] (.bool r):=by
 unfold Ds at h
 refine I4 cf0 func87 call87 ntmps87 ?_;intro E H0 K hE hK hO;cbv;cases h;exact hK hO (.refl _)
theorem c88 (N aC aD r)(h:Cs N aC aD=some r):B4 prog 88 [(V7 aC),(V7 aD)] (.bool r):=by
 unfold Cs at h
 refine I4 cf0 func88 call88 ntmps88 ?_;intro E H0 K hE hK hO;cbv;cases h;exact hK hO (.refl _)
def cf31 :Cf:=⟨[],[(8,13),(13,8)],[],[],[],[]⟩
theorem c31 (N aF r) (h:CX N aF=some r):B4 prog 31 [sr eAl9 aF] (vi r):=by
 unfold CX at h
 refine I4 cf31 func31 call31 ntmps31 ?_;intro E H0 K hE hK hO;cbv;refine D5 hE ?_;cbv;refine A8 hE h (fun _ h=>?_) fun _ h=>?_
 ·cbv;cases h;exact hK hO (.refl _)
 cbv;obtain⟨s2,hx,h⟩:=bind_some h;refine F2 cf31 hE M3 (fun s1=>[(0,.v (sr eAl9 aF)),fi 3 s1]) (fun s1 H1=>C1 Eq H0 [] H1) (fun x e l H1=>match(generalizing:=false) x with| .inl y=>e= .exit 0∧l=[]∧C1 Eq H0 [] H1| .inr y=>e= .ret∧l=[fi 2 y]∧C1 Eq H0 [] H1) (by kernel_rfl) ?_ hx ?_ hO ?_
 ·intro s1 H o hO h;clear hx;cbv;refine D5 hE ?_;cbv;refine A8 hE h (fun _ h=>?_) fun _ h=>?_
  ·cbv;refine B8 hE eAm5 h fun x3 h=>?_;cbv;refine A5 hE h (c87 N x3) (.refl _) fun r4 h=>?_;cbv;refine A8 hE h (fun _ h=>?_) fun _ h=>?_
   ·cbv;cases h;exact⟨_,_,rfl,⟨rfl,rfl,hO⟩,.e rfl .z,rfl⟩
   cbv;refine A8 hE h (fun _ h=>?_) fun _ h=>?_
   ·cbv;refine B8 hE eAm5 h fun x5 h=>?_;cbv;refine C9 hE (g:=fun r6=>(HX r6)) h (c27 N x5) (.refl _) fun r6 h=>?_;cbv;refine B8 hE eAm5 h fun x7 h=>?_;cbv;refine A5 hE h (c27 N x7) (.refl _) fun r8 h=>?_;cbv;refine A5 hE h (c38 N r6 r8) (.refl _) fun r9 h=>?_;cbv;refine A8 hE h (fun _ h=>?_) fun _ h=>?_
    ·cbv;cases h;exact⟨_,_,rfl,⟨rfl,rfl,hO⟩,.e rfl .z,rfl⟩
    cbv;obtain⟨s11,hx,h⟩:=bind_some h;refine F2 cf31 hE M3 (fun s10=>[(0,.v (sr eAl9 aF)),fi 3 s1,fi 4 s10]) (fun s10 H1=>C1 Eq H0 [] H1) (fun x e l H1=>match(generalizing:=false) x with| .inl y=>e= .exit 2∧l=[(0,.v (sr eAl9 aF)),fi 3 s1]∧C1 Eq H0 [] H1| .inr y=>e= .ret∧l=[fi 2 7]∧C1 Eq H0 [] H1) (by kernel_rfl) ?_ hx ?_ hO ?_
    ·intro s10 H o hO h;clear hx;cbv;refine A8 hE h (fun _ h=>?_) fun _ h=>?_
     ·cbv;refine B8 hE eAm5 h fun x12 h=>?_;cbv;refine B8 hE eAm5 h fun x13 h=>?_;cbv;refine A5 hE h (c88 N x12 x13) (.refl _) fun r14 h=>?_;cbv;refine A8 hE h (fun _ h=>?_) fun _ h=>?_
      ·cbv;cases h;exact⟨_,_,rfl,⟨rfl,rfl,hO⟩,.e rfl .z,rfl⟩
      cbv;cases h;exact⟨_,rfl,.e rfl (.e2 .z),rfl,hO⟩
     cbv;cases h;exact⟨_,_,rfl,⟨rfl,rfl,hO⟩,.e2 .z,rfl⟩
    ·exact .e rfl (.e2 .z)
    clear hx
    rcases s11 with y15|y16
    ·rintro e l H ⟨rfl,rfl,hO⟩;cbv;cases h;exact⟨_,rfl,.e2 .z,rfl,hO⟩
    rintro e l H ⟨rfl,rfl,hO⟩;cbv;cases h;exact⟨_,_,rfl,⟨rfl,rfl,hO⟩,.e rfl .z,rfl⟩
   cbv;obtain⟨s18,hx,h⟩:=bind_some h;refine F2 cf31 hE M3 (fun s17=>[(0,.v (sr eAl9 aF)),fi 3 s1,fi 4 s17]) (fun s17 H1=>C1 Eq H0 [] H1) (fun x e l H1=>match(generalizing:=false) x with| .inl y=>e= .exit 2∧l=[(0,.v (sr eAl9 aF)),fi 3 s1]∧C1 Eq H0 [] H1| .inr y=>e= .ret∧l=[fi 2 7]∧C1 Eq H0 [] H1) (by kernel_rfl) ?_ hx ?_ hO ?_
   ·intro s17 H o hO h;clear hx;cbv;refine A8 hE h (fun _ h=>?_) fun _ h=>?_
    ·cbv;refine B8 hE eAm5 h fun x19 h=>?_;cbv;refine B8 hE eAm5 h fun x20 h=>?_;cbv;refine A5 hE h (c88 N x19 x20) (.refl _) fun r21 h=>?_;cbv;refine A8 hE h (fun _ h=>?_) fun _ h=>?_
     ·cbv;cases h;exact⟨_,_,rfl,⟨rfl,rfl,hO⟩,.e rfl .z,rfl⟩
     cbv;cases h;exact⟨_,rfl,.e rfl (.e2 .z),rfl,hO⟩
    cbv;cases h;exact⟨_,_,rfl,⟨rfl,rfl,hO⟩,.e2 .z,rfl⟩
   ·exact .e rfl (.e2 .z)
   clear hx
   rcases s18 with y22|y23
   ·rintro e l H ⟨rfl,rfl,hO⟩;cbv;cases h;exact⟨_,rfl,.e2 .z,rfl,hO⟩
   rintro e l H ⟨rfl,rfl,hO⟩;cbv;cases h;exact⟨_,_,rfl,⟨rfl,rfl,hO⟩,.e rfl .z,rfl⟩
  cbv;cases h;exact⟨_,_,rfl,⟨rfl,rfl,hO⟩,.z,rfl⟩
 ·exact .e2 .z
 clear hx
 rcases s2 with y24|y25
 ·rintro e l H ⟨rfl,rfl,hO⟩;cbv;cases h;exact hK hO (.refl _)
 rintro e l H ⟨rfl,rfl,hO⟩;cbv;cases h;exact hK hO (.refl _)
theorem c70 (N aA aF r)(h:CS N aA aF=some r):B4 prog 70 [(C3 aA),sr eAl9 aF] (vi r):=by
 unfold CS at h
 refine I4 cf0 func70 call70 ntmps70 ?_;intro E H0 K hE hK hO;cbv;refine A5 hE h (c20 N aA) (.refl _) fun r1 h=>?_;cbv;refine A8 hE h (fun _ h=>?_) fun _ h=>?_
 ·cbv;cases h;exact hK hO (.refl _)
 cbv;refine A5 hE h (c31 N aF) (.refl _) fun r2 h=>?_;cbv;cases h;exact hK hO (.refl _)
theorem c89 (N aC aD r)(h:CT N aC aD=some r):B4 prog 89 [(DA aC),(DA aD)] (vi r):=by
 unfold CT at h
 refine I4 cf0 func89 call89 ntmps89 ?_;intro E H0 K hE hK hO;cbv;refine A5 hE h (c38 N aC.Ref aD.Ref) (.refl _) fun r1 h=>?_;cbv;refine A8 hE h (fun _ h=>?_) fun _ h=>?_
 ·cbv;cases h;exact hK hO (.refl _)
 cbv;refine A8 hE h (fun _ h=>?_) fun _ h=>?_
 ·cbv;cases h;exact hK hO (.refl _)
 cbv;refine A8 hE h (fun _ h=>?_) fun _ h=>?_
 ·cbv;cases h;exact hK hO (.refl _)
 cbv;cases h;exact hK hO (.refl _)
def cf33 :Cf:=⟨[],[(4,10)],[],[],[],[]⟩
theorem c33 (N aC aD r) (h:M6 N aC aD=some r):B4 prog 33 [(Ez aC),(Ez aD)] (vi r):=by
 unfold M6 at h
 refine I4 cf33 func33 call33 ntmps33 ?_;intro E H0 K hE hK hO;cbv;obtain⟨s2,hx,h⟩:=bind_some h;refine F2 cf33 hE M3 (fun s1=>[(2,.v (.eref (EV aC) 0)),(3,.v (.eref (EV aD) 0)),fi 5 s1]) (fun s1 H1=>C1 Eq H0 [] H1) (fun x e l H1=>match(generalizing:=false) x with| .inl y=>e= .exit 0∧l=[(2,.v (.eref (EV aC) 0)),(3,.v (.eref (EV aD) 0))]∧C1 Eq H0 [] H1| .inr y=>e= .ret∧l=[fi 4 y]∧C1 Eq H0 [] H1) (by kernel_rfl) ?_ hx ?_ hO ?_
 ·intro s1 H o hO h;clear hx;cbv;refine D5 hE ?_;cbv;refine D5 hE ?_;cbv;refine A8 hE h (fun _ h=>?_) fun _ h=>?_
  ·cbv;refine B8 hE eAn7 h fun x3 h=>?_;cbv;refine B8 hE eAn7 h fun x4 h=>?_;cbv;refine A5 hE h (c89 N x3 x4) (.refl _) fun r5 h=>?_;cbv;refine A8 hE h (fun _ h=>?_) fun _ h=>?_
   ·cbv;cases h;exact⟨_,_,rfl,⟨rfl,rfl,hO⟩,.e rfl .z,rfl⟩
   cbv;cases h;exact⟨_,rfl,.e rfl (.e2 .z),rfl,hO⟩
  cbv;cases h;exact⟨_,_,rfl,⟨rfl,rfl,hO⟩,.e2 .z,rfl⟩
 ·exact .e rfl (.e2 .z)
 clear hx
 rcases s2 with y6|y7
 ·rintro e l H ⟨rfl,rfl,hO⟩;cbv;refine D5 hE ?_;cbv;refine D5 hE ?_;cbv;refine A8 hE h (fun _ h=>?_) fun _ h=>?_
  ·cbv;cases h;exact hK hO (.refl _)
  cbv;refine D5 hE ?_;cbv;refine D5 hE ?_;cbv;refine A8 hE h (fun _ h=>?_) fun _ h=>?_
  ·cbv;cases h;exact hK hO (.refl _)
  cbv;cases h;exact hK hO (.refl _)
 rintro e l H ⟨rfl,rfl,hO⟩;cbv;cases h;exact hK hO (.refl _)
theorem c225 (N aR aH r)(h:Z8 N aR aH=some r):B4 prog 225 [(DP aR),vi aH] (sr eAl9 r):=by
 unfold Z8 at h
 refine I4 cf0 func225 call225 ntmps225 ?_;intro E H0 K hE hK hO;cbv;refine D5 hE ?_;cbv;refine A8 hE h (fun _ h=>?_) fun _ h=>?_
 ·cbv;cases h;exact hK hO (.lit _ (E6))
 cbv;refine B8 hE eAo2 h fun x1 h=>?_;cbv;cases h;exact hK hO (.refl _)
theorem c262 (N aW r)(h:DW N aW=some r):B4 prog 262 [vi aW] (.bool r):=by
 unfold DW at h
 refine I4 cf0 func262 call262 ntmps262 ?_;intro E H0 K hE hK hO;cbv;cases h;exact hK hO (.refl _)
theorem c281 (N aC r) (h:BL N aC=some r):B4 prog 281 [(E8 aC)] (vi r):=by
 unfold BL at h
 refine I4 cf0 func281 call281 ntmps281 ?_;intro E H0 K hE hK hO;cbv;refine A5 hE h (c262 N aC.Kind) (.refl _) fun r1 h=>?_;cbv;refine A8 hE h (fun _ h=>?_) fun _ h=>?_
 ·cbv;cases h;exact hK hO (.refl _)
 cbv;refine A8 hE h (fun _ h=>?_) fun _ h=>?_
 ·cbv;cases h;exact hK hO (.refl _)
 cbv;refine A8 hE h (fun _ h=>?_) fun _ h=>?_
 ·cbv;refine A8 hE h (fun _ h=>?_) fun _ h=>?_
  ·cbv;cases h;exact hK hO (.refl _)
  cbv;cases h;exact hK hO (.refl _)
 cbv;refine A8 hE h (fun _ h=>?_) fun _ h=>?_
 ·cbv;refine A8 hE h (fun _ h=>?_) fun _ h=>?_
  ·cbv;cases h;exact hK hO (.refl _)
  cbv;cases h;exact hK hO (.refl _)
 cbv;refine A5 hE h (c228 N aC.Value) (.refl _) fun r2 h=>?_;cbv;refine A8 hE h (fun _ h=>?_) fun _ h=>?_
 ·cbv;cases h;exact hK hO (.refl _)
 cbv;refine A5 hE h (c251 N aC.Kind aC.Value) (.refl _) fun r3 h=>?_;cbv;refine A8 hE h (fun _ h=>?_) fun _ h=>?_
 ·cbv;cases h;exact hK hO (.refl _)
 cbv;cases h;exact hK hO (.refl _)
theorem c282 (N aW aH r)(h:Z3 N aW aH=some r):B4 prog 282 [vi aW,(C6 aH)] (vi r):=by
 unfold Z3 at h
 refine I4 cf0 func282 call282 ntmps282 ?_;intro E H0 K hE hK hO;cbv;refine A5 hE h (c228 N aH) (.refl _) fun r1 h=>?_;cbv;refine A8 hE h (fun _ h=>?_) fun _ h=>?_
 ·cbv;cases h;exact hK hO (.refl _)
 cbv;refine A5 hE h (c251 N aW aH) (.refl _) fun r2 h=>?_;cbv;refine A8 hE h (fun _ h=>?_) fun _ h=>?_
 ·cbv;cases h;exact hK hO (.refl _)
 cbv;cases h;exact hK hO (.refl _)
def cf283 :Cf:=⟨[6],[],[],[],[],[]⟩
theorem c283 (N aW aH bT r)(h:Bo N aW aH bT=some r):B4 prog 283 [vi aW,(C6 aH),(C6 bT)] ((C6 r)):=by
 unfold Bo at h
 refine I4 cf283 func283 call283 ntmps283 ?_;intro E H0 K hE hK hO;cbv;refine C5 hE hO fun b1 H hO=>?_;cbv;refine A8 hE h (fun _ h=>?_) fun _ h=>?_
 ·cbv;refine A9 hE hO 0 rfl rfl fun H hO=>?_;cbv;refine B2 hE hO 0 rfl ?_;cbv;cases h;exact hK hO (.refl _)
 cbv;refine A8 hE h (fun _ h=>?_) fun _ h=>?_
 ·cbv;refine A9 hE hO 0 rfl rfl fun H hO=>?_;cbv;refine B2 hE hO 0 rfl ?_;cbv;cases h;exact hK hO (.refl _)
 cbv;refine A8 hE h (fun _ h=>?_) fun _ h=>?_
 ·cbv;refine A9 hE hO 0 rfl rfl fun H hO=>?_;cbv;refine B2 hE hO 0 rfl ?_;cbv;cases h;exact hK hO (.refl _)
 cbv;refine A8 hE h (fun _ h=>?_) fun _ h=>?_
 ·cbv;refine A9 hE hO 0 rfl rfl fun H hO=>?_;cbv;refine B2 hE hO 0 rfl ?_;cbv;cases h;exact hK hO (.refl _)
 cbv;refine A8 hE h (fun _ h=>?_) fun _ h=>?_
 ·cbv;refine A9 hE hO 0 rfl rfl fun H hO=>?_;cbv;refine B2 hE hO 0 rfl ?_;cbv;cases h;exact hK hO (.refl _)
 cbv;refine A9 hE hO 0 rfl rfl fun H hO=>?_;cbv;refine B2 hE hO 0 rfl ?_;cbv;cases h;exact hK hO (.refl _)
def cf263 :Cf:=⟨[4,8],[],[],[],[],[]⟩
theorem c263 (N aC aH r)(h:BM N aC aH=some r):B4 prog 263 [(E8 aC),(C6 aH)] (.tup [(E8 r.1),vi r.2]):=by
 unfold BM at h
 refine I4 cf263 func263 call263 ntmps263 ?_;intro E H0 K hE hK hO;cbv;refine C5 hE hO fun b1 H hO=>?_;cbv;refine A5 hE h (c281 N aC) (.refl _) fun r2 h=>?_;cbv;refine A8 hE h (fun _ h=>?_) fun _ h=>?_
 ·cbv;refine A9 hE hO 0 rfl rfl fun H hO=>?_;cbv;refine B2 hE hO 0 rfl ?_;cbv;cases h;exact hK hO (.refl _)
 cbv;refine A5 hE h (c282 N aC.Kind aH) (.refl _) fun r3 h=>?_;cbv;refine A8 hE h (fun _ h=>?_) fun _ h=>?_
 ·cbv;refine A9 hE hO 0 rfl rfl fun H hO=>?_;cbv;refine B2 hE hO 0 rfl ?_;cbv;cases h;exact hK hO (.refl _)
 cbv;refine A8 hE h (fun _ h=>?_) fun _ h=>?_
 ·cbv;refine A9 hE hO 0 rfl rfl fun H hO=>?_;cbv;refine B2 hE hO 0 rfl ?_;cbv;cases h;exact hK hO (.refl _)
 cbv;refine C5 hE hO fun b4 H hO=>?_;cbv;refine A9 hE hO 0 rfl rfl fun H hO=>?_;cbv;refine A8 hE h (fun _ h=>?_) fun _ h=>?_
 ·cbv;refine A9 hE hO 0 rfl rfl fun H hO=>?_;cbv;refine B2 hE hO 0 rfl ?_;cbv;refine A9 hE hO 1 rfl rfl fun H hO=>?_;cbv;refine B2 hE hO 1 rfl ?_;cbv;cases h;exact hK hO (.refl _)
 cbv;refine A8 hE h (fun _ h=>?_) fun _ h=>?_
 ·cbv;refine A5 hE h (c283 N aC.Kind aC.Value aH) (.refl _) fun r5 h=>?_;cbv;refine A9 hE hO 0 rfl rfl fun H hO=>?_;cbv;refine B2 hE hO 0 rfl ?_;cbv;refine A9 hE hO 1 rfl rfl fun H hO=>?_;cbv;refine B2 hE hO 1 rfl ?_;cbv;cases h;exact hK hO (.refl _)
 cbv;refine B2 hE hO 0 rfl ?_;cbv;refine A9 hE hO 1 rfl rfl fun H hO=>?_;cbv;refine B2 hE hO 1 rfl ?_;cbv;cases h;exact hK hO (.refl _)
def cf264 :Cf:=⟨[4],[],[],[],[],[]⟩
theorem c264 (N aC aY r)(h:Dr N aC aY=some r):B4 prog 264 [(E8 aC),(C6 aY)] (.tup [(C6 r.1),vi r.2]):=by
 unfold Dr at h
 refine I4 cf264 func264 call264 ntmps264 ?_;intro E H0 K hE hK hO;cbv;refine C5 hE hO fun b1 H hO=>?_;cbv;refine A5 hE h (c281 N aC) (.refl _) fun r2 h=>?_;cbv;refine A8 hE h (fun _ h=>?_) fun _ h=>?_
 ·cbv;refine A9 hE hO 0 rfl rfl fun H hO=>?_;cbv;refine B2 hE hO 0 rfl ?_;cbv;cases h;exact hK hO (.refl _)
 cbv;refine A5 hE h (c282 N aC.Kind aY) (.refl _) fun r3 h=>?_;cbv;refine A8 hE h (fun _ h=>?_) fun _ h=>?_
 ·cbv;refine A9 hE hO 0 rfl rfl fun H hO=>?_;cbv;refine B2 hE hO 0 rfl ?_;cbv;cases h;exact hK hO (.refl _)
 cbv;refine A8 hE h (fun _ h=>?_) fun _ h=>?_
 ·cbv;refine A9 hE hO 0 rfl rfl fun H hO=>?_;cbv;refine B2 hE hO 0 rfl ?_;cbv;cases h;exact hK hO (.refl _)
 cbv;refine A8 hE h (fun _ h=>?_) fun _ h=>?_
 ·cbv;refine A9 hE hO 0 rfl rfl fun H hO=>?_;cbv;refine B2 hE hO 0 rfl ?_;cbv;cases h;exact hK hO (.refl _)
 cbv;refine A9 hE hO 0 rfl rfl fun H hO=>?_;cbv;refine B2 hE hO 0 rfl ?_;cbv;cases h;exact hK hO (.refl _)
def cf226 :Cf:=⟨[6,8],[(9,11)],[],[],[],[]⟩
theorem c226 (N aW aF aY r) (h:GS N aW aF aY=some r):B4 prog 226 [vi aW,sr eAm8 aF,(C6 aY)] (.tup [(C6 r.1),vi r.2]):=by
 unfold GS at h
 refine I4 cf226 func226 call226 ntmps226 ?_;intro E H0 K hE hK hO;cbv;refine C5 hE hO fun b1 H hO=>?_;cbv;refine A5 hE h (c262 N aW) (.refl _) fun r2 h=>?_;cbv;refine A8 hE h (fun _ h=>?_) fun _ h=>?_
 ·cbv;refine A9 hE hO 0 rfl rfl fun H hO=>?_;cbv;refine B2 hE hO 0 rfl ?_;cbv;cases h;exact hK hO (.refl _)
 cbv;refine D5 hE ?_;cbv;refine A8 hE h (fun _ h=>?_) fun _ h=>?_
 ·cbv;refine A9 hE hO 0 rfl rfl fun H hO=>?_;cbv;refine B2 hE hO 0 rfl ?_;cbv;cases h;exact hK hO (.refl _)
 cbv;refine C5 hE hO fun b3 H hO=>?_;cbv;refine A9 hE hO 0 rfl rfl fun H hO=>?_;cbv;obtain⟨s5,hx,h⟩:=bind_some h;refine F2 cf226 hE M3 (fun s4=>[(1,.v (sr eAm8 aF)),(5,.v (.eref (N0 aY) 0)),(6,.v (.ref b1 0)),(8,.v (.ref b3 0)),fi 9 s4.1]) (fun(s4:Int×B9) H1=>C1 Eq H0 [cb b3 (An s4.2),cb b1 [vi 0,vi 0,.str (⟨#[]⟩)]] H1) (fun x e l H1=>match(generalizing:=false) x with| .inl y=>e= .exit 0∧l=[(5,.v (.eref (N0 aY) 0)),(6,.v (.ref b1 0)),(8,.v (.ref b3 0))]∧C1 Eq H0 [cb b3 (An y),cb b1 [vi 0,vi 0,.str (⟨#[]⟩)]] H1| .inr y=>e= .ret∧l=[(6,.v (.ref b1 0)),fi 7 y.1]∧C1 Eq H0 [cb b3 (An y.2),cb b1 [vi 0,vi 0,.str (⟨#[]⟩)]] H1) (by kernel_rfl) ?_ hx ?_ hO ?_
 ·intro s4 H o hO h;clear hx;cbv;refine D5 hE ?_;cbv;refine A8 hE h (fun _ h=>?_) fun _ h=>?_
  ·cbv;refine B2 hE hO 0 rfl ?_;cbv;refine B8 hE eAm4 h fun x6 h=>?_;cbv;refine C9 hE (g:=fun r7=>.tup [(E8 r7.1),vi r7.2]) h (c263 N s4.2 x6) (.refl _) fun r7 h=>?_;cbv;refine A8 hE h (fun _ h=>?_) fun _ h=>?_
   ·cbv;refine A9 hE hO 1 rfl rfl fun H hO=>?_;cbv;cases h;exact⟨_,_,rfl,⟨rfl,rfl,hO⟩,.e2 .z,rfl⟩
   cbv;refine A9 hE hO 0 rfl rfl fun H hO=>?_;cbv;cases h;exact⟨_,rfl,.e rfl (.e4 .z),rfl,hO⟩
  cbv;cases h;exact⟨_,_,rfl,⟨rfl,rfl,hO⟩,.e rfl (.e2 .z),rfl⟩
 ·exact .e rfl (.e4 .z)
 clear hx
 rcases s5 with y8|y10
 ·rintro e l H ⟨rfl,rfl,hO⟩;cbv;refine B2 hE hO 0 rfl ?_;cbv;refine A5 hE h (c264 N y8 aY) (.refl _) fun r9 h=>?_;cbv;refine A9 hE hO 1 rfl rfl fun H hO=>?_;cbv;refine B2 hE hO 1 rfl ?_;cbv;cases h;exact hK hO (.refl _)
 rintro e l H ⟨rfl,rfl,hO⟩;cbv;refine B2 hE hO 1 rfl ?_;cbv;cases h;exact hK hO (.refl _)
def cf227 :Cf:=⟨[8],[],[],[],[],[]⟩
theorem c227 (N aR aH aT aU r)(h:DU N aR aH aT aU=some r):B4 prog 227 [(DP aR),vi aH,vi aT,(V7 aU)] (.tup [(V7 r.1),.bool r.2]):=by
 unfold DU at h
 refine I4 cf227 func227 call227 ntmps227 ?_;intro E H0 K hE hK hO;cbv;refine C5 hE hO fun b1 H hO=>?_;cbv;refine A8 hE h (fun _ h=>?_) fun _ h=>?_
 ·cbv;refine A9 hE hO 0 rfl rfl fun H hO=>?_;cbv;refine B2 hE hO 0 rfl ?_;cbv;cases h;exact hK hO (.refl _)
 cbv;refine A5 hE h (c225 N aR aH) (.refl _) fun r2 h=>?_;cbv;refine D5 hE ?_;cbv;refine A8 hE h (fun _ h=>?_) fun _ h=>?_
 ·cbv;refine A9 hE hO 0 rfl rfl fun H hO=>?_;cbv;refine B2 hE hO 0 rfl ?_;cbv;cases h;exact hK hO (.tup (.cons (.agg (.cons (.refl _) (.cons (.refl _) (.cons (.refl _) (.cons (.refl _) (.cons (.lit _ (E6)) (.refl _))))))) (.refl _)))
 cbv;refine D5 hE ?_;cbv;refine B8 hE eAm5 h fun x3 h=>?_;cbv;refine A9 hE hO 0 rfl rfl fun H hO=>?_;cbv;refine B2 hE hO 0 rfl ?_;cbv;cases h;exact hK hO (.refl _)
def cf187 :Cf:=⟨[8],[(12,8),(14,11)],[],[],[],[]⟩
theorem c187 (N aB aR aT aU r) (h:DT N aB aR aT aU=some r):B4 prog 187 [(I0 aB),(DP aR),vi aT,(V7 aU)] (.tup [(C6 r.1),vi r.2]):=by
 unfold DT at h
 refine I4 cf187 func187 call187 ntmps187 ?_;intro E H0 K hE hK hO;cbv;refine C5 hE hO fun b1 H hO=>?_;cbv;refine A8 hE h (fun _ h=>?_) fun _ h=>?_
 ·cbv;refine A9 hE hO 0 rfl rfl fun H hO=>?_;cbv;refine B2 hE hO 0 rfl ?_;cbv;cases h;exact hK hO (.refl _)
 cbv;refine A8 hE h (fun _ h=>?_) fun _ h=>?_
 ·cbv;refine A5 hE h (c225 N aR aB.Var) (.refl _) fun r2 h=>?_;cbv;refine D5 hE ?_;cbv;refine A9 hE hO 0 rfl rfl fun H hO=>?_;cbv;refine B2 hE hO 0 rfl ?_;cbv;cases h;exact hK hO (.refl _)
 cbv;refine A8 hE h (fun _ h=>?_) fun _ h=>?_
 ·cbv;refine A5 hE h (c225 N aR aB.Var) (.refl _) fun r3 h=>?_;cbv;replace hO:=hO.tl0 (t:=.nil) rfl;obtain⟨s6,hx,h⟩:=bind_some h;refine M8 cf187 hE M3 (γ:=D1) (fun s4 g=>[(4,.v (.eref (Af aB) 0)),(8,.v (.ref b1 0)),(10,.v (.sl (lst eAm8 s4.1) g)),(11,.v (sr eAl9 r3)),fi 12 s4.2]) (fun s4 g H1=>K8 g∧C1 Eq H0 [.tl g,cb b1 [vi 0,vi 0,.str (⟨#[]⟩)]] H1) (fun x e l H1=>match(generalizing:=false) x with| .inl y=>∃u1:D1,K8 u1∧e= .exit 1∧l=[(4,.v (.eref (Af aB) 0)),(8,.v (.ref b1 0)),(10,.v (.sl (lst eAm8 y) u1))]∧C1 Eq H0 [.tl u1,cb b1 [vi 0,vi 0,.str (⟨#[]⟩)]] H1| .inr y=>∃u1:D1,K8 u1∧e= .ret∧l=[(8,.v (.ref b1 0)),fi 9 6]∧C1 Eq H0 [.tl u1,cb b1 [vi 0,vi 0,.str (⟨#[]⟩)]] H1) (by kernel_rfl) ?_ .nil hx ?_ ?_ ?_
  ·rintro s4 t5 H o ⟨ht5,hO⟩ h;clear hx;cbv;refine D5 hE ?_;cbv;refine A8 hE h (fun _ h=>?_) fun _ h=>?_
   ·cbv;refine B8 hE eAm5 h fun x7 h=>?_;cbv;refine D5 hE ?_;cbv;refine A8 hE h (fun _ h=>?_) fun _ h=>?_
    ·cbv;refine A9 hE hO 1 rfl rfl fun H hO=>?_;cbv;cases h;exact⟨_,_,rfl,⟨t5,ht5,rfl,rfl,hO⟩,.e2 .z,rfl⟩
    cbv;refine B8 hE eAm5 h fun x8 h=>?_;cbv;refine B8 hE eAm4 h fun x9 h=>?_;cbv;refine AO (f:=eAm8) hE HC (by decide) hO 0 rfl ht5 (l:=s4.1) (m:=[x9]) (.refl _) (.lstc (.eq (eAm4 x9) (.refl _)) (.lst0)) h fun l11 t10 H hO ht10 h=>?_;cbv;cases h;exact⟨_,t10,rfl,.e rfl (.e4 .z),rfl,ht10,hO⟩
   cbv;cases h;exact⟨_,_,rfl,⟨t5,ht5,rfl,rfl,hO⟩,.e rfl (.e2 .z),rfl⟩
  ·exact .e2 (.v (.slt _ (.lst0)) (.e rfl (.e rfl (.z))))
  ·exact⟨trivial,hO⟩
  clear hx
  rcases s6 with y12|y15
  ·rintro e l H ⟨t13,ht13,rfl,rfl,hO⟩;cbv;refine A5 hE h (c226 N aB.Kind y12 aB.Value) (.cons (.refl _) (.cons (.ro _ _) (.refl _))) fun r14 h=>?_;cbv;refine A9 hE hO 1 rfl rfl fun H hO=>?_;cbv;refine B2 hE hO 1 rfl ?_;cbv;cases h;exact hK hO (.refl _)
  rintro e l H ⟨t16,ht16,rfl,rfl,hO⟩;cbv;refine B2 hE hO 1 rfl ?_;cbv;cases h;exact hK hO (.refl _)
 cbv;refine A5 hE h (c227 N aR aB.Var aT aU) (.refl _) fun r17 h=>?_;cbv;refine A8 hE h (fun _ h=>?_) fun _ h=>?_
 ·cbv;refine A9 hE hO 0 rfl rfl fun H hO=>?_;cbv;refine B2 hE hO 0 rfl ?_;cbv;cases h;exact hK hO (.refl _)
 cbv;refine A8 hE h (fun _ h=>?_) fun _ h=>?_
 ·cbv;refine A9 hE hO 0 rfl rfl fun H hO=>?_;cbv;refine B2 hE hO 0 rfl ?_;cbv;cases h;exact hK hO (.refl _)
 cbv;refine D5 hE ?_;cbv;refine A8 hE h (fun _ h=>?_) fun _ h=>?_
 ·cbv;refine A9 hE hO 0 rfl rfl fun H hO=>?_;cbv;refine B2 hE hO 0 rfl ?_;cbv;cases h;exact hK hO (.refl _)
 cbv;refine B8 hE eAm4 h fun x18 h=>?_;cbv;refine A5 hE h (c228 N x18) (.refl _) fun r19 h=>?_;cbv;refine A8 hE h (fun _ h=>?_) fun _ h=>?_
 ·cbv;refine A9 hE hO 0 rfl rfl fun H hO=>?_;cbv;refine B2 hE hO 0 rfl ?_;cbv;cases h;exact hK hO (.refl _)
 cbv;refine B8 hE eAm4 h fun x20 h=>?_;cbv;refine A9 hE hO 0 rfl rfl fun H hO=>?_;cbv;refine B2 hE hO 0 rfl ?_;cbv;cases h;exact hK hO (.refl _)
def cf229 :Cf:=⟨[],[],[(4,4)],[],[],[]⟩
theorem c229 (N aL r) (h:AJ N aL=some r):B4 prog 229 [vi aL] (vi r):=by
 unfold AJ at h
 refine I4 cf229 func229 call229 ntmps229 ?_;intro E H0 K hE hK hO;cbv;obtain⟨s1,hx,h⟩:=bind_some h;refine S3 cf229 hE M3 (fun e l H1=>e= .normal∧l=[fi 3 aL,(4,.v (.bool s1))]∧C1 Eq H0 [] H1) (by kernel_rfl) ?_ ?_
 ·clear h;have h:=hx;clear hx;cbv;refine A8 hE h (fun _ h=>?_) fun _ h=>?_
  ·cbv;cases h;exact⟨_,⟨rfl,rfl,hO⟩,.e2 .z,rfl⟩
  cbv;refine A8 hE h (fun _ h=>?_) fun _ h=>?_
  ·cbv;cases h;exact⟨_,⟨rfl,rfl,hO⟩,.e2 .z,rfl⟩
  cbv;refine A8 hE h (fun _ h=>?_) fun _ h=>?_
  ·cbv;cases h;exact⟨_,⟨rfl,rfl,hO⟩,.e2 .z,rfl⟩
  cbv;cases h;exact⟨_,⟨rfl,rfl,hO⟩,.e2 .z,rfl⟩
 clear hx;rintro e l H ⟨rfl,rfl,hO⟩;cbv;refine A8 hE h (fun _ h=>?_) fun _ h=>?_
 ·cbv;cases h;exact hK hO (.refl _)
 cbv;refine A8 hE h (fun _ h=>?_) fun _ h=>?_
 ·cbv;cases h;exact hK hO (.refl _)
 cbv;refine A8 hE h (fun _ h=>?_) fun _ h=>?_
 ·cbv;cases h;exact hK hO (.refl _)
 cbv;refine A8 hE h (fun _ h=>?_) fun _ h=>?_
 ·cbv;cases h;exact hK hO (.refl _)
 cbv;cases h;exact hK hO (.refl _)
def cf188 :Cf:=⟨[],[(5,21)],[],[],[],[]⟩
theorem c188 (N aL bB r) (h:AI N aL bB=some r):B4 prog 188 [vi aL,sr (V.int .i64) bB] (vi r):=by
 unfold AI at h
 refine I4 cf188 func188 call188 ntmps188 ?_;intro E H0 K hE hK hO;cbv;obtain⟨s2,hx,h⟩:=bind_some h;refine F2 cf188 hE M3 (fun s1=>[fi 0 aL,(1,.v (sr (V.int .i64) bB)),fi 5 s1]) (fun s1 H1=>C1 Eq H0 [] H1) (fun x e l H1=>match(generalizing:=false) x with| .inl y=>e= .exit 0∧l=[]∧C1 Eq H0 [] H1| .inr y=>e= .ret∧l=[fi 4 9]∧C1 Eq H0 [] H1) (by kernel_rfl) ?_ hx ?_ hO ?_
 ·intro s1 H o hO h;clear hx;cbv;refine D5 hE ?_;cbv;refine A8 hE h (fun _ h=>?_) fun _ h=>?_
  ·cbv;refine A5 hE h (c229 N aL) (.refl _) fun r3 h=>?_;cbv;refine A8 hE h (fun _ h=>?_) fun _ h=>?_
   ·cbv;refine B8 hE (fun _=>rfl) h fun x4 h=>?_;cbv;refine A8 hE h (fun _ h=>?_) fun _ h=>?_
    ·cbv;cases h;exact⟨_,_,rfl,⟨rfl,rfl,hO⟩,.e rfl .z,rfl⟩
    cbv;refine A8 hE h (fun _ h=>?_) fun _ h=>?_
    ·cbv;refine B8 hE (fun _=>rfl) h fun x5 h=>?_;cbv;refine B8 hE (fun _=>rfl) h fun x6 h=>?_;cbv;refine A8 hE h (fun _ h=>?_) fun _ h=>?_
     ·cbv;cases h;exact⟨_,_,rfl,⟨rfl,rfl,hO⟩,.e rfl .z,rfl⟩
     cbv;cases h;exact⟨_,rfl,.e rfl (.e2 .z),rfl,hO⟩
    cbv;cases h;exact⟨_,rfl,.e rfl (.e2 .z),rfl,hO⟩
   cbv;refine A8 hE h (fun _ h=>?_) fun _ h=>?_
   ·cbv;refine B8 hE (fun _=>rfl) h fun x7 h=>?_;cbv;refine B8 hE (fun _=>rfl) h fun x8 h=>?_;cbv;refine A8 hE h (fun _ h=>?_) fun _ h=>?_
    ·cbv;cases h;exact⟨_,_,rfl,⟨rfl,rfl,hO⟩,.e rfl .z,rfl⟩
    cbv;cases h;exact⟨_,rfl,.e rfl (.e2 .z),rfl,hO⟩
   cbv;cases h;exact⟨_,rfl,.e rfl (.e2 .z),rfl,hO⟩
  cbv;cases h;exact⟨_,_,rfl,⟨rfl,rfl,hO⟩,.z,rfl⟩
 ·exact .e rfl (.e2 .z)
 clear hx
 rcases s2 with y9|y10
 ·rintro e l H ⟨rfl,rfl,hO⟩;cbv;cases h;exact hK hO (.refl _)
 rintro e l H ⟨rfl,rfl,hO⟩;cbv;cases h;exact hK hO (.refl _)
def cf189 :Cf:=⟨[4],[(3,8),(5,8),(7,8),(9,8),(11,6)],[],[],[],[]⟩
theorem c189 (N aL aF r) (h:EG N aL aF=some r):B4 prog 189 [vi aL,sr eAm8 aF] ((C6 r)):=by
 unfold EG at h
 refine I4 cf189 func189 call189 ntmps189 ?_;intro E H0 K hE hK hO;cbv;refine C5 hE hO fun b1 H hO=>?_;cbv;refine A8 hE h (fun _ h=>?_) fun _ h=>?_
 ·cbv;refine B8 hE eAm4 h fun x2 h=>?_;cbv;refine B8 hE eAm4 h fun x3 h=>?_;cbv;refine A9 hE hO 0 rfl rfl fun H hO=>?_;cbv;refine B2 hE hO 0 rfl ?_;cbv;cases h;exact hK hO (.refl _)
 cbv;refine A8 hE h (fun _ h=>?_) fun _ h=>?_
 ·cbv;refine B8 hE eAm4 h fun x4 h=>?_;cbv;refine B8 hE eAm4 h fun x5 h=>?_;cbv;refine A9 hE hO 0 rfl rfl fun H hO=>?_;cbv;refine B2 hE hO 0 rfl ?_;cbv;cases h;exact hK hO (.refl _)
 cbv;refine A8 hE h (fun _ h=>?_) fun _ h=>?_
 ·cbv;refine B8 hE eAm4 h fun x6 h=>?_;cbv;refine B8 hE eAm4 h fun x7 h=>?_;cbv;refine A5 hE h (c120 N (Ar.cmp .lss x6.Num x7.Num)) (.refl _) fun r8 h=>?_;cbv;refine A9 hE hO 0 rfl rfl fun H hO=>?_;cbv;refine B2 hE hO 0 rfl ?_;cbv;cases h;exact hK hO (.refl _)
 cbv;refine A8 hE h (fun _ h=>?_) fun _ h=>?_
 ·cbv;refine B8 hE eAm4 h fun x9 h=>?_;cbv;refine B8 hE eAm4 h fun x10 h=>?_;cbv;refine A5 hE h (c120 N (Ar.cmp .leq x9.Num x10.Num)) (.refl _) fun r11 h=>?_;cbv;refine A9 hE hO 0 rfl rfl fun H hO=>?_;cbv;refine B2 hE hO 0 rfl ?_;cbv;cases h;exact hK hO (.refl _)
 cbv;refine A8 hE h (fun _ h=>?_) fun _ h=>?_
 ·cbv;refine B8 hE eAm4 h fun x12 h=>?_;cbv;refine B8 hE eAm4 h fun x13 h=>?_;cbv;refine A5 hE h (c120 N (an (Ar.cmp .eql x12.Kind x13.Kind) (an (Ar.cmp .eql x12.Num x13.Num) (an (Ar.scmp .eql x12.Text x13.Text) true)))) (.refl _) fun r14 h=>?_;cbv;refine A9 hE hO 0 rfl rfl fun H hO=>?_;cbv;refine B2 hE hO 0 rfl ?_;cbv;cases h;exact hK hO (.refl _)
 cbv;refine A8 hE h (fun _ h=>?_) fun _ h=>?_
 ·cbv;refine B8 hE eAm4 h fun x15 h=>?_;cbv;refine A8 hE h (fun _ h=>?_) fun _ h=>?_
  ·cbv;refine B8 hE eAm4 h fun x16 h=>?_;cbv;refine A5 hE h (c120 N (Ar.cmp .eql x16.Num 1)) (.refl _) fun r17 h=>?_;cbv;refine A9 hE hO 0 rfl rfl fun H hO=>?_;cbv;refine B2 hE hO 0 rfl ?_;cbv;cases h;exact hK hO (.refl _)
  cbv;refine A5 hE h (c120 N false) (.refl _) fun r18 h=>?_;cbv;refine A9 hE hO 0 rfl rfl fun H hO=>?_;cbv;refine B2 hE hO 0 rfl ?_;cbv;cases h;exact hK hO (.refl _)
 cbv;refine A8 hE h (fun _ h=>?_) fun _ h=>?_
 ·cbv;refine B8 hE eAm4 h fun x19 h=>?_;cbv;refine A8 hE h (fun _ h=>?_) fun _ h=>?_
  ·cbv;refine A5 hE h (c120 N true) (.refl _) fun r20 h=>?_;cbv;refine A9 hE hO 0 rfl rfl fun H hO=>?_;cbv;refine B2 hE hO 0 rfl ?_;cbv;cases h;exact hK hO (.refl _)
  cbv;refine B8 hE eAm4 h fun x21 h=>?_;cbv;refine A5 hE h (c120 N (Ar.cmp .eql x21.Num 1)) (.refl _) fun r22 h=>?_;cbv;refine A9 hE hO 0 rfl rfl fun H hO=>?_;cbv;refine B2 hE hO 0 rfl ?_;cbv;cases h;exact hK hO (.refl _)
 cbv;refine B8 hE eAm4 h fun x23 h=>?_;cbv;refine A5 hE h (c120 N (Ar.cmp .neq x23.Num 1)) (.refl _) fun r24 h=>?_;cbv;refine A9 hE hO 0 rfl rfl fun H hO=>?_;cbv;refine B2 hE hO 0 rfl ?_;cbv;cases h;exact hK hO (.refl _)
end Go.Ab
