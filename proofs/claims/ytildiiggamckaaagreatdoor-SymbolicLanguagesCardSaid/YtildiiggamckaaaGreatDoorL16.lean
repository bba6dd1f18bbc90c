/- GLCo6 GLCo7 -/
import Derived.Test.YtildiiggamckaaaGreatDoorL15
set_option linter.all false
open Go.Ab.Ar (ar lst)
namespace Go.Ab
open Go.RowKit Go.Proofs Go.Proofs.Tryz K2
variable [Ar][K2]
set_option maxRecDepth 100000
theorem c61 (N cH aF aN r)(h:CD N cH aF aN=some r)(mx1:Nat)(ox1:Obj)(hox1:CK (.int .i64) (V.int .i64) (V.int .i64) ox1 aF)(bx2:Nat):SV prog 61 [(BL cH),.eref [.map mx1] 0,.ref bx2 0] [(mx1,.obj ox1),(bx2,.cells [vi aN])] (.bool r):=by
 unfold CD at h
 refine Qc (T:=TT) cf0 K3 func61 (by rfl) (by kernel_rfl) call61 ntmps61 (by rfl) (by rfl) ?_;intro E H0 K hE hO hK;have hO:B6 Eq (GL H0 [(mx1,.obj ox1),(bx2,.cells [vi aN])]) [.blk mx1 (.obj ox1),cb bx2 [vi aN]] H0:=hO;cbv;refine KH hE (kt:=3) (et:=3) (by kernel_rfl) (by kernel_rfl) (R5 .i64) (0:Int) (by kernel_rfl) rfl hO hox1 0 rfl h fun r1 h=>?_;cbv;refine B1 hE hO 1 rfl ?_;cbv;cases h;exact hK _ _ (hO) (.refl _)
def cf62 :Cf:=⟨[2,3],[],[],[],[],[]⟩
theorem c62 (N aB r)(h:Ea N aB=some r):C5 prog 62 [(F2 aB)] (.tup [(Fq r.1),vi r.2]):=by
 unfold Ea at h
 refine P3 cf62 func62 call62 ntmps62 ?_;intro E H0 K hE hK hO;cbv;refine E6 hE hO fun b1 H hO=>?_;cbv;refine E6 hE hO fun b2 H hO=>?_;cbv;refine A8 hE h (c90 N ([aB])) (.cons (.lit _ (D4 ((eAC8 aB).symm) (B4))) (.refl _)) fun r3 h=>?_;cbv;refine B0 hE h (fun _ h=>?_) fun _ h=>?_
 ·cbv;refine A7 hE hO 1 rfl rfl fun H hO=>?_;cbv;refine A7 hE hO 0 rfl rfl fun H hO=>?_;cbv;refine B1 hE hO 1 rfl ?_;cbv;refine B1 hE hO 0 rfl ?_;cbv;cases h;exact hK hO (.refl _)
 cbv;refine T4 hE h (c113 N aB) (.refl _) fun r4 v5 hv5 h=>?_;cbv;obtain⟨o10,hx,h⟩:=bind_some h;refine BT cf62 hE K3 (ι:=Unit) (enc:=fun(x:(Int×(List A4)))=>[vi x.1,sr eAA4 x.2]) (fun(s7:Unit) F H=>B6 Eq F [cb b2 [vi 0],cb b1 [vi 0,vi 0]] H) (fun(r:B8) e F H=>e= .ret∧B6 Eq F [cb b2 [vi 0],cb b1 (U6 r)] H) (fun i s7 y6=>[(2,.v (.ref b1 0)),(3,.v (.ref b2 0)),fi 5 y6.1,(6,.v (sr eAA4 y6.2))]) (fun i s7 y6 F H=>B6 Eq F [cb b2 [vi 0],cb b1 [vi 0,vi 0]] H) (fun _=>B6.stable C4 _) (fun _ _=>D2.con (B6.stable C4 _)) (fun _ _ _=>B6.stable C4 _) hv5 hx (hO) (by decide) (fun _=>rfl) (by kernel_rfl) (by kernel_rfl) ?_ ?_ ?_ ?_
 ·rintro E i9 y6 s7 F8 H hE hO;clear hx h;cbv;exact⟨(),hO,.e4 .z,rfl⟩
 ·rintro E i9 _ y6 s7 F8 H o hE hF h hO;clear hx;cbv;refine D3 hE eAB5 h fun x11 h=>?_;cbv;refine A7 hE hO 1 rfl rfl fun H hO=>?_;cbv;refine A7 hE hO 0 rfl rfl fun H hO=>?_;cbv;cases h;exact⟨_,rfl,rfl,⟨rfl,hO⟩⟩
 ·rintro d12 s14 H rfl hd hO;have hO:B6 Eq H0 [cb b2 [vi 0],cb b1 [vi 0,vi 0],.blk d12 DB] H:=B6.dblk hd hO;clear hd;clear hx;cbv;refine A7 hE hO 1 rfl rfl fun H hO=>?_;cbv;refine A7 hE hO 0 rfl rfl fun H hO=>?_;cbv;refine Ec hE hO 2 rfl fun H hO=>?_;cbv;refine B1 hE hO 1 rfl ?_;cbv;refine B1 hE hO 0 rfl ?_;cbv;cases h;exact hK hO (.refl _)
 rintro d12 y15 e H rfl hd hX;clear hx
 rcases hX with⟨rfl,hO⟩
 have hO:B6 Eq H0 [cb b2 [vi 0],cb b1 (U6 y15),.blk d12 DB] H:=B6.dblk hd hO;clear hd;cbv;refine Ec hE hO 2 rfl fun H hO=>?_;cbv;refine B1 hE hO 1 rfl ?_;cbv;refine B1 hE hO 0 rfl ?_;cbv;cases h;exact hK hO (.refl _)
theorem c63 (N aH aP r)(h:FE N aH aP=some r):C5 prog 63 [(Fq aH),(Fq aP)] (.bool r):=by
 unfold FE at h
 refine P3 cf0 func63 call63 ntmps63 ?_;intro E H0 K hE hK hO;cbv;cases h;exact hK hO (.refl _)
def cf19 :Cf:=⟨[7,12,13],[(3000031,0),(3000031,1),(3000031,4),(3000031,5),(3000031,6)],[],[2000031],[],[]⟩
set_option maxHeartbeats 2000000 in
theorem c19 (N aA r) (h:Gv N aA=some r):C5 prog 19 [(G3 aA)] (.tup [.bool r.1,sr eAA8 r.2.1,vi r.2.2]):=by
 unfold Gv at h
 refine P3 cf19 func19 call19 ntmps19 ?_;intro E H0 K hE hK hO;cbv;refine A8 hE h (c13 N aA) (.refl _) fun r1 h=>?_;cbv;refine B0 hE h (fun hc h=>?_) (fun hc h=>?_)
 ·cbv;cases h;exact hK hO (.tup (.cons (.refl _) (.cons (.lit _ (B4)) (.refl _))))
 cbv;refine PC hE h (c60 N aA) (.refl _) hO fun l2 m3 o4 H ho4 hO h=>?_;cbv;refine KH hE (kt:=3) (et:=3) (by kernel_rfl) (by kernel_rfl) (R5 .i64) (0:Int) (by kernel_rfl) rfl hO ho4 0 rfl h fun r5 h=>?_;cbv;refine E6 hE hO fun b6 H hO=>?_;cbv;refine A7 hE hO 0 rfl rfl fun H hO=>?_;cbv;refine B0 hE h (fun hc h=>?_) (fun hc h=>?_)
 ·cbv;cases h;exact hK hO (.tup (.cons (.refl _) (.cons (.lit _ (B4)) (.refl _))))
 cbv;refine Ld hE (.int .i64) (V.int .i64) V.bool hO fun m7 o8 H ho8 hO=>?_;cbv;refine Dq hE (kt:=3) (et:=4) (by kernel_rfl) (by kernel_rfl) (R5 .i64) DN hO ho8 0 rfl h fun l10 o9 H ho9 h hO=>?_;cbv;replace hO:=hO.tl0 (t:=.nil) rfl;obtain⟨s17,hx,h⟩:=bind_some h;refine Mk cf19 hE K3 (γ:=E5×Obj×Nat) (fun s12 g=>[(1,.v (.eref (C6 aA) 0)),(2,.b false),(3,.v (.sl [] .nil)),fi 4 0,(7,.v (.ref b6 0)),(9,.v (.eref [.func (.func 61) [] [.eref [.map m3] 0,.ref b6 0]] 0)),(10,.v (.sl (lst eAA8 s12.1) g.1)),(11,.v (.map g.2.2))]) (fun s12 g ds16 H1=>K1 g.1∧CK (.int .i64) (V.int .i64) V.bool g.2.1 s12.2.1∧True∧B6 Eq H0 (.tl g.1:: .blk g.2.2 (.obj g.2.1)::cb b6 [vi s12.2.2]:: .blk m3 (.obj o4)::Bl ds16) H1) (fun x e l ds16 H1=>∃u1:E5,K1 u1∧∃u2:Obj,CK (.int .i64) (V.int .i64) V.bool u2 x.2.1∧∃u3:Nat,True∧e= .exit 0∧l=[(10,.v (.sl (lst eAA8 x.1) u1))]∧B6 Eq H0 (.tl u1:: .blk u3 (.obj u2)::cb b6 [vi x.2.2]:: .blk m3 (.obj o4)::Bl ds16) H1) (by kernel_rfl) ?_ (⟨.nil,o9,m7⟩) hx ?_ ?_ ?_
 ·rintro s12 ⟨t13,q14,m15⟩ ds16 H o ⟨ht13,hq14,hm15,hO⟩ h;clear hx;cbv;refine B1 hE hO 2 rfl ?_;cbv;refine B0 hE h (fun hc h=>?_) (fun hc h=>?_)
  ·cbv;refine E6 hE hO fun b18 H hO=>?_;cbv;refine E6 hE hO fun b19 H hO=>?_;cbv;refine A7 hE hO 0 rfl rfl fun H hO=>?_;cbv;refine WV hE (kt:=3) (et:=4) (by kernel_rfl) hO (hO.get 3 rfl) hq14 fun m20 b21 H hb21 hO=>?_;cbv;obtain⟨s27,hx,h⟩:=bind_some h;refine OD cf19 hE K3 (γ:=Unit) (fun s23 _=>[(1,.v (.eref (C6 aA) 0)),(2,.b false),(3,.v (.sl [] .nil)),fi 4 0,(7,.v (.ref b6 0)),(9,.v (.eref [.func (.func 61) [] [.eref [.map m3] 0,.ref b6 0]] 0)),(10,.v (.sl (lst eAA8 s12.1) t13)),(11,.v (.map m15)),(12,.v (.ref b18 0)),(13,.v (.ref b19 0)),(43,.v (.ref m20 0))]) (fun s23 _ ds26 b25 H1=>B6 Eq H0 (.blk m20 b25::cb b19 [.bool s23.1]::cb b18 (U6 s23.2):: .tl t13:: .blk m15 (.obj q14)::cb b6 [vi s12.2.2]:: .blk m3 (.obj o4)::Bl ds26) H1) (fun x e l ds26 H1=>e= .exit 2∧l=[(1,.v (.eref (C6 aA) 0)),(2,.b false),(3,.v (.sl [] .nil)),fi 4 0,(7,.v (.ref b6 0)),(9,.v (.eref [.func (.func 61) [] [.eref [.map m3] 0,.ref b6 0]] 0)),(10,.v (.sl (lst eAA8 s12.1) t13)),(11,.v (.map m15)),(12,.v (.ref b18 0))]∧B6 Eq H0 (cb b19 [.bool x.1]::cb b18 (U6 x.2):: .tl t13:: .blk m15 (.obj q14)::cb b6 [vi s12.2.2]:: .blk m3 (.obj o4)::Bl ds26) H1) (by kernel_rfl) ?_ () hx ?_ hb21 ?_ ?_
   ·rintro s23 _ ds26 lf23 b25 H hb25 hO hs23;clear hx;cbv;refine WW hE hO hb25 0 rfl (hO.get 4 rfl) (fun hl=>?_) fun p24 l28 b29 H hpp24 hb29 hO=>?_
    ·cbv;refine NU hE (fun hc=>by cases hc) (fun hc=>?_);cbv;exact⟨_,_,_,.inl ⟨hl,rfl⟩,⟨rfl,rfl,hO.tail⟩,.e rfl (.b rfl (.e rfl (.e rfl (.e rfl (.e rfl (.e rfl (.e rfl (.e rfl (.z))))))))),rfl⟩
    obtain⟨o,h⟩:=hs23 p24 l28 hpp24;have h0p24:=h;cbv;refine NU hE (fun hc=>?_) (fun hc=>by cases hc);cbv;refine WX hE hO hb29 0 rfl (hO.get 4 rfl) ?_;cbv;refine T4 hE h (c41 N aA p24.1) (.refl _) fun r30 v31 hv31 h=>?_;cbv;obtain⟨o36,hx,h⟩:=bind_some h;refine BT cf19 hE K3 (ι:=Unit) (enc:=fun(x:C3)=>[(BL x)]) (fun(s33:Bool×B8) F H=>B6 Eq F (.blk m20 b29::cb b19 [.bool s33.1]::cb b18 (U6 s33.2):: .tl t13:: .blk m15 (.obj q14)::cb b6 [vi s12.2.2]:: .blk m3 (.obj o4)::Bl ds26) H) (fun(r:Unit) e F H=>False) (fun i s33 y32=>[(9,.v (.eref [.func (.func 61) [] [.eref [.map m3] 0,.ref b6 0]] 0)),(12,.v (.ref b18 0)),(13,.v (.ref b19 0)),(15,.v (.eref (GM y32) 0))]) (fun i s33 y32 F H=>B6 Eq F (.blk m20 b29::cb b19 [.bool s33.1]::cb b18 (U6 s33.2):: .tl t13:: .blk m15 (.obj q14)::cb b6 [vi s12.2.2]:: .blk m3 (.obj o4)::Bl ds26) H) (fun _=>B6.stable C4 _) (fun _ _=>⟨fun h=>h.elim,fun _ _ h=>h.elim⟩) (fun _ _ _=>B6.stable C4 _) hv31 hx (hO) (by decide) (fun _=>rfl) (by kernel_rfl) (by kernel_rfl) ?_ ?_ ?_ ?_
    ·rintro E i35 y32 s33 F34 H hE hO;clear hx h;cbv;exact⟨(),hO,.e4 .z,rfl⟩
    ·rintro E i35 _ y32 s33 F34 H o hE hF h hO;clear hx;cbv;refine A8 hE h (c62 N y32.On) (.refl _) fun r37 h=>?_;cbv;refine B0 hE h (fun hc h=>?_) (fun hc h=>?_)
     ·cbv;refine JX hE (F0:=[]) (C0:=[.eref [.map m3] 0,.ref b6 0]) (args':=[(BL y32)]) (g:=fun r38=>.bool r38) h (fun r38 hx=>c61 N y32 l2 s12.2.2 r38 hx m3 o4 ho4 b6) (.refl _) (Qo (neC (hO.ne 6 5 rfl rfl (by decide)) (ne0)) (Qp _)) (atC (hO.get 6 rfl) (atC (hO.get 5 rfl) (at0))) fun r38 h=>?_;cbv;refine B1 hE hO 1 rfl ?_;cbv;refine B1 hE hO 2 rfl ?_;cbv;refine B0 hE h (fun hc h=>?_) (fun hc h=>?_)
      ·cbv;refine B0 hE h (fun hc h=>?_) (fun hc h=>?_)
       ·cbv;refine A7 hE hO 2 rfl rfl fun H hO=>?_;cbv;refine A7 hE hO 1 rfl rfl fun H hO=>?_;cbv;cases h;exact⟨_,rfl,hO⟩
       cbv;refine A8 hE h (c63 N r37.1 s33.2) (.refl _) fun r39 h=>?_;cbv;refine B0 hE h (fun hc h=>?_) (fun hc h=>?_)
       ·cbv;refine A7 hE hO 2 rfl rfl fun H hO=>?_;cbv;refine A7 hE hO 1 rfl rfl fun H hO=>?_;cbv;cases h;exact⟨_,rfl,hO⟩
       cbv;cases h;exact⟨_,rfl,hO⟩
      cbv;cases h;exact⟨_,rfl,hO⟩
     cbv;cases h;exact⟨_,rfl,hO⟩
    ·rintro d40 s42 H rfl hd hO;have hO:B6 Eq H0 (.blk m20 b29::cb b19 [.bool s42.1]::cb b18 (U6 s42.2):: .tl t13:: .blk m15 (.obj q14)::cb b6 [vi s12.2.2]:: .blk m3 (.obj o4)::Bl (d40::ds26)) H:=B6.dbs1 (A:=[_,_,_,_,_,_,_]) (ds:=ds26) (B6.dblk hd hO);clear hd;clear hx;cbv;cases h;exact⟨p24,l28,_,(),b29,_,hpp24,h0p24,.e rfl (.b rfl (.e rfl (.e rfl (.e rfl (.e rfl (.e rfl (.e rfl (.e rfl (.e rfl (.e rfl (.z))))))))))),rfl,hb29.1,hO⟩
    rintro d r e H rfl hd hO;exact hO.elim
   ·exact .e rfl (.b rfl (.e rfl (.e rfl (.e rfl (.e rfl (.e rfl (.e rfl (.e rfl (.e rfl (.e rfl (.z)))))))))))
   ·exact hO
   clear hx;rintro e l ds26 H ⟨rfl,rfl,hO⟩;cbv;refine Ld hE (.int .i64) (V.int .i64) V.bool hO fun m43 o44 H ho44 hO=>?_;cbv;refine WV hE (kt:=3) (et:=4) (by kernel_rfl) hO (hO.get 4 rfl) hq14 fun m45 b46 H hb46 hO=>?_;cbv;obtain⟨s53,hx,h⟩:=bind_some h;refine OD cf19 hE K3 (γ:=Obj) (fun s48 g=>[(1,.v (.eref (C6 aA) 0)),(2,.b false),(3,.v (.sl [] .nil)),fi 4 0,(7,.v (.ref b6 0)),(9,.v (.eref [.func (.func 61) [] [.eref [.map m3] 0,.ref b6 0]] 0)),(10,.v (.sl (lst eAA8 s12.1) t13)),(11,.v (.map m15)),(12,.v (.ref b18 0)),(18,.v (.eref [.map m43] 0)),(77,.v (.ref m45 0))]) (fun s48 g ds52 b50 H1=>CK (.int .i64) (V.int .i64) V.bool g s48∧B6 Eq H0 (.blk m45 b50:: .blk m43 (.obj g)::cb b19 [.bool s27.1]::cb b18 (U6 s27.2):: .tl t13:: .blk m15 (.obj q14)::cb b6 [vi s12.2.2]:: .blk m3 (.obj o4)::Bl ds52) H1) (fun x e l ds52 H1=>∃u1:Obj,CK (.int .i64) (V.int .i64) V.bool u1 x∧e= .exit 6∧l=[(1,.v (.eref (C6 aA) 0)),(2,.b false),(3,.v (.sl [] .nil)),fi 4 0,(7,.v (.ref b6 0)),(9,.v (.eref [.func (.func 61) [] [.eref [.map m3] 0,.ref b6 0]] 0)),(10,.v (.sl (lst eAA8 s12.1) t13)),(12,.v (.ref b18 0)),(18,.v (.eref [.map m43] 0))]∧B6 Eq H0 (.blk m43 (.obj u1)::cb b19 [.bool s27.1]::cb b18 (U6 s27.2):: .tl t13:: .blk m15 (.obj q14)::cb b6 [vi s12.2.2]:: .blk m3 (.obj o4)::Bl ds52) H1) (by kernel_rfl) ?_ o44 hx ?_ hb46 ?_ ?_
   ·rintro s48 q51 ds52 lf48 b50 H hb50 ⟨hq51,hO⟩ hs48;clear hx;cbv;refine WW hE hO hb50 0 rfl (hO.get 5 rfl) (fun hl=>?_) fun p49 l54 b55 H hpp49 hb55 hO=>?_
    ·cbv;refine NU hE (fun hc=>by cases hc) (fun hc=>?_);cbv;exact⟨_,_,_,.inl ⟨hl,rfl⟩,⟨q51,hq51.srt,rfl,rfl,hO.tail⟩,.e rfl (.b rfl (.e rfl (.e rfl (.e rfl (.e rfl (.e rfl (.e rfl (.e rfl (.z))))))))),rfl⟩
    obtain⟨o,h⟩:=hs48 p49 l54 hpp49;have h0p49:=h;cbv;refine NU hE (fun hc=>?_) (fun hc=>by cases hc);cbv;refine WX hE hO hb55 0 rfl (hO.get 5 rfl) ?_;cbv;refine T4 hE h (c41 N aA p49.1) (.refl _) fun r56 v57 hv57 h=>?_;cbv;obtain⟨o63,hx,h⟩:=bind_some h;refine BT cf19 hE K3 (ι:=Unit) (enc:=fun(x:C3)=>[(BL x)]) (fun(s59:(List (Int×Bool))) F H=>∃g:Obj,(CK (.int .i64) (V.int .i64) V.bool g s59)∧B6 Eq F (.blk m45 b55:: .blk m43 (.obj g)::cb b19 [.bool s27.1]::cb b18 (U6 s27.2):: .tl t13:: .blk m15 (.obj q14)::cb b6 [vi s12.2.2]:: .blk m3 (.obj o4)::Bl ds52) H) (fun(r:Unit) e F H=>False) (fun i s59 y58=>[(9,.v (.eref [.func (.func 61) [] [.eref [.map m3] 0,.ref b6 0]] 0)),(12,.v (.ref b18 0)),(18,.v (.eref [.map m43] 0)),(20,.v (.eref (GM y58) 0))]) (fun i s59 y58 F H=>∃g:Obj,(CK (.int .i64) (V.int .i64) V.bool g s59)∧B6 Eq F (.blk m45 b55:: .blk m43 (.obj g)::cb b19 [.bool s27.1]::cb b18 (U6 s27.2):: .tl t13:: .blk m15 (.obj q14)::cb b6 [vi s12.2.2]:: .blk m3 (.obj o4)::Bl ds52) H) (fun _=>D2.ex fun _=>B6.stable C4 _) (fun _ _=>⟨fun h=>h.elim,fun _ _ h=>h.elim⟩) (fun _ _ _=>D2.ex fun _=>B6.stable C4 _) hv57 hx (⟨q51,hq51,hO⟩) (by decide) (fun _=>rfl) (by kernel_rfl) (by kernel_rfl) ?_ ?_ ?_ ?_
    ·rintro E i61 y58 s59 F60 H hE ⟨q62,hq62,hO⟩;clear hx h;cbv;exact⟨(),⟨q62,hq62,hO⟩,.e4 .z,rfl⟩
    ·rintro E i61 _ y58 s59 F60 H o hE hF h ⟨q62,hq62,hO⟩;clear hx;cbv;refine JX hE (F0:=[]) (C0:=[.eref [.map m3] 0,.ref b6 0]) (args':=[(BL y58)]) (g:=fun r64=>.bool r64) h (fun r64 hx=>c61 N y58 l2 s12.2.2 r64 hx m3 o4 ho4 b6) (.refl _) (Qo (neC (hO.ne 7 6 rfl rfl (by decide)) (ne0)) (Qp _)) (atC (hO.get 7 rfl) (atC (hO.get 6 rfl) (at0))) fun r64 h=>?_;cbv;refine B1 hE hO 3 rfl ?_;cbv;refine B0 hE h (fun hc h=>?_) (fun hc h=>?_)
     ·cbv;refine A8 hE h (c42 N y58.On s27.2) (.refl _) fun r65 h=>?_;cbv;refine B0 hE h (fun hc h=>?_) (fun hc h=>?_)
      ·cbv;refine Dq hE (kt:=3) (et:=4) (by kernel_rfl) (by kernel_rfl) (R5 .i64) DN hO hq62 1 rfl h fun l67 o66 H ho66 h hO=>?_;cbv;cases h;exact⟨_,rfl,⟨o66,ho66,hO⟩⟩
      cbv;cases h;exact⟨_,rfl,⟨q62,hq62,hO⟩⟩
     cbv;cases h;exact⟨_,rfl,⟨q62,hq62,hO⟩⟩
    ·rintro d68 s71 H rfl hd ⟨q72,hq72,hO⟩;have hO:B6 Eq H0 (.blk m45 b55:: .blk m43 (.obj q72)::cb b19 [.bool s27.1]::cb b18 (U6 s27.2):: .tl t13:: .blk m15 (.obj q14)::cb b6 [vi s12.2.2]:: .blk m3 (.obj o4)::Bl (d68::ds52)) H:=B6.dbs1 (A:=[_,_,_,_,_,_,_,_]) (ds:=ds52) (B6.dblk hd hO);clear hd;clear hx;cbv;cases h;exact⟨p49,l54,_,q72,b55,_,hpp49,h0p49,.e rfl (.b rfl (.e rfl (.e rfl (.e rfl (.e rfl (.e rfl (.e rfl (.e rfl (.e rfl (.e rfl (.z))))))))))),rfl,hb55.1,hq72,hO⟩
    rintro d r e H rfl hd hO;exact hO.elim
   ·exact .e rfl (.b rfl (.e rfl (.e rfl (.e rfl (.e rfl (.e rfl (.e rfl (.e rfl (.e rfl (.e rfl (.z)))))))))))
   ·exact⟨ho44,hO⟩
   clear hx;rintro e l ds52 H ⟨q73,hq73,rfl,rfl,hO⟩;cbv;obtain⟨s74,hx,h⟩:=bind_some h;refine P0 cf19 hE K3 (fun e l H1=>∃u1:E5,K1 u1∧e= .normal∧l=[(1,.v (.eref (C6 aA) 0)),(2,.b false),(3,.v (.sl [] .nil)),fi 4 0,(7,.v (.ref b6 0)),(9,.v (.eref [.func (.func 61) [] [.eref [.map m3] 0,.ref b6 0]] 0)),(10,.v (.sl (lst eAA8 s74) u1)),(11,.v (.map m43))]∧B6 Eq H0 (.blk m43 (.obj q73)::cb b19 [.bool s27.1]::cb b18 (U6 s27.2):: .tl u1:: .blk m15 (.obj q14)::cb b6 [vi s12.2.2]:: .blk m3 (.obj o4)::Bl ds52) H1) (by kernel_rfl) ?_ ?_
   ·clear h;have h:=hx;clear hx;cbv;obtain⟨l196,el196,h⟩:=bind_some h;refine B1 hE hO 2 rfl ?_;cbv;refine T5 (f:=eAA8) hE EC (by decide) hO 3 rfl ht13 (l:=s12.1) (m:=[s27.2]) (.refl _) (.lstc (.eq (eAB8 s27.2) (.refl _)) (.lst0)) (FA el196) fun l196 t195 H hO ht195 hh=>?_;obtain rfl:=K8 hh;cbv;cases h;exact⟨_,⟨t195,ht195,rfl,rfl,hO⟩,.e rfl (.b rfl (.e rfl (.e rfl (.e rfl (.e rfl (.e rfl (.e rfl (.z)))))))),rfl⟩
   clear hx;rintro e l H ⟨t395,ht395,rfl,rfl,hO⟩;cbv;refine B1 hE hO 5 rfl ?_;cbv;refine A7 hE hO 5 rfl rfl fun H hO=>?_;cbv;have hO:B6 Eq H0 (.blk m15 (.obj q14)::cb b19 [.bool s27.1]::cb b18 (U6 s27.2):: .tl t395:: .blk m43 (.obj q73)::cb b6 [vi (ar .sub .i64 s12.2.2 1)]:: .blk m3 (.obj o4)::Bl ds52) H:=hO.swp 0 4 rfl rfl;cases h;exact⟨_,⟨t395,q73,m43⟩,_,rfl,.e rfl (.b rfl (.e rfl (.e rfl (.e rfl (.e rfl (.e rfl (.e rfl (.z)))))))),rfl,ht395,hq73,trivial,hO.tail.tail.tail⟩
  cbv;cases h;exact⟨_,_,_,rfl,⟨t13,ht13,q14,hq14,m15,trivial,rfl,rfl,hO⟩,.e rfl .z,rfl⟩
 ·exact .e rfl (.b rfl (.e rfl (.e rfl (.e rfl (.e rfl (.v (.slt _ (.lst0)) (.e rfl (.z))))))))
 ·exact⟨trivial,ho9,trivial,hO⟩
 clear hx;rintro e l ds16 H ⟨t396,ht396,q397,hq397,m398,hm398,rfl,rfl,hO⟩;cbv
 rcases ds16 with _|⟨d0,ds16⟩
 ·cbv;have hO:B6 _ _ [.tl t396,.blk m398 (.obj q397),cb b6 [vi s17.2.2],.blk m3 (.obj o4)] H:=hO;cases h;exact hK hO (.tup (.cons (.refl _) (.cons (.ro _ _) (.refl _))))
 cbv;refine Iu (A:=[_,_,_,_]) (ds:=d0::ds16) hE hO fun H hO=>?_;cbv;cases h;exact hK hO (.tup (.cons (.refl _) (.cons (.ro _ _) (.refl _))))
def cf21 :Cf:=⟨[],[(6,8)],[],[],[],[]⟩
theorem c21 (N aC aD r) (h:FG N aC aD=some r):C5 prog 21 [sr eAA8 aC,sr eAA8 aD] (.bool r):=by
 unfold FG at h
 refine P3 cf21 func21 call21 ntmps21 ?_;intro E H0 K hE hK hO;cbv;refine F3 hE ?_;cbv;refine F3 hE ?_;cbv;refine B0 hE h (fun _ h=>?_) fun _ h=>?_
 ·cbv;cases h;exact hK hO (.refl _)
 cbv;obtain⟨s2,hx,h⟩:=bind_some h;refine J5 cf21 hE K3 (fun s1=>[(0,.v (sr eAA8 aC)),(1,.v (sr eAA8 aD)),fi 5 s1]) (fun s1 H1=>B6 Eq H0 [] H1) (fun x e l H1=>match(generalizing:=false) x with| .inl y=>e= .exit 0∧l=[]∧B6 Eq H0 [] H1| .inr y=>e= .ret∧l=[(4,.b false)]∧B6 Eq H0 [] H1) (by kernel_rfl) ?_ hx ?_ hO ?_
 ·intro s1 H o hO h;clear hx;cbv;refine F3 hE ?_;cbv;refine B0 hE h (fun _ h=>?_) fun _ h=>?_
  ·cbv;refine D3 hE eAB8 h fun x3 h=>?_;cbv;refine D3 hE eAB8 h fun x4 h=>?_;cbv;refine B0 hE h (fun _ h=>?_) fun _ h=>?_
   ·cbv;cases h;exact⟨_,_,rfl,⟨rfl,rfl,hO⟩,.b rfl (.z),rfl⟩
   cbv;cases h;exact⟨_,rfl,.e rfl (.e2 .z),rfl,hO⟩
  cbv;cases h;exact⟨_,_,rfl,⟨rfl,rfl,hO⟩,.z,rfl⟩
 ·exact .e rfl (.e2 .z)
 clear hx
 rcases s2 with y5|y6
 ·rintro e l H ⟨rfl,rfl,hO⟩;cbv;cases h;exact hK hO (.refl _)
 rintro e l H ⟨rfl,rfl,hO⟩;cbv;cases h;exact hK hO (.refl _)
def cf118 :Cf:=⟨[7],[],[],[],[],[]⟩
theorem c118 (N aA r)(h:K0 N aA=some r):Li prog 118 [sr eAA4 aA] 2 (lst eAA4 r):=by
 unfold K0 at h
 intro H0;refine BK (T:=TT) cf118 K3 func118 (by rfl) (by kernel_rfl) call118 ntmps118 (by rfl) (by rfl) ?_;intro E K hE hK hN;have hO:B6 Eq H0 [] H0:=.start C4 rfl;cbv;refine VM hE rfl (fun hx=>?_) ?_
 ·cbv;exact hN (Qn hx h) [] H0 hO
 cbv;refine Sp (f:=eAA4) hE Y4 (by decide) hO (.inr rfl) (m:=aA) (CN (f:=eAA4) hE Y4 (.refl _)) h fun l q H hq hO h=>?_;cbv;cases h;exact hK q _ _ (Ah hE hq) hO
def cf71 :Cf:=⟨[2],[],[],[],[(22,21),(24,3)],[]⟩
theorem c71 (N aB r) (h:J9 N aB=some r):C5 prog 71 [(F2 aB)] ((F2 r)):=by
 unfold J9 at h
 refine P3 cf71 func71 call71 ntmps71 ?_;intro E H0 K hE hK hO;cbv;refine E6 hE hO fun b1 H hO=>?_;cbv;refine F3 hE ?_;cbv;refine PB hE (f:=eAB2) (by decide) (z0:=([]:List A4)) ((.eq (eAB4 _) (.lit _ (B4)))) hO h fun l3 q2 H hq2 h hO=>?_;cbv;refine F3 hE ?_;cbv;obtain⟨s6,hx,h⟩:=bind_some h;refine M1 cf71 hE K3 (γ:=OG) (fun s4 g=>[(2,.v (.ref b1 0)),(3,.v (.own g.id g.lo g.n)),(11,.v (sr eAB2 aB.cZ)),fi 12 (Ar.len aB.cZ),fi 13 s4.1]) (fun s4 g H1=>Al g (Ar.len s4.2)∧B6 Eq H0 [ob g 1 eAB2 s4.2,cb b1 [.sl [] .nil]] H1) (fun x e l H1=>∃u1:OG,Al u1 (Ar.len x)∧e= .exit 0∧l=[(2,.v (.ref b1 0)),(3,.v (.own u1.id u1.lo u1.n))]∧B6 Eq H0 [ob u1 1 eAB2 x,cb b1 [.sl [] .nil]] H1) (by kernel_rfl) ?_ q2 hx ?_ ?_ ?_
 ·rintro s4 q5 H o ⟨hq5,hO⟩ h;clear hx;cbv;refine B0 hE h (fun _ h=>?_) fun _ h=>?_
  ·cbv;refine D3 hE eAB4 h fun x7 h=>?_;cbv;refine EU hE (f:=eAA4) h (c118 N x7) (.refl _) hO fun l8 q9 H hq9 hO h=>?_;cbv;refine JV hE hO hq9 0 rfl fun H hO=>?_;cbv;refine Aq hE hO hq5 0 rfl h fun h=>?_;cbv;refine Bc hE (f:=eAB2) (esz:=1) (tz:=1) (off:=0) (u:=(fun x10:List A4=>l8)) (fun _=>⟨_,.eq (eAB4 _) (.refl _),(by rw[eAB4];rfl),Hu _,rfl⟩) (by decide) hO hq5 0 rfl h fun l11 H hq5 h hO=>?_;cbv;cases h;exact⟨_,q5,rfl,.e rfl (.e4 .z),rfl,hq5,hO⟩
  cbv;cases h;exact⟨_,_,rfl,⟨q5,hq5,rfl,rfl,hO⟩,.e2 .z,rfl⟩
 ·exact .e rfl (.e4 .z)
 ·exact⟨hq2,hO⟩
 clear hx;rintro e l H ⟨q12,hq12,rfl,rfl,hO⟩;cbv;refine JV hE hO hq12 0 rfl fun H hO=>?_;cbv;refine A7 hE hO 0 rfl rfl fun H hO=>?_;cbv;refine B1 hE hO 0 rfl ?_;cbv;cases h;exact hK hO (.refl _)
def cf82 :Cf:=⟨[2],[],[],[],[],[]⟩
theorem c82 (N aA r)(h:R4 N aA=some r):C5 prog 82 [(G3 aA)] (.tup [(G3 r.1),vi r.2]):=by
 unfold R4 at h
 refine P3 cf82 func82 call82 ntmps82 ?_;intro E H0 K hE hK hO;cbv;refine E6 hE hO fun b1 H hO=>?_;cbv;refine F3 hE ?_;cbv;refine F3 hE ?_;cbv;refine B0 hE h (fun _ h=>?_) fun _ h=>?_
 ·cbv;refine A7 hE hO 0 rfl rfl fun H hO=>?_;cbv;refine B1 hE hO 0 rfl ?_;cbv;cases h;exact hK hO (.tup (.cons (.agg (.cons (.refl _) (.cons (.lit _ (B4)) (.cons (.lit _ (B4)) (.refl _))))) (.refl _)))
 cbv;refine A7 hE hO 0 rfl rfl fun H hO=>?_;cbv;refine B1 hE hO 0 rfl ?_;cbv;cases h;exact hK hO (.refl _)
def cf29 :Cf:=⟨[2,5],[(10,10),(15,13),(3000004,0),(3000004,1),(3000004,2),(3000004,3),(3000004,4),(3000004,5),(3000004,7),(3000005,0),(3000005,1),(3000005,2),(3000005,3),(3000005,4),(3000005,5),(3000005,7)],[],[2000004,2000005],[(83,2000005)],[]⟩
set_option maxHeartbeats 2000000 in
theorem c29 (N aA r) (h:Z0 N aA=some r):C5 prog 29 [(G3 aA)] (.tup [(G3 r.1),vi r.2]):=by
 unfold Z0 at h
 refine P3 cf29 func29 call29 ntmps29 ?_;intro E H0 K hE hK hO;cbv;refine E6 hE hO fun b1 H hO=>?_;cbv;refine A8 hE h (c13 N aA) (.refl _) fun r2 h=>?_;cbv;refine B0 hE h (fun _ h=>?_) fun _ h=>?_
 ·cbv;refine A7 hE hO 0 rfl rfl fun H hO=>?_;cbv;refine B1 hE hO 0 rfl ?_;cbv;cases h;exact hK hO (.tup (.cons (.agg (.cons (.refl _) (.cons (.lit _ (B4)) (.cons (.lit _ (B4)) (.refl _))))) (.refl _)))
 cbv;obtain⟨s3,hx,h⟩:=bind_some h;refine P0 cf29 hE K3 (fun e l H1=>∃u1:Nat,True∧∃u2:OG,Al u2 (Ar.len s3)∧e= .normal∧l=[(1,.v (.eref (C6 aA) 0)),(2,.v (.ref b1 0)),(5,.v (.ref u1 0))]∧B6 Eq H0 [cb u1 [vi aA.cW,.own u2.id u2.lo u2.n,.sl [] .nil],ob u2 1 V.bool s3,cb b1 [vi 0,.sl [] .nil,.sl [] .nil]] H1) (by kernel_rfl) ?_ ?_
 ·clear h;have h:=hx;clear hx;cbv;obtain⟨l245,el245,h⟩:=bind_some h;refine F3 hE ?_;cbv
  repeat' first|refine And.intro ?_ ?_|(refine PB hE (f:=V.bool) (by decide) (z0:=(false:Bool)) ((.refl _)) hO (FA el245) fun l245 q244 H hq244 hh hO=>?_;obtain rfl:=K8 hh;cbv)|(refine E6 hE hO fun b324 H hO=>?_;cbv)|(refine A7 hE hO 0 rfl rfl fun H hO=>?_;cbv)|(have h:=K8 h;subst h;exact⟨_,⟨b324,trivial,q244,hq244,rfl,rfl,hO⟩,.e rfl (.e2 .z),rfl⟩)|(refine A7 hE hO 1 rfl rfl fun H hO=>?_;cbv)|(have hO:B6 Eq H0 [cb b324 [vi aA.cW,.own q244.id q244.lo q244.n,.sl [] .nil],ob q244 1 V.bool l245,cb b1 [vi 0,.sl [] .nil,.sl [] .nil]] H:=hO.swp 1 0 rfl rfl;have h:=K8 h;subst h;exact⟨_,⟨b324,trivial,q244,hq244,rfl,rfl,hO⟩,.e rfl (.e2 .z),rfl⟩)
 clear hx;rintro e l H ⟨b444,hb444,q445,hq445,rfl,rfl,hO⟩;cbv;obtain⟨s446,hx,h⟩:=bind_some h;refine P0 cf29 hE K3 (fun e l H1=>∃u1:OG,Al u1 (Ar.len s446)∧e= .normal∧l=[(1,.v (.eref (C6 aA) 0)),(2,.v (.ref b1 0)),(5,.v (.ref b444 0))]∧B6 Eq H0 [cb b444 [vi aA.cW,.own u1.id u1.lo u1.n,.sl [] .nil],ob u1 1 V.bool s446,cb b1 [vi 0,.sl [] .nil,.sl [] .nil]] H1) (by kernel_rfl) ?_ ?_
 ·clear h;have h:=hx;clear hx;cbv;obtain⟨x687,ex687,h⟩:=bind_some h;obtain⟨u766_0,eu766_0,h⟩:=bind_some h;obtain⟨l808,el808,h⟩:=bind_some h;obtain⟨u846_0,eu846_0,h⟩:=bind_some h;obtain⟨l888,el888,h⟩:=bind_some h
  repeat' first|refine And.intro ?_ ?_|(refine B1 hE hO 0 rfl ?_;cbv)|(refine D3 hE (fun _=>rfl) (FA ex687) fun x687 hh=>?_;obtain rfl:=K8 hh;cbv)|(refine Aq hE hO hq445 1 rfl (FA eu766_0) fun hh=>?_;clear hh;cbv)|(refine Bc hE (f:=V.bool) (esz:=1) (tz:=1) (off:=0) (u:=(fun x807:Bool=>x687)) (fun _=>⟨.bool x687,.refl _,rfl,rfl,rfl⟩) (by decide) hO hq445 1 rfl (FA el808) fun l808 H hq445 hh hO=>?_;obtain rfl:=K8 hh;cbv)|(refine Aq hE hO hq445 1 rfl (FA eu846_0) fun hh=>?_;clear hh;cbv)|(refine Bc hE (f:=V.bool) (esz:=1) (tz:=1) (off:=0) (u:=(fun x887:Bool=>true)) (fun _=>⟨.bool true,.refl _,rfl,rfl,rfl⟩) (by decide) hO hq445 1 rfl (FA el888) fun l888 H hq445 hh hO=>?_;obtain rfl:=K8 hh;cbv)|(have h:=K8 h;subst h;exact⟨_,⟨q445,hq445,rfl,rfl,hO⟩,.e rfl (.e2 .z),rfl⟩)
 clear hx;rintro e l H ⟨q967,hq967,rfl,rfl,hO⟩;cbv;refine F3 hE ?_;cbv;replace hO:=hO.cast (L':=[cb b444 [vi aA.cW,.own q967.id q967.lo q967.n,.sl (lst eAA5 ([])) .nil],ob q967 1 V.bool s446,cb b1 [vi 0,.sl [] .nil,.sl [] .nil]]) (by simp only[ob,cb,sr,←B4]<;>rfl);replace hO:=hO.tl0 (t:=.nil) rfl;obtain⟨s970,hx,h⟩:=bind_some h;refine M1 cf29 hE K3 (γ:=E5) (fun s968 g=>[(1,.v (.eref (C6 aA) 0)),(2,.v (.ref b1 0)),(5,.v (.ref b444 0)),(35,.v (sr eAA5 aA.cV)),fi 36 (Ar.len aA.cV),fi 37 s968.1]) (fun s968 g H1=>K1 g∧B6 Eq H0 [.tl g,cb b444 [vi s968.2.cW,.own q967.id q967.lo q967.n,.sl (lst eAA5 s968.2.cV) g],ob q967 1 V.bool s446,cb b1 [vi 0,.sl [] .nil,.sl [] .nil]] H1) (fun x e l H1=>∃u1:E5,K1 u1∧e= .exit 0∧l=[(1,.v (.eref (C6 aA) 0)),(2,.v (.ref b1 0)),(5,.v (.ref b444 0))]∧B6 Eq H0 [.tl u1,cb b444 [vi x.cW,.own q967.id q967.lo q967.n,.sl (lst eAA5 x.cV) u1],ob q967 1 V.bool s446,cb b1 [vi 0,.sl [] .nil,.sl [] .nil]] H1) (by kernel_rfl) ?_ .nil hx ?_ ?_ ?_
 ·rintro s968 t969 H o ⟨ht969,hO⟩ h;clear hx;cbv;refine B0 hE h (fun _ h=>?_) fun _ h=>?_
  ·cbv;refine D3 hE eAB1 h fun x971 h=>?_;cbv;refine D3 hE (fun _=>rfl) h fun x972 h=>?_;cbv;refine B0 hE h (fun _ h=>?_) fun _ h=>?_
   ·cbv;refine B1 hE hO 1 rfl ?_;cbv;refine M0 hE (g:=fun r973=>(F2 r973)) h (c71 N x971.On) (.refl _) fun r973 h=>?_;cbv;refine T5 (f:=eAA5) hE Ck (by decide) hO 0 rfl ht969 (l:=s968.2.cV) (m:=[(⟨0,ar .add .i64 x971.cX 1,r973⟩:C3)]) (.refl _) (.lstc (.eq (eAB1 (⟨0,ar .add .i64 x971.cX 1,r973⟩:C3)) (.refl _)) (.lst0)) h fun l975 t974 H hO ht974 h=>?_;cbv;refine A7 hE hO 1 rfl rfl fun H hO=>?_;cbv;cases h;exact⟨_,t974,rfl,.e2 (.e4 .z),rfl,ht974,hO⟩
   cbv;cases h;exact⟨_,t969,rfl,.e2 (.e4 .z),rfl,ht969,hO⟩
  cbv;cases h;exact⟨_,_,rfl,⟨t969,ht969,rfl,rfl,hO⟩,.e rfl (.e2 .z),rfl⟩
 ·exact .e2 (.e4 .z)
 ·exact⟨trivial,hO⟩
 clear hx;rintro e l H ⟨t976,ht976,rfl,rfl,hO⟩;cbv;refine F3 hE ?_;cbv;obtain⟨s979,hx,h⟩:=bind_some h;refine M1 cf29 hE K3 (γ:=E5) (fun s977 g=>[(2,.v (.ref b1 0)),(5,.v (.ref b444 0)),(61,.v (sr eAA5 aA.cV)),fi 62 (Ar.len aA.cV),fi 63 s977.1]) (fun s977 g H1=>K1 g∧B6 Eq H0 [.tl g,cb b444 [vi s977.2.cW,.own q967.id q967.lo q967.n,.sl (lst eAA5 s977.2.cV) g],ob q967 1 V.bool s446,cb b1 [vi 0,.sl [] .nil,.sl [] .nil]] H1) (fun x e l H1=>∃u1:E5,K1 u1∧e= .exit 2∧l=[(2,.v (.ref b1 0)),(5,.v (.ref b444 0))]∧B6 Eq H0 [.tl u1,cb b444 [vi x.cW,.own q967.id q967.lo q967.n,.sl (lst eAA5 x.cV) u1],ob q967 1 V.bool s446,cb b1 [vi 0,.sl [] .nil,.sl [] .nil]] H1) (by kernel_rfl) ?_ t976 hx ?_ ?_ ?_
 ·rintro s977 t978 H o ⟨ht978,hO⟩ h;clear hx;cbv;refine B0 hE h (fun _ h=>?_) fun _ h=>?_
  ·cbv;refine D3 hE eAB1 h fun x980 h=>?_;cbv;refine B1 hE hO 1 rfl ?_;cbv;refine M0 hE (g:=fun r981=>(F2 r981)) h (c71 N x980.On) (.refl _) fun r981 h=>?_;cbv;refine T5 (f:=eAA5) hE Ck (by decide) hO 0 rfl ht978 (l:=s977.2.cV) (m:=[(⟨ar .add .i64 x980.To 1,ar .add .i64 x980.cX 1,r981⟩:C3)]) (.refl _) (.lstc (.eq (eAB1 (⟨ar .add .i64 x980.To 1,ar .add .i64 x980.cX 1,r981⟩:C3)) (.refl _)) (.lst0)) h fun l983 t982 H hO ht982 h=>?_;cbv;refine A7 hE hO 1 rfl rfl fun H hO=>?_;cbv;cases h;exact⟨_,t982,rfl,.e rfl (.e4 .z),rfl,ht982,hO⟩
  cbv;cases h;exact⟨_,_,rfl,⟨t978,ht978,rfl,rfl,hO⟩,.e2 .z,rfl⟩
 ·exact .e rfl (.e4 .z)
 ·exact⟨ht976,hO⟩
 clear hx;rintro e l H ⟨t984,ht984,rfl,rfl,hO⟩;cbv;refine WY hE hO hq967 1 2 rfl rfl rfl (by decide) fun H hO=>?_;cbv;refine B1 hE hO 1 rfl ?_;cbv;refine A8 hE h (c82 N ({s979 with cU:=s446})) (.cons (.agg (.cons (.refl _) (.cons (.refl _) (.cons (.ro _ _) (.refl _))))) (.refl _)) fun r985 h=>?_;cbv;refine A7 hE hO 2 rfl rfl fun H hO=>?_;cbv;refine B1 hE hO 2 rfl ?_;cbv;cases h;exact hK hO (.refl _)
def cf35 :Cf:=⟨[4],[],[],[],[],[]⟩
theorem c35 (N bF bG r)(h:Ct N bF bG=some r):C5 prog 35 [vi bF,vi bG] ((F2 r)):=by
 unfold Ct at h
 refine P3 cf35 func35 call35 ntmps35 ?_;intro E H0 K hE hK hO;cbv;refine E6 hE hO fun b1 H hO=>?_;cbv;refine A7 hE hO 0 rfl rfl fun H hO=>?_;cbv;refine B1 hE hO 0 rfl ?_;cbv;cases h;exact hK hO (.agg (.cons (.sl _ (.lstc (.eq (eAB4 ([(⟨bF,bG⟩:A4)])) (.lit _ (D4 ((eAB5 (⟨bF,bG⟩:A4)).symm) (B4)))) (.lst0))) (.refl _)))
theorem c36 (N aG r) (h:EH N aG=some r):C5 prog 36 [sr (V.int .i64) aG] (sr eAA8 r):=by
 unfold EH at h
 refine P3 cf0 func36 call36 ntmps36 ?_;intro E H0 K hE hK hO;cbv;refine F3 hE ?_;cbv;replace hO:=hO.tl0 (t:=.nil) rfl;obtain⟨s3,hx,h⟩:=bind_some h;refine M1 cf0 hE K3 (γ:=E5) (fun s1 g=>[(3,.v (.sl (lst eAA8 s1.1) g)),(6,.v (sr (V.int .i64) aG)),fi 7 (Ar.len aG),fi 8 s1.2]) (fun s1 g H1=>K1 g∧B6 Eq H0 [.tl g] H1) (fun x e l H1=>∃u1:E5,K1 u1∧e= .exit 0∧l=[(3,.v (.sl (lst eAA8 x) u1))]∧B6 Eq H0 [.tl u1] H1) (by kernel_rfl) ?_ .nil hx ?_ ?_ ?_
 ·rintro s1 t2 H o ⟨ht2,hO⟩ h;clear hx;cbv;refine B0 hE h (fun _ h=>?_) fun _ h=>?_
  ·cbv;refine D3 hE (fun _=>rfl) h fun x4 h=>?_;cbv;refine T5 (f:=eAA8) hE EC (by decide) hO 0 rfl ht2 (l:=s1.1) (m:=[(⟨0,x4⟩:B8)]) (.refl _) (.lstc (.eq (eAB8 (⟨0,x4⟩:B8)) (.refl _)) (.lst0)) h fun l6 t5 H hO ht5 h=>?_;cbv;cases h;exact⟨_,t5,rfl,.e4 .z,rfl,ht5,hO⟩
  cbv;cases h;exact⟨_,_,rfl,⟨t2,ht2,rfl,rfl,hO⟩,.e rfl .z,rfl⟩
 ·exact .v (.slt _ (.lst0)) (.e rfl (.e2 .z))
 ·exact⟨trivial,hO⟩
 clear hx;rintro e l H ⟨t7,ht7,rfl,rfl,hO⟩;cbv;cases h;exact hK hO (.ro _ _)
def cf38 :Cf:=⟨[2],[],[],[],[],[]⟩
theorem c38 (N aD r)(h:Ls N aD=some r):C5 prog 38 [.bool aD] ((Ov r)):=by
 unfold Ls at h
 refine P3 cf38 func38 call38 ntmps38 ?_;intro E H0 K hE hK hO;cbv;refine E6 hE hO fun b1 H hO=>?_;cbv;refine B0 hE h (fun _ h=>?_) fun _ h=>?_
 ·cbv;refine A7 hE hO 0 rfl rfl fun H hO=>?_;cbv;refine B1 hE hO 0 rfl ?_;cbv;cases h;exact hK hO (.refl _)
 cbv;refine A7 hE hO 0 rfl rfl fun H hO=>?_;cbv;refine B1 hE hO 0 rfl ?_;cbv;cases h;exact hK hO (.refl _)
def cf37 :Cf:=⟨[2],[],[],[],[],[]⟩
theorem c37 (N aQ r)(h:EV N aQ=some r):C5 prog 37 [vi aQ] ((D7 r)):=by
 unfold EV at h
 refine P3 cf37 func37 call37 ntmps37 ?_;intro E H0 K hE hK hO;cbv;refine E6 hE hO fun b1 H hO=>?_;cbv;refine A8 hE h (c38 N true) (.refl _) fun r2 h=>?_;cbv;refine A7 hE hO 0 rfl rfl fun H hO=>?_;cbv;refine B1 hE hO 0 rfl ?_;cbv;cases h;exact hK hO (.agg (.cons (.refl _) (.cons (.lit _ (B4)) (.cons (.refl _) (.cons (.refl _) (.cons (.refl _) (.cons (.refl _) (.cons (.refl _) (.cons (.lit _ (B4)) (.refl _))))))))))
def cf10 :Cf:=⟨[],[(17,22)],[],[],[],[]⟩
theorem c10 (N r) (h:DO N=some r):C5 prog 10 [] (.bool r):=by
 unfold DO at h
 refine P3 cf10 func10 call10 ntmps10 ?_;intro E H0 K hE hK hO;cbv;refine A8 hE h (c35 N 1 5) (.refl _) fun r1 h=>?_;cbv;refine A8 hE h (c35 N 4 9) (.refl _) fun r2 h=>?_;cbv;refine A8 hE h (c36 N ([4])) (.cons (.lit _ (D4 (rfl) (B4))) (.refl _)) fun r3 h=>?_;cbv;refine A8 hE h (c36 N ([1,4])) (.cons (.lit _ (D4 (rfl) (D4 (rfl) (B4)))) (.refl _)) fun r4 h=>?_;cbv;refine A8 hE h (c36 N ([1])) (.cons (.lit _ (D4 (rfl) (B4))) (.refl _)) fun r5 h=>?_;cbv;refine Aa6 hE (n:=3) rfl ?_;cbv;obtain⟨s7,hx,h⟩:=bind_some h;refine J5 cf10 hE K3 (fun s6=>[(1,.v (.eref [vi 1,.sl [.bool false,.bool true] .full,.sl [.agg [vi 0,vi 0,sr eAB2 r1.cZ],.agg [vi 0,vi 1,sr eAB2 r2.cZ]] .full] 0)),(29,.v (sr eAE6 ([r3,r4,r5]))),fi 30 3,fi 31 s6]) (fun s6 H1=>B6 Eq H0 [] H1) (fun x e l H1=>match(generalizing:=false) x with| .inl y=>e= .exit 0∧l=[(1,.v (.eref [vi 1,.sl [.bool false,.bool true] .full,.sl [.agg [vi 0,vi 0,sr eAB2 r1.cZ],.agg [vi 0,vi 1,sr eAB2 r2.cZ]] .full] 0))]∧B6 Eq H0 [] H1| .inr y=>e= .ret∧l=[(0,.b false)]∧B6 Eq H0 [] H1) (by kernel_rfl) ?_ hx ?_ hO ?_
 ·intro s6 H o hO h;clear hx;cbv;refine B0 hE h (fun _ h=>?_) fun _ h=>?_
  ·cbv;refine D3 hE eAE1 h fun x8 h=>?_;cbv;refine A8 hE h (c11 N (⟨1,[false,true],[(⟨0,0,r1⟩:C3),(⟨0,1,r2⟩:C3)]⟩:A0) x8) (.cons (.agg (.cons (.refl _) (.cons (.lit _ (D4 (rfl) (D4 (rfl) (B4)))) (.cons (.lit _ (D4 ((eAB1 (⟨0,0,r1⟩:C3)).symm) (D4 ((eAB1 (⟨0,1,r2⟩:C3)).symm) (B4)))) (.refl _))))) (.refl _)) fun r9 h=>?_;cbv;refine B0 hE h (fun _ h=>?_) fun _ h=>?_
   ·cbv;cases h;exact⟨_,_,rfl,⟨rfl,rfl,hO⟩,.b rfl (.z),rfl⟩
   cbv;cases h;exact⟨_,rfl,.e4 .z,rfl,hO⟩
  cbv;cases h;exact⟨_,_,rfl,⟨rfl,rfl,hO⟩,.e rfl .z,rfl⟩
 ·exact .e rfl (.v (.lit _ (D4 ((eAE1 r3).symm) (D4 ((eAE1 r4).symm) (D4 ((eAE1 r5).symm) (B4))))) (.e rfl (.e rfl (.z))))
 clear hx
 rcases s7 with y10|y24
 ·rintro e l H ⟨rfl,rfl,hO⟩;cbv;refine A8 hE h (c19 N (⟨1,[false,true],[(⟨0,0,r1⟩:C3),(⟨0,1,r2⟩:C3)]⟩:A0)) (.cons (.agg (.cons (.refl _) (.cons (.lit _ (D4 (rfl) (D4 (rfl) (B4)))) (.cons (.lit _ (D4 ((eAB1 (⟨0,0,r1⟩:C3)).symm) (D4 ((eAB1 (⟨0,1,r2⟩:C3)).symm) (B4)))) (.refl _))))) (.refl _)) fun r11 h=>?_;cbv;refine A8 hE h (c29 N (⟨1,[false,true],[(⟨0,0,r1⟩:C3),(⟨0,1,r2⟩:C3)]⟩:A0)) (.cons (.agg (.cons (.refl _) (.cons (.lit _ (D4 (rfl) (D4 (rfl) (B4)))) (.cons (.lit _ (D4 ((eAB1 (⟨0,0,r1⟩:C3)).symm) (D4 ((eAB1 (⟨0,1,r2⟩:C3)).symm) (B4)))) (.refl _))))) (.refl _)) fun r12 h=>?_;cbv;refine A8 hE h (c37 N 0) (.refl _) fun r13 h=>?_;cbv;refine A8 hE h (c37 N 1) (.refl _) fun r14 h=>?_;cbv;refine A8 hE h (c16 N ([(⟨(⟨#[97]⟩:ByteArray),[]⟩:BX)]) (⟨1,[r13,(⟨4,[r14],0,0,0,0,(⟨0,[],0,0,0,(⟨0,0,⟨#[]⟩⟩:X0)⟩:L7)⟩:A9)],0,0,0,0,(⟨0,[],0,0,0,(⟨0,0,⟨#[]⟩⟩:X0)⟩:L7)⟩:A9)) (.cons (.sl _ (.lstc (.eq (eAD9 (⟨(⟨#[97]⟩:ByteArray),[]⟩:BX)) (.agg (.cons (.refl _) (.cons (.lit _ (B4)) (.refl _))))) (.lst0))) (.cons (.agg (.cons (.refl _) (.cons (.sl _ (.lstc (.eq (eAB3 r13) (.refl _)) (.lstc (.eq (eAB3 (⟨4,[r14],0,0,0,0,(⟨0,[],0,0,0,(⟨0,0,⟨#[]⟩⟩:X0)⟩:L7)⟩:A9)) (.agg (.cons (.refl _) (.cons (.lit _ (D4 ((eAB3 r14).symm) (B4))) (.cons (.refl _) (.cons (.refl _) (.cons (.refl _) (.cons (.refl _) (.cons (.refl _) (.cons (.lit _ (B4)) (.refl _))))))))))) (.lst0)))) (.cons (.refl _) (.cons (.refl _) (.cons (.refl _) (.cons (.refl _) (.cons (.refl _) (.cons (.lit _ (B4)) (.refl _)))))))))) (.refl _))) fun r15 h=>?_;cbv;refine A8 hE h (c35 N (-1099511627776) 1099511627776) (.refl _) fun r16 h=>?_;cbv;refine B0 hE h (fun _ h=>?_) fun _ h=>?_
  ·cbv;cases h;exact hK hO (.refl _)
  cbv;refine A8 hE h (c36 N ([4])) (.cons (.lit _ (D4 (rfl) (B4))) (.refl _)) fun r17 h=>?_;cbv;refine A8 hE h (c21 N r11.2.1 r17) (.refl _) fun r18 h=>?_;cbv;refine B0 hE h (fun _ h=>?_) fun _ h=>?_
  ·cbv;cases h;exact hK hO (.refl _)
  cbv;refine M0 hE (g:=fun r19=>(F2 r19)) h (c35 N 4 9) (.refl _) fun r19 h=>?_;cbv;refine M0 hE (g:=fun r20=>(F2 r20)) h (c35 N 1 5) (.refl _) fun r20 h=>?_;cbv;refine M0 hE (g:=fun r21=>(F2 r21)) h (c35 N 4 9) (.refl _) fun r21 h=>?_;cbv;refine M0 hE (g:=fun r22=>.bool r22) h (c18 N r12.1 (⟨1,[false,true,false],[(⟨0,1,r19⟩:C3),(⟨1,1,r20⟩:C3),(⟨2,1,r21⟩:C3)]⟩:A0)) (.cons (.refl _) (.cons (.agg (.cons (.refl _) (.cons (.lit _ (D4 (rfl) (D4 (rfl) (D4 (rfl) (B4))))) (.cons (.lit _ (D4 ((eAB1 (⟨0,1,r19⟩:C3)).symm) (D4 ((eAB1 (⟨1,1,r20⟩:C3)).symm) (D4 ((eAB1 (⟨2,1,r21⟩:C3)).symm) (B4))))) (.refl _))))) (.refl _))) fun r22 h=>?_;cbv;refine B0 hE h (fun _ h=>?_) fun _ h=>?_
  ·cbv;refine A8 hE h (c18 N r15.1 (⟨1,[false,false,true],[(⟨0,1,r16⟩:C3),(⟨1,2,r16⟩:C3),(⟨1,1,r16⟩:C3)]⟩:A0)) (.cons (.refl _) (.cons (.agg (.cons (.refl _) (.cons (.lit _ (D4 (rfl) (D4 (rfl) (D4 (rfl) (B4))))) (.cons (.lit _ (D4 ((eAB1 (⟨0,1,r16⟩:C3)).symm) (D4 ((eAB1 (⟨1,2,r16⟩:C3)).symm) (D4 ((eAB1 (⟨1,1,r16⟩:C3)).symm) (B4))))) (.refl _))))) (.refl _))) fun r23 h=>?_;cbv;cases h;exact hK hO (.refl _)
  cbv;cases h;exact hK hO (.refl _)
 rintro e l H ⟨rfl,rfl,hO⟩;cbv;cases h;exact hK hO (.refl _)
theorem c166 (N aI r)(h:JL N aI=some r):C5 prog 166 [vi aI] (.bool r):=by
 unfold JL at h
 refine P3 cf0 func166 call166 ntmps166 ?_;intro E H0 K hE hK hO;cbv;cases h;exact hK hO (.refl _)
theorem c127 (N aH r)(h:HR N aH=some r):C5 prog 127 [(V2 aH)] (vi r):=by
 unfold HR at h
 refine P3 cf0 func127 call127 ntmps127 ?_;intro E H0 K hE hK hO;cbv;refine A8 hE h (c166 N aH.Low) (.refl _) fun r1 h=>?_;cbv;refine B0 hE h (fun _ h=>?_) fun _ h=>?_
 ·cbv;cases h;exact hK hO (.refl _)
 cbv;refine A8 hE h (c166 N aH.dC) (.refl _) fun r2 h=>?_;cbv;refine B0 hE h (fun _ h=>?_) fun _ h=>?_
 ·cbv;cases h;exact hK hO (.refl _)
 cbv;refine B0 hE h (fun _ h=>?_) fun _ h=>?_
 ·cbv;cases h;exact hK hO (.refl _)
 cbv;cases h;exact hK hO (.refl _)
def cf95 :Cf:=⟨[],[(9,15)],[],[],[],[]⟩
theorem c95 (N aG r) (h:Fv N aG=some r):C5 prog 95 [sr eAA4 aG] (vi r):=by
 unfold Fv at h
 refine P3 cf95 func95 call95 ntmps95 ?_;intro E H0 K hE hK hO;cbv;refine F3 hE ?_;cbv;refine B0 hE h (fun _ h=>?_) fun _ h=>?_
 ·cbv;cases h;exact hK hO (.refl _)
 cbv;obtain⟨s2,hx,h⟩:=bind_some h;refine J5 cf95 hE K3 (fun s1=>[(0,.v (sr eAA4 aG)),fi 3 s1]) (fun s1 H1=>B6 Eq H0 [] H1) (fun x e l H1=>match(generalizing:=false) x with| .inl y=>e= .exit 0∧l=[]∧B6 Eq H0 [] H1| .inr y=>e= .ret∧l=[fi 2 y]∧B6 Eq H0 [] H1) (by kernel_rfl) ?_ hx ?_ hO ?_
 ·intro s1 H o hO h;clear hx;cbv;refine F3 hE ?_;cbv;refine B0 hE h (fun _ h=>?_) fun _ h=>?_
  ·cbv;refine D3 hE eAB5 h fun x3 h=>?_;cbv;refine A8 hE h (c127 N x3) (.refl _) fun r4 h=>?_;cbv;refine B0 hE h (fun _ h=>?_) fun _ h=>?_
   ·cbv;cases h;exact⟨_,_,rfl,⟨rfl,rfl,hO⟩,.e rfl .z,rfl⟩
   cbv;refine B0 hE h (fun _ h=>?_) fun _ h=>?_
   ·cbv;refine D3 hE eAB5 h fun x5 h=>?_;cbv;refine D3 hE eAB5 h fun x6 h=>?_;cbv;refine B0 hE h (fun _ h=>?_) fun _ h=>?_
    ·cbv;cases h;exact⟨_,_,rfl,⟨rfl,rfl,hO⟩,.e rfl .z,rfl⟩
    cbv;cases h;exact⟨_,rfl,.e2 .z,rfl,hO⟩
   cbv;cases h;exact⟨_,rfl,.e2 .z,rfl,hO⟩
  cbv;cases h;exact⟨_,_,rfl,⟨rfl,rfl,hO⟩,.z,rfl⟩
 ·exact .e2 .z
 clear hx
 rcases s2 with y7|y8
 ·rintro e l H ⟨rfl,rfl,hO⟩;cbv;cases h;exact hK hO (.refl _)
 rintro e l H ⟨rfl,rfl,hO⟩;cbv;cases h;exact hK hO (.refl _)
theorem c47 (N aK aB r) (h:Fu N aK aB=some r):C5 prog 47 [vi aK,(F2 aB)] (vi r):=by
 unfold Fu at h
 refine P3 cf0 func47 call47 ntmps47 ?_;intro E H0 K hE hK hO;cbv;refine B0 hE h (fun _ h=>?_) fun _ h=>?_
 ·cbv;cases h;exact hK hO (.refl _)
 cbv;refine F3 hE ?_;cbv;refine B0 hE h (fun _ h=>?_) fun _ h=>?_
 ·cbv;cases h;exact hK hO (.refl _)
 cbv;obtain⟨s2,hx,h⟩:=bind_some h;refine J5 cf0 hE K3 (fun s1=>[fi 0 aK,(3,.v (.eref (N1 aB) 0)),fi 5 s1]) (fun s1 H1=>B6 Eq H0 [] H1) (fun x e l H1=>match(generalizing:=false) x with| .inl y=>e= .exit 0∧l=[]∧B6 Eq H0 [] H1| .inr y=>e= .ret∧l=[fi 4 y]∧B6 Eq H0 [] H1) (by kernel_rfl) ?_ hx ?_ hO ?_
 ·intro s1 H o hO h;clear hx;cbv;refine B0 hE h (fun _ h=>?_) fun _ h=>?_
  ·cbv;refine D3 hE eAB4 h fun x3 h=>?_;cbv;refine A8 hE h (c95 N x3) (.refl _) fun r4 h=>?_;cbv;refine B0 hE h (fun _ h=>?_) fun _ h=>?_
   ·cbv;cases h;exact⟨_,_,rfl,⟨rfl,rfl,hO⟩,.e rfl .z,rfl⟩
   cbv;cases h;exact⟨_,rfl,.e rfl (.e2 .z),rfl,hO⟩
  cbv;cases h;exact⟨_,_,rfl,⟨rfl,rfl,hO⟩,.z,rfl⟩
 ·exact .e rfl (.e2 .z)
 clear hx
 rcases s2 with y5|y6
 ·rintro e l H ⟨rfl,rfl,hO⟩;cbv;cases h;exact hK hO (.refl _)
 rintro e l H ⟨rfl,rfl,hO⟩;cbv;cases h;exact hK hO (.refl _)
theorem c14 (N aA r) (h:Ft N aA=some r):C5 prog 14 [(G3 aA)] (vi r):=by
 unfold Ft at h
 refine P3 cf0 func14 call14 ntmps14 ?_;intro E H0 K hE hK hO;cbv;refine B0 hE h (fun _ h=>?_) fun _ h=>?_
 ·cbv;cases h;exact hK hO (.refl _)
 cbv;refine F3 hE ?_;cbv;refine F3 hE ?_;cbv;refine B0 hE h (fun _ h=>?_) fun _ h=>?_
 ·cbv;cases h;exact hK hO (.refl _)
 cbv;obtain⟨s2,hx,h⟩:=bind_some h;refine J5 cf0 hE K3 (fun s1=>[(1,.v (.eref (C6 aA) 0)),fi 3 (Ar.len aA.cU),fi 4 s1]) (fun s1 H1=>B6 Eq H0 [] H1) (fun x e l H1=>match(generalizing:=false) x with| .inl y=>e= .exit 0∧l=[]∧B6 Eq H0 [] H1| .inr y=>e= .ret∧l=[fi 2 y]∧B6 Eq H0 [] H1) (by kernel_rfl) ?_ hx ?_ hO ?_
 ·intro s1 H o hO h;clear hx;cbv;refine F3 hE ?_;cbv;refine B0 hE h (fun _ h=>?_) fun _ h=>?_
  ·cbv;refine D3 hE eAB1 h fun x3 h=>?_;cbv;refine B0 hE h (fun _ h=>?_) fun _ h=>?_
   ·cbv;cases h;exact⟨_,_,rfl,⟨rfl,rfl,hO⟩,.e rfl .z,rfl⟩
   cbv;refine A8 hE h (c47 N aA.cW x3.On) (.refl _) fun r4 h=>?_;cbv;refine B0 hE h (fun _ h=>?_) fun _ h=>?_
   ·cbv;cases h;exact⟨_,_,rfl,⟨rfl,rfl,hO⟩,.e rfl .z,rfl⟩
   cbv;cases h;exact⟨_,rfl,.e rfl (.e2 .z),rfl,hO⟩
  cbv;cases h;exact⟨_,_,rfl,⟨rfl,rfl,hO⟩,.z,rfl⟩
 ·exact .e rfl (.e2 .z)
 clear hx
 rcases s2 with y5|y6
 ·rintro e l H ⟨rfl,rfl,hO⟩;cbv;cases h;exact hK hO (.refl _)
 rintro e l H ⟨rfl,rfl,hO⟩;cbv;cases h;exact hK hO (.refl _)
theorem c43 (N aK aA r)(h:Av N aK aA=some r):C5 prog 43 [vi aK,(Fq aA)] (vi r):=by
 unfold Av at h
 refine P3 cf0 func43 call43 ntmps43 ?_;intro E H0 K hE hK hO;cbv;refine B0 hE h (fun _ h=>?_) fun _ h=>?_
 ·cbv;cases h;exact hK hO (.refl _)
 cbv;refine B0 hE h (fun _ h=>?_) fun _ h=>?_
 ·cbv;cases h;exact hK hO (.refl _)
 cbv;cases h;exact hK hO (.refl _)
theorem c165 (N aG aI r) (h:HS N aG aI=some r):C5 prog 165 [sr eAA4 aG,vi aI] (.bool r):=by
 unfold HS at h
 refine P3 cf0 func165 call165 ntmps165 ?_;intro E H0 K hE hK hO;cbv;obtain⟨s2,hx,h⟩:=bind_some h;refine J5 cf0 hE K3 (fun s1=>[(0,.v (sr eAA4 aG)),fi 1 aI,fi 5 s1]) (fun s1 H1=>B6 Eq H0 [] H1) (fun x e l H1=>match(generalizing:=false) x with| .inl y=>e= .exit 0∧l=[]∧B6 Eq H0 [] H1| .inr y=>e= .ret∧l=[(4,.b true)]∧B6 Eq H0 [] H1) (by kernel_rfl) ?_ hx ?_ hO ?_
 ·intro s1 H o hO h;clear hx;cbv;refine F3 hE ?_;cbv;refine B0 hE h (fun _ h=>?_) fun _ h=>?_
  ·cbv;refine D3 hE eAB5 h fun x3 h=>?_;cbv;refine B0 hE h (fun _ h=>?_) fun _ h=>?_
   ·cbv;refine D3 hE eAB5 h fun x4 h=>?_;cbv;refine B0 hE h (fun _ h=>?_) fun _ h=>?_
    ·cbv;cases h;exact⟨_,_,rfl,⟨rfl,rfl,hO⟩,.b rfl (.z),rfl⟩
    cbv;cases h;exact⟨_,rfl,.e rfl (.e2 .z),rfl,hO⟩
   cbv;cases h;exact⟨_,rfl,.e rfl (.e2 .z),rfl,hO⟩
  cbv;cases h;exact⟨_,_,rfl,⟨rfl,rfl,hO⟩,.z,rfl⟩
 ·exact .e rfl (.e2 .z)
 clear hx
 rcases s2 with y5|y6
 ·rintro e l H ⟨rfl,rfl,hO⟩;cbv;cases h;exact hK hO (.refl _)
 rintro e l H ⟨rfl,rfl,hO⟩;cbv;cases h;exact hK hO (.refl _)
def cf125 :Cf:=⟨[],[(1,20)],[],[],[],[]⟩
theorem c125 (N aB aA r)(h:EE N aB aA=some r):C5 prog 125 [(F2 aB),(Fq aA)] (.bool r):=by
 unfold EE at h
 refine P3 cf125 func125 call125 ntmps125 ?_;intro E H0 K hE hK hO;cbv;refine F3 hE ?_;cbv;refine B0 hE h (fun _ h=>?_) fun _ h=>?_
 ·cbv;refine D3 hE eAB4 h fun x1 h=>?_;cbv;refine A8 hE h (c165 N x1 aA.Num) (.refl _) fun r2 h=>?_;cbv;cases h;exact hK hO (.refl _)
 cbv;cases h;exact hK hO (.refl _)
theorem c93 (N aA bH aH r) (h:Y0 N aA bH aH=some r):C5 prog 93 [(G3 aA),sr V.bool bH,(Fq aH)] (sr V.bool r):=by
 unfold Y0 at h
 refine T9 (T:=TT) cf0 K3 func93 (by rfl) (by kernel_rfl) call93 ntmps93 (by rfl) (by rfl) ?_;intro E H0 K hE hK hF;have hO:B6 Eq H0 [] H0:=.start C4 rfl;cbv;refine F3 hE ?_;cbv;refine PB hE (f:=V.bool) (by decide) (z0:=(false:Bool)) ((.refl _)) hO h fun l2 q1 H hq1 h hO=>?_;cbv;obtain⟨s5,hx,h⟩:=bind_some h;refine M1 cf0 hE K3 (γ:=OG) (fun s3 g=>[(1,.v (sr V.bool bH)),(3,.v (.eref (C6 aA) 0)),(5,.v (.eref (U6 aH) 0)),(7,.v (.own g.id g.lo g.n)),fi 8 s3.1]) (fun s3 g H1=>Al g (Ar.len s3.2)∧B6 Eq H0 [ob g 1 V.bool s3.2] H1) (fun x e l H1=>∃u1:OG,Al u1 (Ar.len x)∧e= .exit 0∧l=[(7,.v (.own u1.id u1.lo u1.n))]∧B6 Eq H0 [ob u1 1 V.bool x] H1) (by kernel_rfl) ?_ q1 hx ?_ ?_ ?_
 ·rintro s3 q4 H o ⟨hq4,hO⟩ h;clear hx;cbv;refine F3 hE ?_;cbv;refine B0 hE h (fun _ h=>?_) fun _ h=>?_
  ·cbv;refine D3 hE eAB1 h fun x6 h=>?_;cbv;refine D3 hE (fun _=>rfl) h fun x7 h=>?_;cbv;refine B0 hE h (fun _ h=>?_) fun _ h=>?_
   ·cbv;refine A8 hE h (c125 N x6.On aH) (.refl _) fun r8 h=>?_;cbv;refine B0 hE h (fun _ h=>?_) fun _ h=>?_
    ·cbv;refine Aq hE hO hq4 0 rfl h fun h=>?_;cbv;refine Bc hE (f:=V.bool) (esz:=1) (tz:=1) (off:=0) (u:=(fun x9:Bool=>true)) (fun _=>⟨.bool true,.refl _,rfl,rfl,rfl⟩) (by decide) hO hq4 0 rfl h fun l10 H hq4 h hO=>?_;cbv;cases h;exact⟨_,q4,rfl,.e rfl (.e4 .z),rfl,hq4,hO⟩
    cbv;cases h;exact⟨_,q4,rfl,.e rfl (.e4 .z),rfl,hq4,hO⟩
   cbv;cases h;exact⟨_,q4,rfl,.e rfl (.e4 .z),rfl,hq4,hO⟩
  cbv;cases h;exact⟨_,_,rfl,⟨q4,hq4,rfl,rfl,hO⟩,.e rfl .z,rfl⟩
 ·exact .e rfl (.e4 .z)
 ·exact⟨hq1,hO⟩
 clear hx;rintro e l H ⟨q11,hq11,rfl,rfl,hO⟩;cbv;cases h;exact hF q11 _ _ 0 _ _ hO rfl (Ah hE hq11) (.refl _)
def cf44 :Cf:=⟨[],[(6,6)],[],[],[(6,5)],[]⟩
theorem c44 (N aA aR r) (h:Fs N aA aR=some r):C5 prog 44 [(G3 aA),sr eAA8 aR] (.bool r):=by
 unfold Fs at h
 refine P3 cf44 func44 call44 ntmps44 ?_;intro E H0 K hE hK hO;cbv;refine F3 hE ?_;cbv;refine PB hE (f:=V.bool) (by decide) (z0:=(false:Bool)) ((.refl _)) hO h fun l2 q1 H hq1 h hO=>?_;cbv;refine Aq hE hO hq1 0 rfl h fun h=>?_;cbv;refine Bc hE (f:=V.bool) (esz:=1) (tz:=1) (off:=0) (u:=(fun x3:Bool=>true)) (fun _=>⟨.bool true,.refl _,rfl,rfl,rfl⟩) (by decide) hO hq1 0 rfl h fun l4 H hq1 h hO=>?_;cbv;refine JV hE hO hq1 0 rfl fun H hO=>?_;cbv;obtain⟨s6,hx,h⟩:=bind_some h;refine J5 cf44 hE K3 (fun s5=>[(1,.v (sr eAA8 aR)),(2,.v (.eref (C6 aA) 0)),(5,.v (sr V.bool s5.1)),fi 6 s5.2]) (fun s5 H1=>B6 Eq H0 [] H1) (fun x e l H1=>e= .exit 0∧l=[(2,.v (.eref (C6 aA) 0)),(5,.v (sr V.bool x))]∧B6 Eq H0 [] H1) (by kernel_rfl) ?_ hx ?_ hO ?_
 ·intro s5 H o hO h;clear hx;cbv;refine F3 hE ?_;cbv;refine B0 hE h (fun _ h=>?_) fun _ h=>?_
  ·cbv;refine D3 hE eAB8 h fun x7 h=>?_;cbv;refine A8 hE h (c93 N aA s5.1 x7) (.refl _) fun r8 h=>?_;cbv;cases h;exact⟨_,rfl,.e4 .z,rfl,hO⟩
  cbv;cases h;exact⟨_,_,rfl,⟨rfl,rfl,hO⟩,.e2 .z,rfl⟩
 ·exact .e4 .z
 clear hx;rintro e l H ⟨rfl,rfl,hO⟩;cbv;obtain⟨s10,hx,h⟩:=bind_some h;refine J5 cf44 hE K3 (fun s9=>[(2,.v (.eref (C6 aA) 0)),(5,.v (sr V.bool s6)),fi 7 s9]) (fun s9 H1=>B6 Eq H0 [] H1) (fun x e l H1=>match(generalizing:=false) x with| .inl y=>e= .exit 2∧l=[]∧B6 Eq H0 [] H1| .inr y=>e= .ret∧l=[(4,.b true)]∧B6 Eq H0 [] H1) (by kernel_rfl) ?_ hx ?_ hO ?_
 ·intro s9 H o hO h;clear hx;cbv;refine F3 hE ?_;cbv;refine B0 hE h (fun _ h=>?_) fun _ h=>?_
  ·cbv;refine D3 hE (fun _=>rfl) h fun x11 h=>?_;cbv;refine B0 hE h (fun _ h=>?_) fun _ h=>?_
   ·cbv;refine D3 hE (fun _=>rfl) h fun x12 h=>?_;cbv;refine B0 hE h (fun _ h=>?_) fun _ h=>?_
    ·cbv;cases h;exact⟨_,_,rfl,⟨rfl,rfl,hO⟩,.b rfl (.z),rfl⟩
    cbv;cases h;exact⟨_,rfl,.e rfl (.e2 .z),rfl,hO⟩
   cbv;cases h;exact⟨_,rfl,.e rfl (.e2 .z),rfl,hO⟩
  cbv;cases h;exact⟨_,_,rfl,⟨rfl,rfl,hO⟩,.z,rfl⟩
 ·exact .e rfl (.e2 .z)
 clear hx
 rcases s10 with y13|y14
 ·rintro e l H ⟨rfl,rfl,hO⟩;cbv;cases h;exact hK hO (.refl _)
 rintro e l H ⟨rfl,rfl,hO⟩;cbv;cases h;exact hK hO (.refl _)
def cf12 :Cf:=⟨[],[(9,6)],[],[],[],[]⟩
theorem c12 (N aA aR r) (h:CV N aA aR=some r):C5 prog 12 [(G3 aA),sr eAA8 aR] (.tup [.bool r.1,vi r.2]):=by
 unfold CV at h
 refine P3 cf12 func12 call12 ntmps12 ?_;intro E H0 K hE hK hO;cbv;refine A8 hE h (c14 N aA) (.refl _) fun r1 h=>?_;cbv;refine B0 hE h (fun _ h=>?_) fun _ h=>?_
 ·cbv;cases h;exact hK hO (.refl _)
 cbv;refine F3 hE ?_;cbv;refine B0 hE h (fun _ h=>?_) fun _ h=>?_
 ·cbv;cases h;exact hK hO (.refl _)
 cbv;obtain⟨s3,hx,h⟩:=bind_some h;refine J5 cf12 hE K3 (fun s2=>[(1,.v (sr eAA8 aR)),(2,.v (.eref (C6 aA) 0)),fi 7 s2]) (fun s2 H1=>B6 Eq H0 [] H1) (fun x e l H1=>match(generalizing:=false) x with| .inl y=>e= .exit 0∧l=[(1,.v (sr eAA8 aR)),(2,.v (.eref (C6 aA) 0))]∧B6 Eq H0 [] H1| .inr y=>e= .ret∧l=[(4,.b false),fi 5 y]∧B6 Eq H0 [] H1) (by kernel_rfl) ?_ hx ?_ hO ?_
 ·intro s2 H o hO h;clear hx;cbv;refine F3 hE ?_;cbv;refine B0 hE h (fun _ h=>?_) fun _ h=>?_
  ·cbv;refine D3 hE eAB8 h fun x4 h=>?_;cbv;refine A8 hE h (c43 N aA.cW x4) (.refl _) fun r5 h=>?_;cbv;refine B0 hE h (fun _ h=>?_) fun _ h=>?_
   ·cbv;cases h;exact⟨_,_,rfl,⟨rfl,rfl,hO⟩,.b rfl (.e rfl .z),rfl⟩
   cbv;cases h;exact⟨_,rfl,.e rfl (.e2 .z),rfl,hO⟩
  cbv;cases h;exact⟨_,_,rfl,⟨rfl,rfl,hO⟩,.e2 .z,rfl⟩
 ·exact .e rfl (.e2 .z)
 clear hx
 rcases s3 with y6|y8
 ·rintro e l H ⟨rfl,rfl,hO⟩;cbv;refine A8 hE h (c44 N aA aR) (.refl _) fun r7 h=>?_;cbv;cases h;exact hK hO (.refl _)
 rintro e l H ⟨rfl,rfl,hO⟩;cbv;cases h;exact hK hO (.refl _)
end Go.Ab
namespace Go.Ab
open Go.RowKit Go.Proofs Go.Proofs.Tryz K2
variable [Ar][K2]
set_option maxRecDepth 100000
theorem c116 (N:Nat) (aA:List A0) (aU:V) (aM:A0→Option Bool) (aZ:∀y1 q,aM y1=some q→U2 prog aU [(G3 y1)] (.bool q)) (r:Int) (h:M7 N aA aM=some r):C5 prog 116 [sr eAC2 aA,aU] (vi r):=by
 unfold M7 at h
 refine P3 cf0 func116 call116 ntmps116 ?_;intro E H0 K hE hK hO;cbv;refine F3 hE ?_;cbv;obtain⟨s2,hx,h⟩:=bind_some h;refine J5 cf0 hE K3 (fun s1=>[(0,.v (sr eAC2 aA)),(1,.v (aU)),fi 7 (Ar.len aA),fi 8 s1]) (fun s1 H1=>B6 Eq H0 [] H1) (fun x e l H1=>match(generalizing:=false) x with| .inl y=>e= .exit 0∧l=[]∧B6 Eq H0 [] H1| .inr y=>e= .ret∧l=[fi 4 y]∧B6 Eq H0 [] H1) (by kernel_rfl) ?_ hx ?_ hO ?_
 ·intro s1 H o hO h;clear hx;cbv;refine B0 hE h (fun _ h=>?_) fun _ h=>?_
  ·cbv;refine D3 hE eAC9 h fun x3 h=>?_;cbv;refine CF hE (g:=fun r4=>.bool r4) h (fun r4 hx=>aZ x3 r4 hx) (.refl _) fun r4 h=>?_;cbv;refine B0 hE h (fun _ h=>?_) fun _ h=>?_
   ·cbv;cases h;exact⟨_,_,rfl,⟨rfl,rfl,hO⟩,.e rfl .z,rfl⟩
   cbv;cases h;exact⟨_,rfl,.e4 .z,rfl,hO⟩
  cbv;cases h;exact⟨_,_,rfl,⟨rfl,rfl,hO⟩,.z,rfl⟩
 ·exact .e4 .z
 clear hx
 rcases s2 with y5|y6
 ·rintro e l H ⟨rfl,rfl,hO⟩;cbv;cases h;exact hK hO (.refl _)
 rintro e l H ⟨rfl,rfl,hO⟩;cbv;cases h;exact hK hO (.refl _)
theorem c66 (N:Nat)(aA:List A0)(aU:V)(aM:A0→Option Bool)(aZ:∀y1 q,aM y1=some q→U2 prog aU [(G3 y1)] (.bool q))(r:Bool)(h:J4 N aA aM=some r):C5 prog 66 [sr eAC2 aA,aU] (.bool r):=by
 unfold J4 at h
 refine P3 cf0 func66 call66 ntmps66 ?_;intro E H0 K hE hK hO;cbv;refine A8 hE h (c116 N aA aU aM aZ) (.refl _) fun r1 h=>?_;cbv;cases h;exact hK hO (.refl _)
def cf67 :Cf:=⟨[],[(2,14)],[],[],[],[]⟩
theorem c67 (N aA aF aN r)(h:Bx N aA aF aN=some r):C5 prog 67 [(G3 aA),.eref [sr eAA8 aF] 0,.eref [sr eAC2 aN] 0] (.bool r):=by
 unfold Bx at h
 refine P3 cf67 func67 call67 ntmps67 ?_;intro E H0 K hE hK hO;cbv;refine A8 hE h (c12 N aA aF) (.refl _) fun r1 h=>?_;cbv;refine M0 hE (g:=fun r2=>.bool r2) h (c9 N aA) (.refl _) fun r2 h=>?_;cbv;refine B0 hE h (fun _ h=>?_) fun _ h=>?_
 ·cbv;cases h;exact hK hO (.refl _)
 cbv;refine D3 hE eAC9 h fun x3 h=>?_;cbv;cases h;exact hK hO (.refl _)
theorem c22 (N aV aG r)(h:GE N aV aG=some r):C5 prog 22 [sr eAA8 aV,sr eAC2 aG] (.bool r):=by
 unfold GE at h
 refine P3 cf0 func22 call22 ntmps22 ?_;intro E H0 K hE hK hO;cbv;refine F3 hE ?_;cbv;refine B0 hE h (fun _ h=>?_) fun _ h=>?_
 ·cbv;cases h;exact hK hO (.refl _)
 cbv;refine A8 hE (g:=fun r1=>.bool r1) h (fun r1 hx=>c66 N aG (.func (.func 67) [] [.eref [sr eAA8 aV] 0,.eref [sr eAC2 aG] 0]) (fun y1=>Bx N y1 aV aG) (fun y1 r hx=>C5.value (F:=[]) (C:=[.eref [sr eAA8 aV] 0,.eref [sr eAC2 aG] 0]) (c67 N y1 aV aG r hx)) r1 hx) (.refl _) fun r1 h=>?_;cbv;cases h;exact hK hO (.refl _)
def cf68 :Cf:=⟨[4],[(5,4)],[],[],[],[]⟩
theorem c68 (N aA r) (h:V3 N aA=some r):SW prog 68 [(G3 aA)] (.int .i64) (V.int .i64) V.bool r:=by
 unfold V3 at h
 refine Qg (T:=TT) cf68 K3 func68 (by rfl) (by kernel_rfl) call68 ntmps68 (by rfl) (by rfl) ?_;intro E H0 K hE hK;have hO:B6 Eq H0 [] H0:=.start C4 rfl;cbv;refine Ld hE (.int .i64) (V.int .i64) V.bool hO fun m1 o2 H ho2 hO=>?_;cbv;refine Dq hE (kt:=3) (et:=4) (by kernel_rfl) (by kernel_rfl) (R5 .i64) DN hO ho2 0 rfl h fun l4 o3 H ho3 h hO=>?_;cbv;refine E6 hE hO fun b5 H hO=>?_;cbv;refine A7 hE hO 0 rfl rfl fun H hO=>?_;cbv;replace hO:=hO.cast (L':=(cb b5 [.sl (lst (V.int .i64) ([0])) .full]:: .blk m1 (.obj o3)::Bl [])) (by rw[show([vi 0]:List V)=lst (V.int .i64) ([0])from D4 rfl B4];rfl);replace hO:=hO.tl0 (t:=.full) rfl;obtain⟨s12,hx,h⟩:=bind_some h;refine Mk cf68 hE K3 (γ:=E5×Nat×Obj) (fun s7 g=>[(1,.v (.eref (C6 aA) 0)),(2,.v (.nilmap)),(3,.v (.eref [.map m1] 0)),(4,.v (.ref g.2.1 0))]) (fun s7 g ds11 H1=>(s7.1≠[]→K1 g.1)∧True∧CK (.int .i64) (V.int .i64) V.bool g.2.2 s7.2∧B6 Eq H0 (.tl g.1:: .blk g.2.1 (.cells [.sl (lst (V.int .i64) s7.1) g.1]):: .blk m1 (.obj g.2.2)::Bl ds11) H1) (fun x e l ds11 H1=>∃u1:E5,True∧∃u2:Nat,True∧∃u3:Obj,CK (.int .i64) (V.int .i64) V.bool u3 x.2∧e= .exit 0∧l=[(3,.v (.eref [.map m1] 0))]∧B6 Eq H0 (.tl u1::cb u2 [.sl (lst (V.int .i64) x.1) u1]:: .blk m1 (.obj u3)::Bl ds11) H1) (by kernel_rfl) ?_ (⟨.full,b5,o3⟩) hx ?_ ?_ ?_
 ·rintro s7 ⟨t8,b9,q10⟩ ds11 H o ⟨ht8,hb9,hq10,hO⟩ h;clear hx;cbv;refine B1 hE hO 1 rfl ?_;cbv;refine F3 hE ?_;cbv;refine B0 hE h (fun hc h=>?_) (fun hc h=>?_)
  ·have ht8:K1 t8:=ht8 (by have hc:Ar.cmp .gtr (Ar.len s7.1) 0=true:=hc;intro e;rw[e,Ar.cmp_eq,Ar.len_eq]at hc;simp[EK]at hc);cbv;refine B1 hE hO 1 rfl ?_;cbv;refine D3 hE (fun _=>rfl) h fun x13 h=>?_;cbv;refine T4 hE h (c41 N aA x13) (.refl _) fun r14 v15 hv15 h=>?_;cbv;obtain⟨o22,hx,h⟩:=bind_some h;refine BT cf68 hE K3 (ι:=Unit) (enc:=fun(x:C3)=>[(BL x)]) (fun(s17:(List Int)×(List (Int×Bool))) F H=>∃g:E5×Obj,(K1 g.1∧CK (.int .i64) (V.int .i64) V.bool g.2 s17.2)∧B6 Eq F (.tl g.1::cb b9 [.sl (lst (V.int .i64) s17.1) g.1]:: .blk m1 (.obj g.2)::Bl ds11) H) (fun(r:Unit) e F H=>False) (fun i s17 y16=>[(3,.v (.eref [.map m1] 0)),(4,.v (.ref b9 0)),(5,.v (.eref (GM y16) 0))]) (fun i s17 y16 F H=>∃g:E5×Obj,(K1 g.1∧CK (.int .i64) (V.int .i64) V.bool g.2 s17.2)∧B6 Eq F (.tl g.1::cb b9 [.sl (lst (V.int .i64) s17.1) g.1]:: .blk m1 (.obj g.2)::Bl ds11) H) (fun _=>D2.ex fun _=>B6.stable C4 _) (fun _ _=>⟨fun h=>h.elim,fun _ _ h=>h.elim⟩) (fun _ _ _=>D2.ex fun _=>B6.stable C4 _) hv15 hx (⟨⟨t8,q10⟩,⟨ht8,hq10⟩,hO⟩) (by decide) (fun _=>rfl) (by kernel_rfl) (by kernel_rfl) ?_ ?_ ?_ ?_
   ·rintro E i19 y16 s17 F18 H hE ⟨⟨t20,q21⟩,⟨ht20,hq21⟩,hO⟩;clear hx h;cbv;exact⟨(),⟨⟨t20,q21⟩,⟨ht20,hq21⟩,hO⟩,.e rfl (.e2 .z),rfl⟩
   ·rintro E i19 _ y16 s17 F18 H o hE hF h ⟨⟨t20,q21⟩,⟨ht20,hq21⟩,hO⟩;clear hx;cbv;refine JW hE (kt:=3) (et:=4) (by kernel_rfl) (by kernel_rfl) (R5 .i64) (false:Bool) (by kernel_rfl) rfl hO hq21 2 rfl h fun r23 h=>?_;cbv;refine B0 hE h (fun hc h=>?_) (fun hc h=>?_)
    ·cbv;refine A8 hE h (c70 N y16.On) (.refl _) fun r24 h=>?_;cbv;refine B0 hE h (fun hc h=>?_) (fun hc h=>?_)
     ·cbv;refine Dq hE (kt:=3) (et:=4) (by kernel_rfl) (by kernel_rfl) (R5 .i64) DN hO hq21 2 rfl h fun l26 o25 H ho25 h hO=>?_;cbv;refine B1 hE hO 1 rfl ?_;cbv;refine T5 (f:=(V.int .i64)) hE (fun _=>rfl) (by decide) hO 0 rfl ht20 (l:=s17.1) (m:=[y16.To]) (.refl _) (.lstc (.refl _) (.lst0)) h fun l28 t27 H hO ht27 h=>?_;cbv;refine A7 hE hO 1 rfl rfl fun H hO=>?_;cbv;cases h;exact⟨_,rfl,⟨⟨t27,o25⟩,⟨ht27,ho25⟩,hO⟩⟩
     cbv;cases h;exact⟨_,rfl,⟨⟨t20,q21⟩,⟨ht20,hq21⟩,hO⟩⟩
    cbv;cases h;exact⟨_,rfl,⟨⟨t20,q21⟩,⟨ht20,hq21⟩,hO⟩⟩
   ·rintro d29 s33 H rfl hd ⟨⟨t34,q35⟩,⟨ht34,hq35⟩,hO⟩;have hO:B6 Eq H0 (.tl t34::cb b9 [.sl (lst (V.int .i64) s33.1) t34]:: .blk m1 (.obj q35)::Bl (d29::ds11)) H:=B6.dbs1 (A:=[_,_,_]) (ds:=ds11) (B6.dblk hd hO);clear hd;clear hx;cbv;refine B1 hE hO 1 rfl ?_;cbv;refine E6 hE hO fun b36 H hO=>?_;cbv;refine A7 hE hO 0 rfl rfl fun H hO=>?_;cbv;refine B1 hE hO 0 rfl ?_;cbv;refine Aa1 hE (f:=(V.int .i64)) (fun _=>rfl) h fun l37 t38 ht38 h=>?_;cbv;refine A7 hE hO 0 rfl rfl fun H hO=>?_;cbv;have hO:B6 Eq H0 (cb b9 [.sl (lst (V.int .i64) s33.1) t34]:: .tl t34::cb b36 [.sl (lst (V.int .i64) l37) t38]:: .blk m1 (.obj q35)::Bl (d29::ds11)) H:=hO.swp 0 2 rfl rfl;cases h;replace hO:=hO.tail
    rcases ht38 with rfl|⟨rfl,rfl⟩
    ·exact⟨_,⟨_,b36,q35⟩,_,rfl,.e4 .z,rfl,fun _=>ht34,trivial,hq35,hO⟩
    exact⟨_,⟨.ro,b36,q35⟩,_,rfl,.e4 .z,rfl,fun e=>(e rfl).elim,trivial,hq35,hO.tail.tl0 (t:=.ro) rfl⟩
   rintro d r e H rfl hd hO;exact hO.elim
  cbv;cases h;exact⟨_,_,_,rfl,⟨t8,trivial,b9,trivial,q10,hq10,rfl,rfl,hO⟩,.e rfl .z,rfl⟩
 ·exact .e4 .z
 ·exact⟨fun _=>trivial,trivial,ho3,hO⟩
 clear hx;rintro e l ds11 H ⟨t39,ht39,b40,hb40,q41,hq41,rfl,rfl,hO⟩;cbv
 rcases ds11 with _|⟨d0,ds11⟩
 ·cbv;have hO:B6 _ _ [.tl t39,cb b40 [.sl (lst (V.int .i64) s12.1) t39],.blk m1 (.obj q41)] H:=hO;cases h;exact hK _ _ _ 2 _ hq41 rfl hO
 cbv;refine Iu (A:=[_,_,_]) (ds:=d0::ds11) hE hO fun H hO=>?_;cbv;cases h;exact hK _ _ _ 2 _ hq41 rfl hO
theorem c69 (N aL aF aN r)(h:P2 N aL aF aN=some r)(mx1:Nat)(ox1:Obj)(hox1:CK (.int .i64) (V.int .i64) (V.int .i64) ox1 aF)(mx2:Nat)(ox2:Obj)(hox2:CK (.int .i64) (V.int .i64) V.bool ox2 aN):SV prog 69 [vi aL,.eref [.map mx1] 0,.eref [.map mx2] 0] [(mx1,.obj ox1),(mx2,.obj ox2)] (.bool r):=by
 unfold P2 at h
 refine Qc (T:=TT) cf0 K3 func69 (by rfl) (by kernel_rfl) call69 ntmps69 (by rfl) (by rfl) ?_;intro E H0 K hE hO hK;have hO:B6 Eq (GL H0 [(mx1,.obj ox1),(mx2,.obj ox2)]) [.blk mx1 (.obj ox1),.blk mx2 (.obj ox2)] H0:=hO;cbv;refine KH hE (kt:=3) (et:=3) (by kernel_rfl) (by kernel_rfl) (R5 .i64) (0:Int) (by kernel_rfl) rfl hO hox1 0 rfl h fun r1 h=>?_;cbv;refine B0 hE h (fun _ h=>?_) fun _ h=>?_
 ·cbv;refine JW hE (kt:=3) (et:=4) (by kernel_rfl) (by kernel_rfl) (R5 .i64) (false:Bool) (by kernel_rfl) rfl hO hox2 1 rfl h fun r2 h=>?_;cbv;cases h;exact hK _ _ (hO) (.refl _)
 cbv;cases h;exact hK _ _ (hO) (.refl _)
def cf23 :Cf:=⟨[2,9],[(19,15),(3000004,0),(3000004,2)],[],[2000004],[(24,6),(24,5)],[]⟩
set_option maxHeartbeats 2000000 in
theorem c23 (N aA r) (h:CU N aA=some r):C5 prog 23 [(G3 aA)] (.tup [(G3 r.1),vi r.2]):=by
 unfold CU at h
 refine P3 cf23 func23 call23 ntmps23 ?_;intro E H0 K hE hK hO;cbv;refine E6 hE hO fun b1 H hO=>?_;cbv;refine A8 hE h (c13 N aA) (.refl _) fun r2 h=>?_;cbv;refine B0 hE h (fun _ h=>?_) fun _ h=>?_
 ·cbv;refine A7 hE hO 0 rfl rfl fun H hO=>?_;cbv;refine B1 hE hO 0 rfl ?_;cbv;cases h;exact hK hO (.tup (.cons (.agg (.cons (.refl _) (.cons (.lit _ (B4)) (.cons (.lit _ (B4)) (.refl _))))) (.refl _)))
 cbv;obtain⟨s3,hx,h⟩:=bind_some h;refine P0 cf23 hE K3 (fun e l H1=>∃u1:Nat,True∧∃u2:Obj,CK (.int .i64) (V.int .i64) (V.int .i64) u2 s3.1∧∃u3:Nat,True∧∃u4:Nat,True∧∃u5:Obj,CK (.int .i64) (V.int .i64) V.bool u5 s3.2∧∃u6:Nat,True∧e= .normal∧l=[(1,.v (.eref (C6 aA) 0)),(2,.v (.ref b1 0)),(5,.v (.ref u4 0)),(6,.v (.ref u1 0))]∧B6 Eq H0 [cb u1 [.map u3],.blk u3 (.obj u2),cb u4 [.map u6],.blk u6 (.obj u5),cb b1 [vi 0,.sl [] .nil,.sl [] .nil]] H1) (by kernel_rfl) ?_ ?_
 ·clear h;have h:=hx;clear hx;cbv
  repeat' first|refine And.intro ?_ ?_|(refine PC hE h (c68 N aA) (.refl _) hO fun l44 m45 o46 H ho46 hO h=>?_;cbv)|(refine PC hE h (c60 N aA) (.refl _) hO fun l124 m125 o126 H ho126 hO h=>?_;cbv)|(refine E6 hE hO fun b164 H hO=>?_;cbv)|(refine A7 hE hO 1 rfl rfl fun H hO=>?_;cbv)|(refine A7 hE hO 0 rfl rfl fun H hO=>?_;cbv)|(refine A7 hE hO 2 rfl rfl fun H hO=>?_;cbv)|(refine A7 hE hO 3 rfl rfl fun H hO=>?_;cbv)|(have h:=K8 h;subst h;first|exact⟨_,⟨_,trivial,_,ho126,_,trivial,_,trivial,_,ho46,_,trivial,rfl,rfl,hO.swp 2 1 rfl rfl⟩,.e4 .z,rfl⟩|exact⟨_,⟨_,trivial,_,ho126,_,trivial,_,trivial,_,ho46,_,trivial,rfl,rfl,(hO.swp 1 0 rfl rfl).swp 2 1 rfl rfl⟩,.e4 .z,rfl⟩|exact⟨_,⟨_,trivial,_,ho126,_,trivial,_,trivial,_,ho46,_,trivial,rfl,rfl,hO⟩,.e4 .z,rfl⟩|exact⟨_,⟨_,trivial,_,ho126,_,trivial,_,trivial,_,ho46,_,trivial,rfl,rfl,hO.swp 1 0 rfl rfl⟩,.e4 .z,rfl⟩|exact⟨_,⟨_,trivial,_,ho126,_,trivial,_,trivial,_,ho46,_,trivial,rfl,rfl,hO.swp 2 0 rfl rfl⟩,.e4 .z,rfl⟩|exact⟨_,⟨_,trivial,_,ho126,_,trivial,_,trivial,_,ho46,_,trivial,rfl,rfl,(hO.swp 2 0 rfl rfl).swp 2 1 rfl rfl⟩,.e4 .z,rfl⟩|exact⟨_,⟨_,trivial,_,ho126,_,trivial,_,trivial,_,ho46,_,trivial,rfl,rfl,hO.swp 3 2 rfl rfl⟩,.e4 .z,rfl⟩|exact⟨_,⟨_,trivial,_,ho126,_,trivial,_,trivial,_,ho46,_,trivial,rfl,rfl,(hO.swp 1 0 rfl rfl).swp 3 2 rfl rfl⟩,.e4 .z,rfl⟩|exact⟨_,⟨_,trivial,_,ho126,_,trivial,_,trivial,_,ho46,_,trivial,rfl,rfl,((hO.swp 2 0 rfl rfl).swp 2 1 rfl rfl).swp 3 2 rfl rfl⟩,.e4 .z,rfl⟩|exact⟨_,⟨_,trivial,_,ho126,_,trivial,_,trivial,_,ho46,_,trivial,rfl,rfl,(hO.swp 3 0 rfl rfl).swp 3 2 rfl rfl⟩,.e4 .z,rfl⟩|exact⟨_,⟨_,trivial,_,ho126,_,trivial,_,trivial,_,ho46,_,trivial,rfl,rfl,((hO.swp 3 0 rfl rfl).swp 3 1 rfl rfl).swp 3 2 rfl rfl⟩,.e4 .z,rfl⟩|exact⟨_,⟨_,trivial,_,ho126,_,trivial,_,trivial,_,ho46,_,trivial,rfl,rfl,(hO.swp 3 0 rfl rfl).swp 3 1 rfl rfl⟩,.e4 .z,rfl⟩)
 clear hx;rintro e l H ⟨b364,hb364,q365,hq365,m366,hm366,b367,hb367,q368,hq368,m369,hm369,rfl,rfl,hO⟩;cbv;refine Aa7 hE hO 0 rfl fun H hO=>?_;cbv;refine Aa7 hE hO 1 rfl fun H hO=>?_;cbv;refine Ld hE (.int .i64) (V.int .i64) (V.int .i64) hO fun m370 o371 H ho371 hO=>?_;cbv;refine E6 hE hO fun b372 H hO=>?_;cbv;refine A7 hE hO 0 rfl rfl fun H hO=>?_;cbv;refine F3 hE ?_;cbv;replace hO:=hO.cast (L':=[cb b372 [vi aA.cW,.sl (lst V.bool ([])) .nil,.sl [] .nil],.blk m370 (.obj o371),.blk m366 (.obj q365),.blk m369 (.obj q368),cb b1 [vi 0,.sl [] .nil,.sl [] .nil]]) (by simp only[ob,cb,sr,←B4]<;>rfl);replace hO:=hO.tl0 (t:=.nil) rfl;obtain⟨s376,hx,h⟩:=bind_some h;refine M1 cf23 hE K3 (γ:=E5×Obj) (fun s373 g=>[(1,.v (.eref (C6 aA) 0)),(2,.v (.ref b1 0)),(7,.v (.func (.func 69) [] [.eref [.map m366] 0,.eref [.map m369] 0])),(8,.v (.map m370)),(9,.v (.ref b372 0)),(30,.v (sr V.bool aA.cU)),fi 31 (Ar.len aA.cU),fi 32 s373.1]) (fun s373 g H1=>K1 g.1∧CK (.int .i64) (V.int .i64) (V.int .i64) g.2 s373.2.2∧B6 Eq H0 [.tl g.1,cb b372 [vi s373.2.1.cW,.sl (lst V.bool s373.2.1.cU) g.1,.sl [] .nil],.blk m370 (.obj g.2),.blk m366 (.obj q365),.blk m369 (.obj q368),cb b1 [vi 0,.sl [] .nil,.sl [] .nil]] H1) (fun x e l H1=>∃u1:E5,K1 u1∧∃u2:Obj,CK (.int .i64) (V.int .i64) (V.int .i64) u2 x.2∧e= .exit 0∧l=[(1,.v (.eref (C6 aA) 0)),(2,.v (.ref b1 0)),(7,.v (.func (.func 69) [] [.eref [.map m366] 0,.eref [.map m369] 0])),(8,.v (.map m370)),(9,.v (.ref b372 0))]∧B6 Eq H0 [.tl u1,cb b372 [vi x.1.cW,.sl (lst V.bool x.1.cU) u1,.sl [] .nil],.blk m370 (.obj u2),.blk m366 (.obj q365),.blk m369 (.obj q368),cb b1 [vi 0,.sl [] .nil,.sl [] .nil]] H1) (by kernel_rfl) ?_ (⟨.nil,o371⟩) hx ?_ ?_ ?_
 ·rintro s373 ⟨t374,q375⟩ H o ⟨ht374,hq375,hO⟩ h;clear hx;cbv;refine B0 hE h (fun _ h=>?_) fun _ h=>?_
  ·cbv;refine D3 hE (fun _=>rfl) h fun x377 h=>?_;cbv;refine B0 hE h (fun _ h=>?_) fun _ h=>?_
   ·cbv;refine B1 hE hO 1 rfl ?_;cbv;refine F3 hE ?_;cbv;refine Dq hE (kt:=3) (et:=3) (by kernel_rfl) (by kernel_rfl) (R5 .i64) (GC .i64) hO hq375 2 rfl h fun l379 o378 H ho378 h hO=>?_;cbv;refine B1 hE hO 1 rfl ?_;cbv;refine T5 (f:=V.bool) hE (fun _=>rfl) (by decide) hO 0 rfl ht374 (l:=s373.2.1.cU) (m:=[x377]) (.refl _) (.lstc (.refl _) (.lst0)) h fun l381 t380 H hO ht380 h=>?_;cbv;refine A7 hE hO 1 rfl rfl fun H hO=>?_;cbv;cases h;exact⟨_,⟨t380,o378⟩,rfl,.e4 (.e4 .z),rfl,ht380,ho378,hO⟩
   cbv;refine JX hE (F0:=[]) (C0:=[.eref [.map m366] 0,.eref [.map m369] 0]) (args':=[vi s373.1]) (g:=fun r382=>.bool r382) h (fun r382 hx=>c69 N s373.1 s3.1 s3.2 r382 hx m366 q365 hq365 m369 q368 hq368) (.refl _) (Qo (neC (hO.ne 3 4 rfl rfl (by decide)) (ne0)) (Qp _)) (atC (hO.get 3 rfl) (atC (hO.get 4 rfl) (at0))) fun r382 h=>?_;cbv;refine B0 hE h (fun _ h=>?_) fun _ h=>?_
   ·cbv;refine B1 hE hO 1 rfl ?_;cbv;refine F3 hE ?_;cbv;refine Dq hE (kt:=3) (et:=3) (by kernel_rfl) (by kernel_rfl) (R5 .i64) (GC .i64) hO hq375 2 rfl h fun l384 o383 H ho383 h hO=>?_;cbv;refine B1 hE hO 1 rfl ?_;cbv;refine T5 (f:=V.bool) hE (fun _=>rfl) (by decide) hO 0 rfl ht374 (l:=s373.2.1.cU) (m:=[x377]) (.refl _) (.lstc (.refl _) (.lst0)) h fun l386 t385 H hO ht385 h=>?_;cbv;refine A7 hE hO 1 rfl rfl fun H hO=>?_;cbv;cases h;exact⟨_,⟨t385,o383⟩,rfl,.e4 (.e4 .z),rfl,ht385,ho383,hO⟩
   cbv;cases h;exact⟨_,⟨t374,q375⟩,rfl,.e4 (.e4 .z),rfl,ht374,hq375,hO⟩
  cbv;cases h;exact⟨_,_,rfl,⟨t374,ht374,q375,hq375,rfl,rfl,hO⟩,.e rfl (.e4 .z),rfl⟩
 ·exact .e4 (.e4 .z)
 ·exact⟨trivial,ho371,hO⟩
 clear hx;rintro e l H ⟨t387,ht387,q388,hq388,rfl,rfl,hO⟩;cbv;refine F3 hE ?_;cbv;replace hO:=hO.cast (L':=[.tl t387,cb b372 [vi s376.1.cW,.sl (lst V.bool s376.1.cU) t387,.sl (lst eAA5 ([])) .nil],.blk m370 (.obj q388),.blk m366 (.obj q365),.blk m369 (.obj q368),cb b1 [vi 0,.sl [] .nil,.sl [] .nil]]) (by simp only[ob,cb,sr,←B4]<;>rfl);replace hO:=hO.tl0 (t:=.nil) rfl;obtain⟨s391,hx,h⟩:=bind_some h;refine M1 cf23 hE K3 (γ:=E5) (fun s389 g=>[(2,.v (.ref b1 0)),(7,.v (.func (.func 69) [] [.eref [.map m366] 0,.eref [.map m369] 0])),(8,.v (.map m370)),(9,.v (.ref b372 0)),(57,.v (sr eAA5 aA.cV)),fi 58 (Ar.len aA.cV),fi 59 s389.1]) (fun s389 g H1=>K1 g∧B6 Eq H0 [.tl g,.tl t387,cb b372 [vi s389.2.cW,.sl (lst V.bool s376.1.cU) t387,.sl (lst eAA5 s389.2.cV) g],.blk m370 (.obj q388),.blk m366 (.obj q365),.blk m369 (.obj q368),cb b1 [vi 0,.sl [] .nil,.sl [] .nil]] H1) (fun x e l H1=>∃u1:E5,K1 u1∧e= .exit 2∧l=[(2,.v (.ref b1 0)),(9,.v (.ref b372 0))]∧B6 Eq H0 [.tl u1,.tl t387,cb b372 [vi x.cW,.sl (lst V.bool s376.1.cU) t387,.sl (lst eAA5 x.cV) u1],.blk m370 (.obj q388),.blk m366 (.obj q365),.blk m369 (.obj q368),cb b1 [vi 0,.sl [] .nil,.sl [] .nil]] H1) (by kernel_rfl) ?_ .nil hx ?_ ?_ ?_
 ·rintro s389 t390 H o ⟨ht390,hO⟩ h;clear hx;cbv;refine B0 hE h (fun _ h=>?_) fun _ h=>?_
  ·cbv;refine D3 hE eAB1 h fun x392 h=>?_;cbv;refine JX hE (F0:=[]) (C0:=[.eref [.map m366] 0,.eref [.map m369] 0]) (args':=[vi x392.cX]) (g:=fun r393=>.bool r393) h (fun r393 hx=>c69 N x392.cX s3.1 s3.2 r393 hx m366 q365 hq365 m369 q368 hq368) (.refl _) (Qo (neC (hO.ne 4 5 rfl rfl (by decide)) (ne0)) (Qp _)) (atC (hO.get 4 rfl) (atC (hO.get 5 rfl) (at0))) fun r393 h=>?_;cbv;refine B0 hE h (fun _ h=>?_) fun _ h=>?_
   ·cbv;refine JX hE (F0:=[]) (C0:=[.eref [.map m366] 0,.eref [.map m369] 0]) (args':=[vi x392.To]) (g:=fun r394=>.bool r394) h (fun r394 hx=>c69 N x392.To s3.1 s3.2 r394 hx m366 q365 hq365 m369 q368 hq368) (.refl _) (Qo (neC (hO.ne 4 5 rfl rfl (by decide)) (ne0)) (Qp _)) (atC (hO.get 4 rfl) (atC (hO.get 5 rfl) (at0))) fun r394 h=>?_;cbv;refine B0 hE h (fun _ h=>?_) fun _ h=>?_
    ·cbv;refine A8 hE h (c70 N x392.On) (.refl _) fun r395 h=>?_;cbv;refine B0 hE h (fun _ h=>?_) fun _ h=>?_
     ·cbv;refine B1 hE hO 2 rfl ?_;cbv;refine JW hE (kt:=3) (et:=3) (by kernel_rfl) (by kernel_rfl) (R5 .i64) (0:Int) (by kernel_rfl) rfl hO hq388 3 rfl h fun r396 h=>?_;cbv;refine JW hE (kt:=3) (et:=3) (by kernel_rfl) (by kernel_rfl) (R5 .i64) (0:Int) (by kernel_rfl) rfl hO hq388 3 rfl h fun r397 h=>?_;cbv;refine M0 hE (g:=fun r398=>(F2 r398)) h (c71 N x392.On) (.refl _) fun r398 h=>?_;cbv;refine T5 (f:=eAA5) hE Ck (by decide) hO 0 rfl ht390 (l:=s389.2.cV) (m:=[(⟨r396.1,r397.1,r398⟩:C3)]) (.refl _) (.lstc (.eq (eAB1 (⟨r396.1,r397.1,r398⟩:C3)) (.refl _)) (.lst0)) h fun l400 t399 H hO ht399 h=>?_;cbv;refine A7 hE hO 2 rfl rfl fun H hO=>?_;cbv;cases h;exact⟨_,t399,rfl,.e rfl (.e2 (.e4 .z)),rfl,ht399,hO⟩
     cbv;cases h;exact⟨_,t390,rfl,.e rfl (.e2 (.e4 .z)),rfl,ht390,hO⟩
    cbv;cases h;exact⟨_,t390,rfl,.e rfl (.e2 (.e4 .z)),rfl,ht390,hO⟩
   cbv;cases h;exact⟨_,t390,rfl,.e rfl (.e2 (.e4 .z)),rfl,ht390,hO⟩
  cbv;cases h;exact⟨_,_,rfl,⟨t390,ht390,rfl,rfl,hO⟩,.e2 .z,rfl⟩
 ·exact .e rfl (.e2 (.e4 .z))
 ·exact⟨trivial,hO⟩
 clear hx;rintro e l H ⟨t401,ht401,rfl,rfl,hO⟩;cbv;refine B1 hE hO 2 rfl ?_;cbv;refine A7 hE hO 6 rfl rfl fun H hO=>?_;cbv;refine B1 hE hO 6 rfl ?_;cbv;cases h;exact hK hO (.tup (.cons (.agg (.cons (.refl _) (.cons (.ro _ _) (.cons (.ro _ _) (.refl _))))) (.refl _)))
theorem c24 (N aA aV r)(h:R8 N aA aV=some r):C5 prog 24 [(G3 aA),sr eAA8 aV] (.bool r):=by
 unfold R8 at h
 refine P3 cf0 func24 call24 ntmps24 ?_;intro E H0 K hE hK hO;cbv;refine A8 hE h (c11 N aA aV) (.refl _) fun r1 h=>?_;cbv;cases h;exact hK hO (.refl _)
theorem c72 (N aC aD r)(h:W0 N aC aD=some r):C5 prog 72 [(G3 aC),(G3 aD)] (vi r):=by
 unfold W0 at h
 refine P3 cf0 func72 call72 ntmps72 ?_;intro E H0 K hE hK hO;cbv;refine A8 hE h (c13 N aC) (.refl _) fun r1 h=>?_;cbv;refine B0 hE h (fun _ h=>?_) fun _ h=>?_
 ·cbv;cases h;exact hK hO (.refl _)
 cbv;refine A8 hE h (c13 N aD) (.refl _) fun r2 h=>?_;cbv;refine B0 hE h (fun _ h=>?_) fun _ h=>?_
 ·cbv;cases h;exact hK hO (.refl _)
 cbv;refine B0 hE h (fun _ h=>?_) fun _ h=>?_
 ·cbv;cases h;exact hK hO (.refl _)
 cbv;cases h;exact hK hO (.refl _)
def cf159 :Cf:=⟨[],[(1,14)],[],[],[],[]⟩
theorem c159 (N:Nat)(aL:Int)(cP:V)(aF:(List A4)→(List A4)→Option ((List A4)×Int))(cR:∀y1 y2 q,aF y1 y2=some q→U2 prog cP [sr eAA4 y1,sr eAA4 y2] (.tup [sr eAA4 q.1,vi q.2]))(aN:B3)(cI:B3)(r:((List A4)×Int))(h:Z5 N aL aF aN cI=some r):C5 prog 159 [vi aL,.eref [cP] 0,.eref (N1 aN) 0,.eref (N1 cI) 0] (.tup [sr eAA4 r.1,vi r.2]):=by
 unfold Z5 at h
 refine P3 cf159 func159 call159 ntmps159 ?_;intro E H0 K hE hK hO;cbv;refine D3 hE eAB4 h fun x1 h=>?_;cbv;refine D3 hE eAB4 h fun x2 h=>?_;cbv;refine Aa3 hE (g:=fun r3=>.tup [sr eAA4 r3.1,vi r3.2]) h (fun r3 hx=>cR x1 x2 r3 hx) (.refl _) fun r3 h=>?_;cbv;cases h;exact hK hO (.refl _)
def cf119 :Cf:=⟨[6,1000005],[],[],[],[],[]⟩
theorem c119 (N:Nat)(aB:B3)(aW:B3)(bZ:V)(bY:(List A4)→(List A4)→Option ((List A4)×Int))(cS:∀y1 y2 q,bY y1 y2=some q→U2 prog bZ [sr eAA4 y1,sr eAA4 y2] (.tup [sr eAA4 q.1,vi q.2]))(cT:OneV bZ)(r:(B3×Int))(h:DZ N aB aW bY=some r):C5 prog 119 [(F2 aB),(F2 aW),bZ] (.tup [(F2 r.1),vi r.2]):=by
 unfold DZ at h
 refine P3 cf119 func119 call119 ntmps119 ?_;intro E H0 K hE hK hO;cbv;refine HD hE cT ?_;cbv;refine E6 hE hO fun b1 H hO=>?_;cbv;refine A8 hE h (c90 N ([aB,aW])) (.cons (.lit _ (D4 ((eAC8 aB).symm) (D4 ((eAC8 aW).symm) (B4)))) (.refl _)) fun r2 h=>?_;cbv;refine B0 hE h (fun _ h=>?_) fun _ h=>?_
 ·cbv;refine A7 hE hO 0 rfl rfl fun H hO=>?_;cbv;refine B1 hE hO 0 rfl ?_;cbv;cases h;exact hK hO (.tup (.cons (.agg (.cons (.lit _ (B4)) (.refl _))) (.refl _)))
 cbv;refine F3 hE ?_;cbv;refine F3 hE ?_;cbv;refine B0 hE h (fun _ h=>?_) fun _ h=>?_
 ·cbv;refine A7 hE hO 0 rfl rfl fun H hO=>?_;cbv;refine B1 hE hO 0 rfl ?_;cbv;cases h;exact hK hO (.tup (.cons (.agg (.cons (.lit _ (B4)) (.refl _))) (.refl _)))
 cbv;refine F3 hE ?_;cbv;refine A8 hE (g:=fun r3=>.tup [(F2 r3.1),vi r3.2]) h (fun r3 hx=>c87 N (Ar.len aB.cZ) (.func (.func 159) [] [.eref [bZ] 0,.eref (N1 aB) 0,.eref (N1 aW) 0]) (fun y1=>Z5 N y1 bY aB aW) (fun y1 r hx=>C5.value (F:=[]) (C:=[.eref [bZ] 0,.eref (N1 aB) 0,.eref (N1 aW) 0]) (c159 N y1 bZ bY cS aB aW r hx)) r3 hx) (.refl _) fun r3 h=>?_;cbv;refine A7 hE hO 0 rfl rfl fun H hO=>?_;cbv;refine B1 hE hO 0 rfl ?_;cbv;cases h;exact hK hO (.refl _)
def cf73 :Cf:=⟨[4],[],[],[],[],[]⟩
theorem c73 (N aB aW r)(h:AL N aB aW=some r):C5 prog 73 [(F2 aB),(F2 aW)] (.tup [(F2 r.1),vi r.2]):=by
 unfold AL at h
 refine P3 cf73 func73 call73 ntmps73 ?_;intro E H0 K hE hK hO;cbv;refine E6 hE hO fun b1 H hO=>?_;cbv;refine A8 hE (g:=fun r2=>.tup [(F2 r2.1),vi r2.2]) h (fun r2 hx=>c119 N aB aW (.func (.func 120) [] []) (fun y1 y2=>N4 N y1 y2) (fun y1 y2 r hx=>C5.value (F:=[]) (C:=[]) (c120 N y1 y2 r hx)) ⟨rfl,rfl⟩ r2 hx) (.refl _) fun r2 h=>?_;cbv;refine A7 hE hO 0 rfl rfl fun H hO=>?_;cbv;refine B1 hE hO 0 rfl ?_;cbv;cases h;exact hK hO (.refl _)
def cf25 :Cf:=⟨[4,5,8,9,10],[(11,17)],[(99,24)],[],[],[]⟩
set_option maxHeartbeats 2000000 in
theorem c25 (N aC aD r) (h:AS N aC aD=some r):C5 prog 25 [(G3 aC),(G3 aD)] (.tup [(G3 r.1),vi r.2]):=by
 unfold AS at h
 refine P3 cf25 func25 call25 ntmps25 ?_;intro E H0 K hE hK hO;cbv;refine E6 hE hO fun b1 H hO=>?_;cbv;refine E6 hE hO fun b2 H hO=>?_;cbv;refine A8 hE h (c72 N aC aD) (.refl _) fun r3 h=>?_;cbv;refine B0 hE h (fun _ h=>?_) fun _ h=>?_
 ·cbv;refine A7 hE hO 1 rfl rfl fun H hO=>?_;cbv;refine A7 hE hO 0 rfl rfl fun H hO=>?_;cbv;refine B1 hE hO 1 rfl ?_;cbv;refine B1 hE hO 0 rfl ?_;cbv;cases h;exact hK hO (.tup (.cons (.agg (.cons (.refl _) (.cons (.lit _ (B4)) (.cons (.lit _ (B4)) (.refl _))))) (.refl _)))
 cbv;refine Ld hE Ee eAA9 (V.int .i64) hO fun m4 o5 H ho5 hO=>?_;cbv;refine Sq (eAC0 (⟨0,0⟩:C9)) ?_;refine Dq hE (kt:=129) (et:=3) (by kernel_rfl) (by kernel_rfl) Ug (GC .i64) hO ho5 0 rfl h fun l7 o6 H ho6 h hO=>?_;cbv;refine E6 hE hO fun b8 H hO=>?_;cbv;refine A7 hE hO 0 rfl rfl fun H hO=>?_;cbv;refine E6 hE hO fun b9 H hO=>?_;cbv;refine A7 hE hO 0 rfl rfl fun H hO=>?_;cbv;refine E6 hE hO fun b10 H hO=>?_;cbv;refine A7 hE hO 0 rfl rfl fun H hO=>?_;cbv;replace hO:=hO.cast (L':=(cb b10 [vi 0]::cb b9 [vi aC.cW,.sl [] .nil,.sl [] .nil]::cb b8 [.sl (lst eAA9 ([(⟨0,0⟩:C9)])) .full]:: .blk m4 (.obj o6)::cb b2 [vi 0]::cb b1 [vi 0,.sl [] .nil,.sl [] .nil]::Bl [])) (by first|(rw[show([.agg [vi 0,vi 0]]:List V)=lst eAA9 ([(⟨0,0⟩:C9)])from D4 ((eAC0 (⟨0,0⟩:C9)).symm) (B4)];done)|(rw[show([.agg [vi 0,vi 0]]:List V)=lst eAA9 ([(⟨0,0⟩:C9)])from D4 ((eAC0 (⟨0,0⟩:C9)).symm) (B4)];simp only[←B4];done)|(rw[show([.agg [vi 0,vi 0]]:List V)=lst eAA9 ([(⟨0,0⟩:C9)])from D4 ((eAC0 (⟨0,0⟩:C9)).symm) (B4)];simp only[←B4];rfl)|(rw[show([.agg [vi 0,vi 0]]:List V)=lst eAA9 ([(⟨0,0⟩:C9)])from D4 ((eAC0 (⟨0,0⟩:C9)).symm) (B4)];rfl));replace hO:=hO.tl0 (t:=.full) rfl;replace hO:=hO.cast (L':=(.tl .full::cb b10 [vi 0]::cb b9 [vi aC.cW,.sl (lst V.bool ([])) .nil,.sl (lst eAA5 ([])) .nil]::cb b8 [.sl (lst eAA9 ([(⟨0,0⟩:C9)])) .full]:: .blk m4 (.obj o6)::cb b2 [vi 0]::cb b1 [vi 0,.sl [] .nil,.sl [] .nil]::Bl [])) (by simp only[ob,cb,sr,←B4]<;>rfl);replace hO:=hO.tl0 (t:=.nil) rfl;replace hO:=hO.tl0 (t:=.nil) rfl;obtain⟨s19,hx,h⟩:=bind_some h;refine Mk cf25 hE K3 (γ:=E5×E5×E5×Nat×Obj) (fun s12 g=>[(2,.v (.eref (C6 aC) 0)),(3,.v (.eref (C6 aD) 0)),(4,.v (.ref b1 0)),(5,.v (.ref b2 0)),(7,.v (.eref [.map m4] 0)),(8,.v (.ref b8 0)),(9,.v (.ref b9 0)),(10,.v (.ref g.2.2.2.1 0))]) (fun s12 g ds18 H1=>K1 g.1∧K1 g.2.1∧K1 g.2.2.1∧True∧CK Ee eAA9 (V.int .i64) g.2.2.2.2 s12.2.2.2∧B6 Eq H0 (.tl g.1:: .tl g.2.1:: .tl g.2.2.1:: .blk g.2.2.2.1 (.cells [vi s12.1])::cb b9 [vi s12.2.1.cW,.sl (lst V.bool s12.2.1.cU) g.2.1,.sl (lst eAA5 s12.2.1.cV) g.1]::cb b8 [.sl (lst eAA9 s12.2.2.1) g.2.2.1]:: .blk m4 (.obj g.2.2.2.2)::cb b2 [vi 0]::cb b1 [vi 0,.sl [] .nil,.sl [] .nil]::Bl ds18) H1) (fun x e l ds18 H1=>match(generalizing:=false) x with| .inl y=>∃u1:E5,K1 u1∧∃u2:E5,K1 u2∧∃u3:E5,K1 u3∧∃u4:Nat,True∧∃u5:Obj,CK Ee eAA9 (V.int .i64) u5 y.2.2.2∧e= .exit 0∧l=[(4,.v (.ref b1 0)),(5,.v (.ref b2 0)),(9,.v (.ref b9 0))]∧B6 Eq H0 (.tl u1:: .tl u2:: .tl u3::cb u4 [vi y.1]::cb b9 [vi y.2.1.cW,.sl (lst V.bool y.2.1.cU) u2,.sl (lst eAA5 y.2.1.cV) u1]::cb b8 [.sl (lst eAA9 y.2.2.1) u3]:: .blk m4 (.obj u5)::cb b2 [vi 0]::cb b1 [vi 0,.sl [] .nil,.sl [] .nil]::Bl ds18) H1| .inr y=>∃u1:E5,K1 u1∧∃u2:E5,K1 u2∧∃u3:E5,K1 u3∧∃u4:Nat,True∧∃u5:Obj,CK Ee eAA9 (V.int .i64) u5 y.2.2.2.1∧e= .ret∧l=[(4,.v (.ref b1 0)),(5,.v (.ref b2 0))]∧B6 Eq H0 (.tl u1:: .tl u2:: .tl u3::cb u4 [vi y.1]::cb b9 [vi y.2.1.cW,.sl (lst V.bool y.2.1.cU) u2,.sl (lst eAA5 y.2.1.cV) u1]::cb b8 [.sl (lst eAA9 y.2.2.1) u3]:: .blk m4 (.obj u5)::cb b2 [vi y.2.2.2.2]::cb b1 [vi 0,.sl [] .nil,.sl [] .nil]::Bl ds18) H1) (by kernel_rfl) ?_ (⟨.nil,.nil,.full,b10,o6⟩) hx ?_ ?_ ?_
 ·rintro s12 ⟨t13,t14,t15,b16,q17⟩ ds18 H o ⟨ht13,ht14,ht15,hb16,hq17,hO⟩ h;clear hx;cbv;refine B1 hE hO 3 rfl ?_;cbv;refine B1 hE hO 5 rfl ?_;cbv;refine F3 hE ?_;cbv;refine B0 hE h (fun _ h=>?_) fun _ h=>?_
  ·cbv;refine B1 hE hO 5 rfl ?_;cbv;refine B1 hE hO 3 rfl ?_;cbv;refine D3 hE eAC0 h fun x20 h=>?_;cbv;refine B1 hE hO 4 rfl ?_;cbv;refine KJ hE (by kernel_rfl) rfl ?_;cbv;refine D3 hE (fun _=>rfl) h fun x21 h=>?_;cbv;refine B0 hE h (fun _ h=>?_) fun _ h=>?_
   ·cbv;refine KJ hE (by kernel_rfl) rfl ?_;cbv;refine D3 hE (fun _=>rfl) h fun x22 h=>?_;cbv;refine T5 (f:=V.bool) hE (fun _=>rfl) (by decide) hO 1 rfl ht14 (l:=s12.2.1.cU) (m:=[x22]) (.refl _) (.lstc (.refl _) (.lst0)) h fun l24 t23 H hO ht23 h=>?_;cbv;refine A7 hE hO 4 rfl rfl fun H hO=>?_;cbv;refine KJ hE (by kernel_rfl) rfl ?_;cbv;refine T4 hE h (c41 N aC x20.E0) (.refl _) fun r25 v26 hv26 h=>?_;cbv;obtain⟨o34,hx,h⟩:=bind_some h;refine BT cf25 hE K3 (ι:=Unit) (enc:=fun(x:C3)=>[(BL x)]) (fun(s28:A0×(List C9)×(List (C9×Int))) F H=>∃g:E5×E5×Obj,(K1 g.1∧K1 g.2.1∧CK Ee eAA9 (V.int .i64) g.2.2 s28.2.2)∧B6 Eq F (.tl g.1:: .tl t23:: .tl g.2.1::cb b16 [vi s12.1]::cb b9 [vi s28.1.cW,.sl (lst V.bool s28.1.cU) t23,.sl (lst eAA5 s28.1.cV) g.1]::cb b8 [.sl (lst eAA9 s28.2.1) g.2.1]:: .blk m4 (.obj g.2.2)::cb b2 [vi 0]::cb b1 [vi 0,.sl [] .nil,.sl [] .nil]::Bl ds18) H) (fun(r:(A0×(List C9)×(List (C9×Int))×Int)) e F H=>∃g:E5×E5×Obj,(e= .ret∧K1 g.1∧K1 g.2.1∧CK Ee eAA9 (V.int .i64) g.2.2 r.2.2.1)∧B6 Eq F (.tl g.1:: .tl t23:: .tl g.2.1::cb b16 [vi s12.1]::cb b9 [vi r.1.cW,.sl (lst V.bool r.1.cU) t23,.sl (lst eAA5 r.1.cV) g.1]::cb b8 [.sl (lst eAA9 r.2.1) g.2.1]:: .blk m4 (.obj g.2.2)::cb b2 [vi r.2.2.2]::cb b1 [vi 0,.sl [] .nil,.sl [] .nil]::Bl ds18) H) (fun i s28 y27=>[(3,.v (.eref (C6 aD) 0)),(4,.v (.ref b1 0)),(5,.v (.ref b2 0)),(7,.v (.eref [.map m4] 0)),(8,.v (.ref b8 0)),(9,.v (.ref b9 0)),(10,.v (.ref b16 0)),(11,.v (.eref (Ae2 x20) 0)),(12,.v (.eref (GM y27) 0))]) (fun i s28 y27 F H=>∃g:E5×E5×Obj,(K1 g.1∧K1 g.2.1∧CK Ee eAA9 (V.int .i64) g.2.2 s28.2.2)∧B6 Eq F (.tl g.1:: .tl t23:: .tl g.2.1::cb b16 [vi s12.1]::cb b9 [vi s28.1.cW,.sl (lst V.bool s28.1.cU) t23,.sl (lst eAA5 s28.1.cV) g.1]::cb b8 [.sl (lst eAA9 s28.2.1) g.2.1]:: .blk m4 (.obj g.2.2)::cb b2 [vi 0]::cb b1 [vi 0,.sl [] .nil,.sl [] .nil]::Bl ds18) H) (fun _=>D2.ex fun _=>B6.stable C4 _) (fun _ _=>D2.ex fun _=>B6.stable C4 _) (fun _ _ _=>D2.ex fun _=>B6.stable C4 _) hv26 hx (⟨⟨t13,t15,q17⟩,⟨ht13,ht15,hq17⟩,hO⟩) (by decide) (fun _=>rfl) (by kernel_rfl) (by kernel_rfl) ?_ ?_ ?_ ?_
    ·rintro E i30 y27 s28 F29 H hE ⟨⟨t31,t32,q33⟩,⟨ht31,ht32,hq33⟩,hO⟩;clear hx h;cbv;exact⟨(),⟨⟨t31,t32,q33⟩,⟨ht31,ht32,hq33⟩,hO⟩,.e rfl (.e4 (.e4 .z)),rfl⟩
    ·rintro E i30 _ y27 s28 F29 H o hE hF h ⟨⟨t31,t32,q33⟩,⟨ht31,ht32,hq33⟩,hO⟩;clear hx;cbv;refine KJ hE (by kernel_rfl) rfl ?_;cbv;refine T4 hE h (c41 N aD x20.E1) (.refl _) fun r35 v36 hv36 h=>?_;cbv;obtain⟨o44,hx,h⟩:=bind_some h;refine Uc cf25 hE K3 (ι:=Unit) (enc:=fun(x:C3)=>[(BL x)]) (fun(s38:A0×(List C9)×(List (C9×Int))) F H=>∃g:E5×E5×Obj,(K1 g.1∧K1 g.2.1∧CK Ee eAA9 (V.int .i64) g.2.2 s38.2.2)∧B6 Eq F (.tl g.1:: .tl t23:: .tl g.2.1::cb b16 [vi s12.1]::cb b9 [vi s38.1.cW,.sl (lst V.bool s38.1.cU) t23,.sl (lst eAA5 s38.1.cV) g.1]::cb b8 [.sl (lst eAA9 s38.2.1) g.2.1]:: .blk m4 (.obj g.2.2)::cb b2 [vi 0]::cb b1 [vi 0,.sl [] .nil,.sl [] .nil]::Bl ds18) H) (fun(r:(A0×(List C9)×(List (C9×Int))×Int)) e F H=>∃g:E5×E5×Obj,(e= .ret∧K1 g.1∧K1 g.2.1∧CK Ee eAA9 (V.int .i64) g.2.2 r.2.2.1)∧B6 Eq F (.tl g.1:: .tl t23:: .tl g.2.1::cb b16 [vi s12.1]::cb b9 [vi r.1.cW,.sl (lst V.bool r.1.cU) t23,.sl (lst eAA5 r.1.cV) g.1]::cb b8 [.sl (lst eAA9 r.2.1) g.2.1]:: .blk m4 (.obj g.2.2)::cb b2 [vi r.2.2.2]::cb b1 [vi 0,.sl [] .nil,.sl [] .nil]::Bl ds18) H) (fun i s38 y37=>[(4,.v (.ref b1 0)),(5,.v (.ref b2 0)),(7,.v (.eref [.map m4] 0)),(8,.v (.ref b8 0)),(9,.v (.ref b9 0)),(10,.v (.ref b16 0)),(12,.v (.eref (GM y27) 0)),(13,.v (.eref (GM y37) 0))]) (fun i s38 y37 F H=>∃g:E5×E5×Obj,(K1 g.1∧K1 g.2.1∧CK Ee eAA9 (V.int .i64) g.2.2 s38.2.2)∧B6 Eq F (.tl g.1:: .tl t23:: .tl g.2.1::cb b16 [vi s12.1]::cb b9 [vi s38.1.cW,.sl (lst V.bool s38.1.cU) t23,.sl (lst eAA5 s38.1.cV) g.1]::cb b8 [.sl (lst eAA9 s38.2.1) g.2.1]:: .blk m4 (.obj g.2.2)::cb b2 [vi 0]::cb b1 [vi 0,.sl [] .nil,.sl [] .nil]::Bl ds18) H) (fun _=>D2.ex fun _=>B6.stable C4 _) (fun _ _=>D2.ex fun _=>B6.stable C4 _) (fun _ _ _=>D2.ex fun _=>B6.stable C4 _) hv36 hx hF (⟨⟨t31,t32,q33⟩,⟨ht31,ht32,hq33⟩,hO⟩) (by decide) (fun _=>rfl) (by kernel_rfl) (by kernel_rfl) ?_ ?_ ?_ ?_
     ·rintro E i40 y37 s38 F39 H hE ⟨⟨t41,t42,q43⟩,⟨ht41,ht42,hq43⟩,hO⟩;clear hx h;cbv;exact⟨(),⟨⟨t41,t42,q43⟩,⟨ht41,ht42,hq43⟩,hO⟩,.e4 (.e4 .z),rfl⟩
     ·rintro E i40 _ y37 s38 F39 H o hE hF h ⟨⟨t41,t42,q43⟩,⟨ht41,ht42,hq43⟩,hO⟩;clear hx;cbv;refine A8 hE h (c73 N y27.On y37.On) (.refl _) fun r45 h=>?_;cbv;refine B0 hE h (fun _ h=>?_) fun _ h=>?_
      ·cbv;refine A7 hE hO 8 rfl rfl fun H hO=>?_;cbv;refine A7 hE hO 7 rfl rfl fun H hO=>?_;cbv;cases h;exact⟨_,rfl,rfl,⟨⟨t41,t42,q43⟩,⟨rfl,⟨ht41,ht42,hq43⟩⟩,hO⟩⟩
      cbv;refine A8 hE h (c70 N r45.1) (.refl _) fun r46 h=>?_;cbv;refine B0 hE h (fun _ h=>?_) fun _ h=>?_
      ·cbv;cases h;exact⟨_,rfl,⟨⟨t41,t42,q43⟩,⟨ht41,ht42,hq43⟩,hO⟩⟩
      cbv;refine Aa4 (eAC0 (⟨y27.To,y37.To⟩:C9)) ?_;refine KH hE (kt:=129) (et:=3) (by kernel_rfl) (by kernel_rfl) Ug (0:Int) (by kernel_rfl) rfl hO hq43 6 rfl h fun r47 h=>?_;cbv;obtain⟨s48,hx,h⟩:=bind_some h;refine P0 cf25 hE K3 (fun e l H1=>∃u1:E5,K1 u1∧∃u2:Obj,CK Ee eAA9 (V.int .i64) u2 s48.2.2∧e= .normal∧l=[(9,.v (.ref b9 0)),(10,.v (.ref b16 0)),(14,.v (.eref (N1 r45.1) 0)),fi 17 s48.1]∧B6 Eq F39 (.tl t41:: .tl t23:: .tl u1::cb b16 [vi s12.1]::cb b9 [vi s38.1.cW,.sl (lst V.bool s38.1.cU) t23,.sl (lst eAA5 s38.1.cV) t41]::cb b8 [.sl (lst eAA9 s48.2.1) u1]:: .blk m4 (.obj u2)::cb b2 [vi 0]::cb b1 [vi 0,.sl [] .nil,.sl [] .nil]::Bl ds18) H1) (by kernel_rfl) ?_ ?_
      ·clear h;have h:=hx;clear hx;cbv;refine B0 hE h (fun _ h=>?_) fun _ h=>?_
       ·cbv;refine B1 hE hO 5 rfl ?_;cbv;refine F3 hE ?_;cbv;refine Sq (eAC0 (⟨y27.To,y37.To⟩:C9)) ?_;refine Dq hE (kt:=129) (et:=3) (by kernel_rfl) (by kernel_rfl) Ug (GC .i64) hO hq43 6 rfl h fun l50 o49 H ho49 h hO=>?_;cbv;refine B1 hE hO 5 rfl ?_;cbv;refine T5 (f:=eAA9) hE Ti (by decide) hO 2 rfl ht42 (l:=s38.2.1) (m:=[(⟨y27.To,y37.To⟩:C9)]) (.refl _) (.lstc (.eq (eAC0 (⟨y27.To,y37.To⟩:C9)) (.refl _)) (.lst0)) h fun l52 t51 H hO ht51 h=>?_;cbv;refine A7 hE hO 5 rfl rfl fun H hO=>?_;cbv;cases h;exact⟨_,⟨t51,ht51,o49,ho49,rfl,rfl,hO⟩,.e4 .z,rfl⟩
       cbv;cases h;exact⟨_,⟨t42,ht42,q43,hq43,rfl,rfl,hO⟩,.e4 .z,rfl⟩
      clear hx;rintro e l H ⟨t53,ht53,q54,hq54,rfl,rfl,hO⟩;cbv;refine B1 hE hO 4 rfl ?_;cbv;refine B1 hE hO 3 rfl ?_;cbv;refine T5 (f:=eAA5) hE Ck (by decide) hO 0 rfl ht41 (l:=s38.1.cV) (m:=[(⟨s12.1,s48.1,r45.1⟩:C3)]) (.refl _) (.lstc (.eq (eAB1 (⟨s12.1,s48.1,r45.1⟩:C3)) (.refl _)) (.lst0)) h fun l56 t55 H hO ht55 h=>?_;cbv;refine A7 hE hO 4 rfl rfl fun H hO=>?_;cbv;cases h;exact⟨_,rfl,⟨⟨t55,t53,q54⟩,⟨ht55,ht53,hq54⟩,hO⟩⟩
     ·rintro s62 H rfl ⟨⟨t63,t64,q65⟩,⟨ht63,ht64,hq65⟩,hO⟩;clear hx;cbv;cases h;exact⟨_,rfl,⟨⟨t63,t64,q65⟩,⟨ht63,ht64,hq65⟩,hO⟩⟩
     rintro y66 e H rfl hX;clear hx
     rcases hX with⟨⟨t67,t68,q69⟩,⟨rfl,ht67,ht68,hq69⟩,hO⟩
     cbv;cases h;exact⟨_,rfl,rfl,⟨⟨t67,t68,q69⟩,⟨rfl,⟨ht67,ht68,hq69⟩⟩,hO⟩⟩
    ·rintro d70 s75 H rfl hd ⟨⟨t76,t77,q78⟩,⟨ht76,ht77,hq78⟩,hO⟩;have hO:B6 Eq H0 (.tl t76:: .tl t23:: .tl t77::cb b16 [vi s12.1]::cb b9 [vi s75.1.cW,.sl (lst V.bool s75.1.cU) t23,.sl (lst eAA5 s75.1.cV) t76]::cb b8 [.sl (lst eAA9 s75.2.1) t77]:: .blk m4 (.obj q78)::cb b2 [vi 0]::cb b1 [vi 0,.sl [] .nil,.sl [] .nil]::Bl (d70::ds18)) H:=B6.dbs1 (A:=[_,_,_,_,_,_,_,_,_]) (ds:=ds18) (B6.dblk hd hO);clear hd;clear hx;cbv;refine B1 hE hO 5 rfl ?_;cbv;refine F3 hE ?_;cbv;refine B1 hE hO 4 rfl ?_;cbv;refine F3 hE ?_;cbv;refine B0 hE h (fun _ h=>?_) fun _ h=>?_
     ·cbv;refine A7 hE hO 8 rfl rfl fun H hO=>?_;cbv;refine A7 hE hO 7 rfl rfl fun H hO=>?_;cbv;cases h;exact⟨_,_,_,rfl,⟨t76,ht76,t23,ht23,t77,ht77,b16,trivial,q78,hq78,rfl,rfl,hO⟩,.e2 .z,rfl⟩
     cbv;refine B1 hE hO 3 rfl ?_;cbv;refine E6 hE hO fun b79 H hO=>?_;cbv;refine A7 hE hO 0 rfl rfl fun H hO=>?_;cbv;refine B1 hE hO 0 rfl ?_;cbv;refine A7 hE hO 0 rfl rfl fun H hO=>?_;cbv;have hO:B6 Eq H0 (cb b16 [vi s12.1]:: .tl t76:: .tl t23:: .tl t77::cb b79 [vi (ar .add .i64 s12.1 1)]::cb b9 [vi s75.1.cW,.sl (lst V.bool s75.1.cU) t23,.sl (lst eAA5 s75.1.cV) t76]::cb b8 [.sl (lst eAA9 s75.2.1) t77]:: .blk m4 (.obj q78)::cb b2 [vi 0]::cb b1 [vi 0,.sl [] .nil,.sl [] .nil]::Bl (d70::ds18)) H:=hO.swp 0 4 rfl rfl;cases h;exact⟨_,⟨t76,t23,t77,b79,q78⟩,_,rfl,.e4 (.e4 .z),rfl,ht76,ht23,ht77,trivial,hq78,hO.tail⟩
    rintro d70 y80 e H rfl hd hX;clear hx
    rcases hX with⟨⟨t81,t82,q83⟩,⟨rfl,ht81,ht82,hq83⟩,hO⟩
    have hO:B6 Eq H0 (.tl t81:: .tl t23:: .tl t82::cb b16 [vi s12.1]::cb b9 [vi y80.1.cW,.sl (lst V.bool y80.1.cU) t23,.sl (lst eAA5 y80.1.cV) t81]::cb b8 [.sl (lst eAA9 y80.2.1) t82]:: .blk m4 (.obj q83)::cb b2 [vi y80.2.2.2]::cb b1 [vi 0,.sl [] .nil,.sl [] .nil]::Bl (d70::ds18)) H:=B6.dbs1 (A:=[_,_,_,_,_,_,_,_,_]) (ds:=ds18) (B6.dblk hd hO);clear hd;cbv;cases h;exact⟨_,_,_,rfl,⟨t81,ht81,t23,ht23,t82,ht82,b16,trivial,q83,hq83,rfl,rfl,hO⟩,.e2 .z,rfl⟩
   cbv;refine T5 (f:=V.bool) hE (fun _=>rfl) (by decide) hO 1 rfl ht14 (l:=s12.2.1.cU) (m:=[false]) (.refl _) (.lstc (.refl _) (.lst0)) h fun l85 t84 H hO ht84 h=>?_;cbv;refine A7 hE hO 4 rfl rfl fun H hO=>?_;cbv;refine KJ hE (by kernel_rfl) rfl ?_;cbv;refine T4 hE h (c41 N aC x20.E0) (.refl _) fun r86 v87 hv87 h=>?_;cbv;obtain⟨o95,hx,h⟩:=bind_some h;refine BT cf25 hE K3 (ι:=Unit) (enc:=fun(x:C3)=>[(BL x)]) (fun(s89:A0×(List C9)×(List (C9×Int))) F H=>∃g:E5×E5×Obj,(K1 g.1∧K1 g.2.1∧CK Ee eAA9 (V.int .i64) g.2.2 s89.2.2)∧B6 Eq F (.tl g.1:: .tl t84:: .tl g.2.1::cb b16 [vi s12.1]::cb b9 [vi s89.1.cW,.sl (lst V.bool s89.1.cU) t84,.sl (lst eAA5 s89.1.cV) g.1]::cb b8 [.sl (lst eAA9 s89.2.1) g.2.1]:: .blk m4 (.obj g.2.2)::cb b2 [vi 0]::cb b1 [vi 0,.sl [] .nil,.sl [] .nil]::Bl ds18) H) (fun(r:(A0×(List C9)×(List (C9×Int))×Int)) e F H=>∃g:E5×E5×Obj,(e= .ret∧K1 g.1∧K1 g.2.1∧CK Ee eAA9 (V.int .i64) g.2.2 r.2.2.1)∧B6 Eq F (.tl g.1:: .tl t84:: .tl g.2.1::cb b16 [vi s12.1]::cb b9 [vi r.1.cW,.sl (lst V.bool r.1.cU) t84,.sl (lst eAA5 r.1.cV) g.1]::cb b8 [.sl (lst eAA9 r.2.1) g.2.1]:: .blk m4 (.obj g.2.2)::cb b2 [vi r.2.2.2]::cb b1 [vi 0,.sl [] .nil,.sl [] .nil]::Bl ds18) H) (fun i s89 y88=>[(3,.v (.eref (C6 aD) 0)),(4,.v (.ref b1 0)),(5,.v (.ref b2 0)),(7,.v (.eref [.map m4] 0)),(8,.v (.ref b8 0)),(9,.v (.ref b9 0)),(10,.v (.ref b16 0)),(11,.v (.eref (Ae2 x20) 0)),(12,.v (.eref (GM y88) 0))]) (fun i s89 y88 F H=>∃g:E5×E5×Obj,(K1 g.1∧K1 g.2.1∧CK Ee eAA9 (V.int .i64) g.2.2 s89.2.2)∧B6 Eq F (.tl g.1:: .tl t84:: .tl g.2.1::cb b16 [vi s12.1]::cb b9 [vi s89.1.cW,.sl (lst V.bool s89.1.cU) t84,.sl (lst eAA5 s89.1.cV) g.1]::cb b8 [.sl (lst eAA9 s89.2.1) g.2.1]:: .blk m4 (.obj g.2.2)::cb b2 [vi 0]::cb b1 [vi 0,.sl [] .nil,.sl [] .nil]::Bl ds18) H) (fun _=>D2.ex fun _=>B6.stable C4 _) (fun _ _=>D2.ex fun _=>B6.stable C4 _) (fun _ _ _=>D2.ex fun _=>B6.stable C4 _) hv87 hx (⟨⟨t13,t15,q17⟩,⟨ht13,ht15,hq17⟩,hO⟩) (by decide) (fun _=>rfl) (by kernel_rfl) (by kernel_rfl) ?_ ?_ ?_ ?_
   ·rintro E i91 y88 s89 F90 H hE ⟨⟨t92,t93,q94⟩,⟨ht92,ht93,hq94⟩,hO⟩;clear hx h;cbv;exact⟨(),⟨⟨t92,t93,q94⟩,⟨ht92,ht93,hq94⟩,hO⟩,.e rfl (.e4 (.e4 .z)),rfl⟩
   ·rintro E i91 _ y88 s89 F90 H o hE hF h ⟨⟨t92,t93,q94⟩,⟨ht92,ht93,hq94⟩,hO⟩;clear hx;cbv;refine KJ hE (by kernel_rfl) rfl ?_;cbv;refine T4 hE h (c41 N aD x20.E1) (.refl _) fun r96 v97 hv97 h=>?_;cbv;obtain⟨o105,hx,h⟩:=bind_some h;refine Uc cf25 hE K3 (ι:=Unit) (enc:=fun(x:C3)=>[(BL x)]) (fun(s99:A0×(List C9)×(List (C9×Int))) F H=>∃g:E5×E5×Obj,(K1 g.1∧K1 g.2.1∧CK Ee eAA9 (V.int .i64) g.2.2 s99.2.2)∧B6 Eq F (.tl g.1:: .tl t84:: .tl g.2.1::cb b16 [vi s12.1]::cb b9 [vi s99.1.cW,.sl (lst V.bool s99.1.cU) t84,.sl (lst eAA5 s99.1.cV) g.1]::cb b8 [.sl (lst eAA9 s99.2.1) g.2.1]:: .blk m4 (.obj g.2.2)::cb b2 [vi 0]::cb b1 [vi 0,.sl [] .nil,.sl [] .nil]::Bl ds18) H) (fun(r:(A0×(List C9)×(List (C9×Int))×Int)) e F H=>∃g:E5×E5×Obj,(e= .ret∧K1 g.1∧K1 g.2.1∧CK Ee eAA9 (V.int .i64) g.2.2 r.2.2.1)∧B6 Eq F (.tl g.1:: .tl t84:: .tl g.2.1::cb b16 [vi s12.1]::cb b9 [vi r.1.cW,.sl (lst V.bool r.1.cU) t84,.sl (lst eAA5 r.1.cV) g.1]::cb b8 [.sl (lst eAA9 r.2.1) g.2.1]:: .blk m4 (.obj g.2.2)::cb b2 [vi r.2.2.2]::cb b1 [vi 0,.sl [] .nil,.sl [] .nil]::Bl ds18) H) (fun i s99 y98=>[(4,.v (.ref b1 0)),(5,.v (.ref b2 0)),(7,.v (.eref [.map m4] 0)),(8,.v (.ref b8 0)),(9,.v (.ref b9 0)),(10,.v (.ref b16 0)),(12,.v (.eref (GM y88) 0)),(13,.v (.eref (GM y98) 0))]) (fun i s99 y98 F H=>∃g:E5×E5×Obj,(K1 g.1∧K1 g.2.1∧CK Ee eAA9 (V.int .i64) g.2.2 s99.2.2)∧B6 Eq F (.tl g.1:: .tl t84:: .tl g.2.1::cb b16 [vi s12.1]::cb b9 [vi s99.1.cW,.sl (lst V.bool s99.1.cU) t84,.sl (lst eAA5 s99.1.cV) g.1]::cb b8 [.sl (lst eAA9 s99.2.1) g.2.1]:: .blk m4 (.obj g.2.2)::cb b2 [vi 0]::cb b1 [vi 0,.sl [] .nil,.sl [] .nil]::Bl ds18) H) (fun _=>D2.ex fun _=>B6.stable C4 _) (fun _ _=>D2.ex fun _=>B6.stable C4 _) (fun _ _ _=>D2.ex fun _=>B6.stable C4 _) hv97 hx hF (⟨⟨t92,t93,q94⟩,⟨ht92,ht93,hq94⟩,hO⟩) (by decide) (fun _=>rfl) (by kernel_rfl) (by kernel_rfl) ?_ ?_ ?_ ?_
    ·rintro E i101 y98 s99 F100 H hE ⟨⟨t102,t103,q104⟩,⟨ht102,ht103,hq104⟩,hO⟩;clear hx h;cbv;exact⟨(),⟨⟨t102,t103,q104⟩,⟨ht102,ht103,hq104⟩,hO⟩,.e4 (.e4 .z),rfl⟩
    ·rintro E i101 _ y98 s99 F100 H o hE hF h ⟨⟨t102,t103,q104⟩,⟨ht102,ht103,hq104⟩,hO⟩;clear hx;cbv;refine A8 hE h (c73 N y88.On y98.On) (.refl _) fun r106 h=>?_;cbv;refine B0 hE h (fun _ h=>?_) fun _ h=>?_
     ·cbv;refine A7 hE hO 8 rfl rfl fun H hO=>?_;cbv;refine A7 hE hO 7 rfl rfl fun H hO=>?_;cbv;cases h;exact⟨_,rfl,rfl,⟨⟨t102,t103,q104⟩,⟨rfl,⟨ht102,ht103,hq104⟩⟩,hO⟩⟩
     cbv;refine A8 hE h (c70 N r106.1) (.refl _) fun r107 h=>?_;cbv;refine B0 hE h (fun _ h=>?_) fun _ h=>?_
     ·cbv;cases h;exact⟨_,rfl,⟨⟨t102,t103,q104⟩,⟨ht102,ht103,hq104⟩,hO⟩⟩
     cbv;refine Aa4 (eAC0 (⟨y88.To,y98.To⟩:C9)) ?_;refine KH hE (kt:=129) (et:=3) (by kernel_rfl) (by kernel_rfl) Ug (0:Int) (by kernel_rfl) rfl hO hq104 6 rfl h fun r108 h=>?_;cbv;obtain⟨s109,hx,h⟩:=bind_some h;refine P0 cf25 hE K3 (fun e l H1=>∃u1:E5,K1 u1∧∃u2:Obj,CK Ee eAA9 (V.int .i64) u2 s109.2.2∧e= .normal∧l=[(9,.v (.ref b9 0)),(10,.v (.ref b16 0)),(14,.v (.eref (N1 r106.1) 0)),fi 17 s109.1]∧B6 Eq F100 (.tl t102:: .tl t84:: .tl u1::cb b16 [vi s12.1]::cb b9 [vi s99.1.cW,.sl (lst V.bool s99.1.cU) t84,.sl (lst eAA5 s99.1.cV) t102]::cb b8 [.sl (lst eAA9 s109.2.1) u1]:: .blk m4 (.obj u2)::cb b2 [vi 0]::cb b1 [vi 0,.sl [] .nil,.sl [] .nil]::Bl ds18) H1) (by kernel_rfl) ?_ ?_
     ·clear h;have h:=hx;clear hx;cbv;refine B0 hE h (fun _ h=>?_) fun _ h=>?_
      ·cbv;refine B1 hE hO 5 rfl ?_;cbv;refine F3 hE ?_;cbv;refine Sq (eAC0 (⟨y88.To,y98.To⟩:C9)) ?_;refine Dq hE (kt:=129) (et:=3) (by kernel_rfl) (by kernel_rfl) Ug (GC .i64) hO hq104 6 rfl h fun l111 o110 H ho110 h hO=>?_;cbv;refine B1 hE hO 5 rfl ?_;cbv;refine T5 (f:=eAA9) hE Ti (by decide) hO 2 rfl ht103 (l:=s99.2.1) (m:=[(⟨y88.To,y98.To⟩:C9)]) (.refl _) (.lstc (.eq (eAC0 (⟨y88.To,y98.To⟩:C9)) (.refl _)) (.lst0)) h fun l113 t112 H hO ht112 h=>?_;cbv;refine A7 hE hO 5 rfl rfl fun H hO=>?_;cbv;cases h;exact⟨_,⟨t112,ht112,o110,ho110,rfl,rfl,hO⟩,.e4 .z,rfl⟩
      cbv;cases h;exact⟨_,⟨t103,ht103,q104,hq104,rfl,rfl,hO⟩,.e4 .z,rfl⟩
     clear hx;rintro e l H ⟨t114,ht114,q115,hq115,rfl,rfl,hO⟩;cbv;refine B1 hE hO 4 rfl ?_;cbv;refine B1 hE hO 3 rfl ?_;cbv;refine T5 (f:=eAA5) hE Ck (by decide) hO 0 rfl ht102 (l:=s99.1.cV) (m:=[(⟨s12.1,s109.1,r106.1⟩:C3)]) (.refl _) (.lstc (.eq (eAB1 (⟨s12.1,s109.1,r106.1⟩:C3)) (.refl _)) (.lst0)) h fun l117 t116 H hO ht116 h=>?_;cbv;refine A7 hE hO 4 rfl rfl fun H hO=>?_;cbv;cases h;exact⟨_,rfl,⟨⟨t116,t114,q115⟩,⟨ht116,ht114,hq115⟩,hO⟩⟩
    ·rintro s123 H rfl ⟨⟨t124,t125,q126⟩,⟨ht124,ht125,hq126⟩,hO⟩;clear hx;cbv;cases h;exact⟨_,rfl,⟨⟨t124,t125,q126⟩,⟨ht124,ht125,hq126⟩,hO⟩⟩
    rintro y127 e H rfl hX;clear hx
    rcases hX with⟨⟨t128,t129,q130⟩,⟨rfl,ht128,ht129,hq130⟩,hO⟩
    cbv;cases h;exact⟨_,rfl,rfl,⟨⟨t128,t129,q130⟩,⟨rfl,⟨ht128,ht129,hq130⟩⟩,hO⟩⟩
   ·rintro d131 s136 H rfl hd ⟨⟨t137,t138,q139⟩,⟨ht137,ht138,hq139⟩,hO⟩;have hO:B6 Eq H0 (.tl t137:: .tl t84:: .tl t138::cb b16 [vi s12.1]::cb b9 [vi s136.1.cW,.sl (lst V.bool s136.1.cU) t84,.sl (lst eAA5 s136.1.cV) t137]::cb b8 [.sl (lst eAA9 s136.2.1) t138]:: .blk m4 (.obj q139)::cb b2 [vi 0]::cb b1 [vi 0,.sl [] .nil,.sl [] .nil]::Bl (d131::ds18)) H:=B6.dbs1 (A:=[_,_,_,_,_,_,_,_,_]) (ds:=ds18) (B6.dblk hd hO);clear hd;clear hx;cbv;refine B1 hE hO 5 rfl ?_;cbv;refine F3 hE ?_;cbv;refine B1 hE hO 4 rfl ?_;cbv;refine F3 hE ?_;cbv;refine B0 hE h (fun _ h=>?_) fun _ h=>?_
    ·cbv;refine A7 hE hO 8 rfl rfl fun H hO=>?_;cbv;refine A7 hE hO 7 rfl rfl fun H hO=>?_;cbv;cases h;exact⟨_,_,_,rfl,⟨t137,ht137,t84,ht84,t138,ht138,b16,trivial,q139,hq139,rfl,rfl,hO⟩,.e2 .z,rfl⟩
    cbv;refine B1 hE hO 3 rfl ?_;cbv;refine E6 hE hO fun b140 H hO=>?_;cbv;refine A7 hE hO 0 rfl rfl fun H hO=>?_;cbv;refine B1 hE hO 0 rfl ?_;cbv;refine A7 hE hO 0 rfl rfl fun H hO=>?_;cbv;have hO:B6 Eq H0 (cb b16 [vi s12.1]:: .tl t137:: .tl t84:: .tl t138::cb b140 [vi (ar .add .i64 s12.1 1)]::cb b9 [vi s136.1.cW,.sl (lst V.bool s136.1.cU) t84,.sl (lst eAA5 s136.1.cV) t137]::cb b8 [.sl (lst eAA9 s136.2.1) t138]:: .blk m4 (.obj q139)::cb b2 [vi 0]::cb b1 [vi 0,.sl [] .nil,.sl [] .nil]::Bl (d131::ds18)) H:=hO.swp 0 4 rfl rfl;cases h;exact⟨_,⟨t137,t84,t138,b140,q139⟩,_,rfl,.e4 (.e4 .z),rfl,ht137,ht84,ht138,trivial,hq139,hO.tail⟩
   rintro d131 y141 e H rfl hd hX;clear hx
   rcases hX with⟨⟨t142,t143,q144⟩,⟨rfl,ht142,ht143,hq144⟩,hO⟩
   have hO:B6 Eq H0 (.tl t142:: .tl t84:: .tl t143::cb b16 [vi s12.1]::cb b9 [vi y141.1.cW,.sl (lst V.bool y141.1.cU) t84,.sl (lst eAA5 y141.1.cV) t142]::cb b8 [.sl (lst eAA9 y141.2.1) t143]:: .blk m4 (.obj q144)::cb b2 [vi y141.2.2.2]::cb b1 [vi 0,.sl [] .nil,.sl [] .nil]::Bl (d131::ds18)) H:=B6.dbs1 (A:=[_,_,_,_,_,_,_,_,_]) (ds:=ds18) (B6.dblk hd hO);clear hd;cbv;cases h;exact⟨_,_,_,rfl,⟨t142,ht142,t84,ht84,t143,ht143,b16,trivial,q144,hq144,rfl,rfl,hO⟩,.e2 .z,rfl⟩
  cbv;cases h;exact⟨_,_,_,rfl,⟨t13,ht13,t14,ht14,t15,ht15,b16,trivial,q17,hq17,rfl,rfl,hO⟩,.e rfl (.e2 .z),rfl⟩
 ·exact .e4 (.e4 .z)
 ·exact⟨trivial,trivial,trivial,trivial,ho6,hO⟩
 clear hx
 rcases s19 with y145|y151
 ·rintro e l ds18 H ⟨t146,ht146,t147,ht147,t148,ht148,b149,hb149,q150,hq150,rfl,rfl,hO⟩;cbv;refine B1 hE hO 4 rfl ?_;cbv;refine A7 hE hO 8 rfl rfl fun H hO=>?_;cbv;refine A7 hE hO 7 rfl rfl fun H hO=>?_;cbv
  rcases ds18 with _|⟨d0,ds18⟩
  ·cbv;have hO:B6 _ _ [.tl t146,.tl t147,.tl t148,cb b149 [vi y145.1],cb b9 [vi y145.2.1.cW,.sl (lst V.bool y145.2.1.cU) t147,.sl (lst eAA5 y145.2.1.cV) t146],cb b8 [.sl (lst eAA9 y145.2.2.1) t148],.blk m4 (.obj q150),cb b2 [vi 0],cb b1 [vi y145.2.1.cW,.sl (lst V.bool y145.2.1.cU) t147,.sl (lst eAA5 y145.2.1.cV) t146]] H:=hO;refine B1 hE hO 8 rfl ?_;cbv;refine B1 hE hO 7 rfl ?_;cbv;cases h;exact hK hO (.tup (.cons (.agg (.cons (.refl _) (.cons (.ro _ _) (.cons (.ro _ _) (.refl _))))) (.refl _)))
  cbv;refine Iu (A:=[_,_,_,_,_,_,_,_,_]) (ds:=d0::ds18) hE hO fun H hO=>?_;cbv;refine B1 hE hO 8 rfl ?_;cbv;refine B1 hE hO 7 rfl ?_;cbv;cases h;exact hK hO (.tup (.cons (.agg (.cons (.refl _) (.cons (.ro _ _) (.cons (.ro _ _) (.refl _))))) (.refl _)))
 rintro e l ds18 H ⟨t152,ht152,t153,ht153,t154,ht154,b155,hb155,q156,hq156,rfl,rfl,hO⟩;cbv
 rcases ds18 with _|⟨d0,ds18⟩
 ·cbv;have hO:B6 _ _ [.tl t152,.tl t153,.tl t154,cb b155 [vi y151.1],cb b9 [vi y151.2.1.cW,.sl (lst V.bool y151.2.1.cU) t153,.sl (lst eAA5 y151.2.1.cV) t152],cb b8 [.sl (lst eAA9 y151.2.2.1) t154],.blk m4 (.obj q156),cb b2 [vi y151.2.2.2.2],cb b1 [vi 0,.sl [] .nil,.sl [] .nil]] H:=hO;refine B1 hE hO 8 rfl ?_;cbv;refine B1 hE hO 7 rfl ?_;cbv;cases h;exact hK hO (.tup (.cons (.agg (.cons (.refl _) (.cons (.lit _ (B4)) (.cons (.lit _ (B4)) (.refl _))))) (.refl _)))
 cbv;refine Iu (A:=[_,_,_,_,_,_,_,_,_]) (ds:=d0::ds18) hE hO fun H hO=>?_;cbv;refine B1 hE hO 8 rfl ?_;cbv;refine B1 hE hO 7 rfl ?_;cbv;cases h;exact hK hO (.tup (.cons (.agg (.cons (.refl _) (.cons (.lit _ (B4)) (.cons (.lit _ (B4)) (.refl _))))) (.refl _)))
end Go.Ab
