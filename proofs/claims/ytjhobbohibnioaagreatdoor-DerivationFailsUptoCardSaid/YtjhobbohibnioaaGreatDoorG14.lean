/- . -/
import Derived.Test.YtjhobbohibnioaaGreatDoorG13
set_option linter.all false
open Go.Ab.Ar (lst)
namespace Go.Ab
open Go.RowKit Go.Proofs Go.Proofs.Tryz R0
variable [Ar][R0]
set_option maxRecDepth 100000
def cf172:Cf:=⟨[],[(4,14),(3000006,0),(3000006,1),(3000006,2),(3000006,3),(3000006,4),(3000006,5),(3000006,6),(3000006,7),(3000006,9),(3000006,10),(3000006,11),(3000006,13)],[],[2000006],[],[]⟩
set_option maxHeartbeats 2000000 in
def c172 (N:Nat) (bP:List C1) (aB:Int) (aF:Int) (aY:V) (aV:C1→C1→Option Int) (bS:∀y1 y2 q,aV y1 y2=some q→AA prog aY [(AQ y1),(AQ y2)] (vi q)) (r:(List C1)) (h:M7 N bP aB aF aV=some r):Ad8 prog 172 (fun q=>[.own q.id q.lo q.n,vi aB,vi aF,aY]) 4 (lst eBo5 bP) (lst eBo5 r):=by
 refine QW (T:=TT) (m:=4) cf172 S3 func172 (by rfl) (by kernel_rfl) call172 ntmps172 (by rfl) (fun _=>rfl) (by rfl) ?_;intro E H0 q0 K hE hq0 hO hK;cbv;obtain⟨s3,hx,h⟩:=bind_some h;refine Bd cf172 hE S3 (γ:=(OGq q0)) (fun s1 g=>[(0,.v (.own g.id g.lo g.n)),fi 1 aB,fi 2 aF,(3,.v (aY)),fi 8 s1.1]) (fun s1 g H1=>Cd g (Ar.len s1.2)∧C8 Eq (upd H0 q0.id none) [ob g 4 eBo5 s1.2] H1) (fun x e l H1=>∃u1:(OGq q0),Cd u1 (Ar.len x)∧e= .exit 0∧l=[(0,.v (.own u1.id u1.lo u1.n))]∧C8 Eq (upd H0 q0.id none) [ob u1 4 eBo5 x] H1) (by kernel_rfl) ?_ q0 hx ?_ ?_ ?_
 ·rintro s1 q2 H o ⟨hq2,hO⟩ h;cbv;apply C7 hE h<;>intro _ h
  ·cbv;obtain⟨s6,hx,h⟩:=bind_some h;refine Bd cf172 hE S3 (γ:=(OGq q0)) (fun s4 g=>[(0,.v (.own g.id g.lo g.n)),fi 1 aB,fi 2 aF,(3,.v (aY)),fi 8 s1.1,fi 9 s4.1]) (fun s4 g H1=>Cd g (Ar.len s4.2)∧C8 Eq (upd H0 q0.id none) [ob g 4 eBo5 s4.2] H1) (fun x e l H1=>∃u1:(OGq q0),Cd u1 (Ar.len x)∧e= .exit 2∧l=[(0,.v (.own u1.id u1.lo u1.n)),fi 1 aB,fi 2 aF,(3,.v (aY)),fi 8 s1.1]∧C8 Eq (upd H0 q0.id none) [ob u1 4 eBo5 x] H1) (by kernel_rfl) ?_ q2 hx ?_ ?_ ?_
   ·rintro s4 q5 H o ⟨hq5,hO⟩ h;cbv;apply C7 hE h<;>intro _ h
    ·cbv;refine BK hE hO hq5 0 rfl h fun h=>?_;cbv;refine CT hE eBp1 hO hq5 0 rfl h fun x7 h=>?_;cbv;refine BK hE hO hq5 0 rfl h fun h=>?_;cbv;refine CT hE eBp1 hO hq5 0 rfl h fun x8 h=>?_;cbv;refine BR hE (g:=fun r9=>vi r9) h (fun r9 hx=>bS x7 x8 r9 hx) .z fun r9 h=>?_;cbv;apply C7 hE h<;>intro _ h
     ·cbv;obtain⟨s10,hx,h⟩:=bind_some h;refine R8 cf172 hE S3 (fun e l H1=>∃u1:(OGq q0),Cd u1 (Ar.len s10)∧e= .normal∧l=[(0,.v (.own u1.id u1.lo u1.n)),fi 1 aB,fi 2 aF,(3,.v (aY)),fi 8 s1.1,fi 9 s4.1]∧C8 Eq (upd H0 q0.id none) [ob u1 4 eBo5 s10] H1) (by kernel_rfl) ?_ ?_
      ·clear h;have h:=hx;cbv;obtain⟨u330_0,eu330_0,h⟩:=bind_some h;obtain⟨x371,ex371,h⟩:=bind_some h;obtain⟨u490_0,eu490_0,h⟩:=bind_some h;obtain⟨x531,ex531,h⟩:=bind_some h;obtain⟨u570_0,eu570_0,h⟩:=bind_some h;obtain⟨l612,el612,h⟩:=bind_some h;obtain⟨u650_0,eu650_0,h⟩:=bind_some h;obtain⟨l692,el692,h⟩:=bind_some h
       repeat' first|refine And.intro ?_ ?_|(refine BK hE hO hq5 0 rfl (Bj eu330_0) fun hh=>?_;clear hh;cbv)|(refine CT hE eBp1 hO hq5 0 rfl (Bj ex371) fun x371 hh=>?_;obtain rfl:=M1 hh;cbv)|(refine BK hE hO hq5 0 rfl (Bj eu490_0) fun hh=>?_;clear hh;cbv)|(refine CT hE eBp1 hO hq5 0 rfl (Bj ex531) fun x531 hh=>?_;obtain rfl:=M1 hh;cbv)|(refine BK hE hO hq5 0 rfl (Bj eu570_0) fun hh=>?_;clear hh;cbv)|(refine Hb hE (f:=eBo5) (esz:=4) (tz:=4) (off:=0) (u:=(fun x611:C1=>x371)) (fun _=>⟨_,.eq (eBp1 _) .z,(by rw[eBp1];rfl),GT _,rfl⟩) (by decide) hO hq5 0 rfl (Bj el612) fun l612 H hq5 hh hO=>?_;obtain rfl:=M1 hh;cbv)|(refine BK hE hO hq5 0 rfl (Bj eu650_0) fun hh=>?_;clear hh;cbv)|(refine Hb hE (f:=eBo5) (esz:=4) (tz:=4) (off:=0) (u:=(fun x691:C1=>x531)) (fun _=>⟨_,.eq (eBp1 _) .z,(by rw[eBp1];rfl),GT _,rfl⟩) (by decide) hO hq5 0 rfl (Bj el692) fun l692 H hq5 hh hO=>?_;obtain rfl:=M1 hh;cbv)|(have h:=M1 h;subst h;exact⟨_,⟨q5,hq5,rfl,rfl,hO⟩,.e2 (.e4 .z),rfl⟩)
      clear hx;rintro e l H ⟨q771,hq771,rfl,rfl,hO⟩;cbv;cases h;exact⟨_,q771,rfl,.e2 (.e4 .z),rfl,hq771,hO⟩
     cbv;cases h;exact⟨_,_,rfl,⟨q5,hq5,rfl,rfl,hO⟩,.e rfl (.e4 .z),rfl⟩
    cbv;cases h;exact⟨_,_,rfl,⟨q5,hq5,rfl,rfl,hO⟩,.e rfl (.e4 .z),rfl⟩
   ·exact .e2 (.e4 .z)
   ·exact⟨hq2,hO⟩
   clear hx;rintro e l H ⟨q772,hq772,rfl,rfl,hO⟩;cbv;cases h;exact⟨_,q772,rfl,.e rfl (.e4 .z),rfl,hq772,hO⟩
  cbv;cases h;exact⟨_,_,rfl,⟨q2,hq2,rfl,rfl,hO⟩,.e rfl .z,rfl⟩
 ·exact .e rfl (.e4 .z)
 ·exact⟨hq0,hO⟩
 clear hx;rintro e l H ⟨q773,hq773,rfl,rfl,hO⟩;cbv;cases h;obtain⟨q773,rfl⟩:=q773;exact hK _ 0 _ hq773 rfl hO
def c130 (N:Nat) (bP:List C1) (aP:Int) (aY:V) (aV:C1→C1→Option Int) (bS:∀y1 y2 q,aV y1 y2=some q→AA prog aY [(AQ y1),(AQ y2)] (vi q)) (r:(List C1)) (h:V6 N bP aP aV=some r):Ad8 prog 130 (fun q=>[.own q.id q.lo q.n,vi aP,aY]) 4 (lst eBo5 bP) (lst eBo5 r):=by
 refine QW (T:=TT) (m:=3) cf0 S3 func130 (by rfl) (by kernel_rfl) call130 ntmps130 (by rfl) (fun _=>rfl) (by rfl) ?_;intro E H0 q0 K hE hq0 hO hK;cbv;obtain⟨s2,hx,h⟩:=bind_some h;refine I7 cf0 hE S3 (fun s1=>[(0,.v (.own q0.id q0.lo q0.n)),fi 1 aP,(2,.v (aY)),fi 6 20,fi 7 0,fi 8 20]) (fun s1 H1=>C8 Eq (upd H0 q0.id none) [ob q0 4 eBo5 bP] H1) (fun x e l H1=>e= .exit 0∧l=[(0,.v (.own q0.id q0.lo q0.n)),fi 1 aP,(2,.v (aY)),fi 6 20,fi 7 0]∧C8 Eq (upd H0 q0.id none) [ob q0 4 eBo5 bP] H1) (by kernel_rfl) ?_ hx ?_ hO ?_
 ·intro s1 H o hO h;cbv;apply C7 hE h<;>intro _ h
  ·cbv;cases h
  cbv;cases h;exact⟨_,_,rfl,⟨rfl,rfl,hO⟩,.e rfl (.e4 .z),rfl⟩
 ·exact .e2 (.e4 .z)
 clear hx;rintro e l H ⟨rfl,rfl,hO⟩;cbv;refine Xl hE hO hq0 0 rfl h (c172 N bP 0 aP aY aV bS) .z fun l3 H hq0 hO h=>?_;cbv;obtain⟨s5,hx,h⟩:=bind_some h;refine I7 cf0 hE S3 (fun s4=>[(0,.v (.own q0.id q0.lo q0.n)),fi 1 aP,(2,.v (aY)),fi 6 20]) (fun s4 H1=>C8 Eq (upd H0 q0.id none) [ob q0 4 eBo5 l3] H1) (fun x e l H1=>e= .exit 2∧l=[(0,.v (.own q0.id q0.lo q0.n))]∧C8 Eq (upd H0 q0.id none) [ob q0 4 eBo5 l3] H1) (by kernel_rfl) ?_ hx ?_ hO ?_
 ·intro s4 H o hO h;cbv;apply C7 hE h<;>intro _ h
  ·cbv;cases h
  cbv;cases h;exact⟨_,_,rfl,⟨rfl,rfl,hO⟩,.e rfl .z,rfl⟩
 ·exact .e4 .z
 clear hx;rintro e l H ⟨rfl,rfl,hO⟩;cbv;cases h;exact hK _ 0 _ hq0 rfl hO
def c63 (N:Nat)(aG:List C1)(aY:V)(aV:C1→C1→Option Int)(bS:∀y1 y2 q,aV y1 y2=some q→AA prog aY [(AQ y1),(AQ y2)] (vi q))(r:(List C1))(h:S6 N aG aV=some r):Ad8 prog 63 (fun q=>[.own q.id q.lo q.n,aY]) 4 (lst eBo5 aG) (lst eBo5 r):=by
 refine QW (T:=TT) (m:=2) cf0 S3 func63 (by rfl) (by kernel_rfl) call63 ntmps63 (by rfl) (fun _=>rfl) (by rfl) ?_;intro E H0 q0 K hE hq0 hO hK;cbv;apply TM hE hq0;cbv;refine Xl hE hO hq0 0 rfl h (c130 N aG (Ar.len aG) aY aV bS) .z fun l1 H hq0 hO h=>?_;cbv;cases h;exact hK _ 0 _ hq0 rfl hO
def c65 (N aB aF r)(h:Gf N aB aF=some r):C2 prog 65 [(DU aB),(DU aF)] (vi r):=by
 refine Q9 cf0 func65 call65 ntmps65 ?_;intro E H0 K hE hK hO;cbv;refine B3 hE h (c72 N (⟨aB.Source,aB.Seq,0,aB.Time,[]⟩:A8) (⟨aF.Source,aF.Seq,0,aF.Time,[]⟩:A8)) (.cons (.agg (.r (.r (.r (.r (.cons (.lit _ (F3)) .z)))))) (.cons (.agg (.r (.r (.r (.r (.cons (.lit _ (F3)) .z)))))) .z)) fun r1 h=>?_;cbv;cases h;exact hK hO .z
def c64 (N aB aF r)(h:Z5 N aB aF=some r):C2 prog 64 [(AQ aB),(AQ aF)] (vi r):=by
 refine Q9 cf0 func64 call64 ntmps64 ?_;intro E H0 K hE hK hO;cbv;refine B3 hE h (c65 N aB.Ref aF.Ref) .z fun r1 h=>?_;cbv;cases h;exact hK hO .z
def cfo62:Cf:=⟨[7,6000004,6000005,6000017],[(5,10),(10,12)],[],[],[],[]⟩
def o62 (N:Nat):∀n aA aJ r,U9 N n aA aJ=some r→US prog 62 [(D5 aA),(G2 aJ)] 4 (lst eBo5 r):=by
 intro n
 induction n with
 |zero=>intro aA aJ r h;cases h
 |succ n ih=>
 intro aA aJ r h
 unfold U9 at h
 intro H0;refine KD (T:=TT) (F:=H0) cfo62 S3 func62 (by rfl) (by kernel_rfl) call62 ntmps62 (by rfl) (by rfl) ?_;intro E K hE hK hN;have hO:C8 Eq H0 [] H0:=.start M2 rfl;cbv;refine Ai5 hE (f:=eBo5) hO fun q1 H hq1 hO=>?_;cbv;refine C7 hE h (fun _ h=>?_) fun _ h=>?_
 ·cbv;refine AK2 hE (f:=eBo5) (l:=([(⟨aA.Var,aJ.Ref⟩:C1)]:List C1)) (.lstc (.eq (eBp1 (⟨aA.Var,aJ.Ref⟩:C1)) (.refl _)) (.lst0)) hO fun q2 H hq2 hO=>?_;cbv;cases h;exact hK q2 _ _ (Fi hE hq2) (hO)
 cbv;refine C7 hE h (fun _ h=>?_) fun _ h=>?_
 ·cbv;refine F6 hE eBo7 h fun x3 h=>?_;cbv;refine F6 hE eBo4 h fun x4 h=>?_;cbv;refine Nv hE (f:=eBo5) h (ih x3 x4) (.refl _) hO fun l5 q6 H hq6 hO h=>?_;cbv;cases h;exact hK q6 _ _ (Fi hE hq6) (hO)
 cbv;refine Ai5 hE (f:=eBo5) hO fun q7 H hq7 hO=>?_;cbv;refine K9 hE ?_;cbv;obtain⟨s10,hx,h⟩:=bind_some h;refine Bd cfo62 hE S3 (γ:=OG) (fun s8 g=>[(2,.v (.eref (E0 aA) 0)),(5,.v (.own g.id g.lo g.n)),(32,.v (sr eBo3 aJ.Kids)),fi 33 (Ar.len aJ.Kids),fi 34 s8.1]) (fun s8 g H1=>Cd g (Ar.len s8.2)∧C8 Eq H0 [ob g 4 eBo5 s8.2,ob q1 4 eBo5 ([]:List C1)] H1) (fun x e l H1=>∃u1:OG,Cd u1 (Ar.len x)∧e= .exit 1∧l=[(5,.v (.own u1.id u1.lo u1.n))]∧C8 Eq H0 [ob u1 4 eBo5 x,ob q1 4 eBo5 ([]:List C1)] H1) (by kernel_rfl) ?_ q7 hx ?_ ?_ ?_
 ·rintro s8 q9 H o ⟨hq9,hO⟩ h;clear hx;cbv;refine C7 hE h (fun _ h=>?_) fun _ h=>?_
  ·cbv;refine F6 hE eBo4 h fun x11 h=>?_;cbv;refine F2 hE hO fun b12 H hO=>?_;cbv;refine D1 hE hO 0 rfl rfl fun H hO=>?_;cbv;refine K9 hE ?_;cbv;refine PS hE h fun h=>?_;cbv;refine F6 hE eBo7 h fun x13 h=>?_;cbv;refine C6 hE hO 0 rfl ?_;cbv;refine E9 hE (g:=fun r14=>sr eBo5 r14) h (c62 N n x13 x11) (.refl _) fun r14 h=>?_;cbv;refine Xi (f:=eBo5) hE GT (by decide) hO hq9 1 rfl (m:=r14) (Ow (f:=eBo5) hE GT (.refl _)) h fun l16 q15 H hq15 hO h=>?_;cbv;cases h;exact⟨_,q15,rfl,.e rfl (.e4 .z),rfl,hq15,hO.tail⟩
  cbv;cases h;exact⟨_,_,rfl,⟨q9,hq9,rfl,rfl,hO⟩,.e rfl .z,rfl⟩
 ·exact .e rfl (.e4 .z)
 ·exact⟨hq7,hO⟩
 clear hx;rintro e l H ⟨q17,hq17,rfl,rfl,hO⟩;cbv;cases h;exact hK q17 _ _ (Fi hE hq17) (hO)
def cf17:Cf:=⟨[4],[(9,11)],[],[],[(42,7)],[]⟩
def c17 (N aA aJ r) (h:Z6 N aA aJ=some r):C2 prog 17 [(D5 aA),(G2 aJ)] (.tup [(KJ r.1),vi r.2]):=by
 unfold Z6 at h
 refine Q9 cf17 func17 call17 ntmps17 ?_;intro E H0 K hE hK hO;cbv;refine F2 hE hO fun b1 H hO=>?_;cbv;refine B3 hE h (c26 N aA aJ) (.refl _) fun r2 h=>?_;cbv;refine C7 hE h (fun _ h=>?_) fun _ h=>?_
 ·cbv;refine D1 hE hO 0 rfl rfl fun H hO=>?_;cbv;refine C6 hE hO 0 rfl ?_;cbv;cases h;exact hK hO (.tup (.cons (.agg (.cons (.lit _ (F3)) (.refl _))) (.refl _)))
 cbv;refine Nv hE (f:=eBo5) h (o62 N N aA aJ) (.refl _) hO fun l3 q4 H hq4 hO h=>?_;cbv;refine Xl hE hO hq4 0 rfl h (fun l5 hx=>c63 N l3 (.func (.func 64) [] []) (fun y1 y2=>Z5 N y1 y2) (fun y1 y2 r hx=>C2.value (F:=[]) (C:=[]) (c64 N y1 y2 r hx)) l5 hx) (.refl _) fun l5 H hq4 hO h=>?_;cbv;obtain⟨s7,hx,h⟩:=bind_some h;refine I7 cf17 hE S3 (fun s6=>[(4,.v (.ref b1 0)),(7,.v (.own q4.id q4.lo q4.n)),fi 8 s6]) (fun s6 H1=>C8 Eq H0 [ob q4 4 eBo5 l5,cb b1 [.sl [] .nil]] H1) (fun x e l H1=>match(generalizing:=false) x with| .inl y=>e= .exit 0∧l=[(4,.v (.ref b1 0)),(7,.v (.own q4.id q4.lo q4.n))]∧C8 Eq H0 [ob q4 4 eBo5 l5,cb b1 [.sl [] .nil]] H1| .inr y=>e= .ret∧l=[(4,.v (.ref b1 0)),fi 5 7]∧C8 Eq H0 [ob q4 4 eBo5 l5,cb b1 [.sl [] .nil]] H1) (by kernel_rfl) ?_ hx ?_ hO ?_
 ·intro s6 H o hO h;clear hx;cbv;refine TM hE hq4 ?_;cbv;refine C7 hE h (fun _ h=>?_) fun _ h=>?_
  ·cbv;refine BK hE hO hq4 0 rfl h fun h=>?_;cbv;refine CT hE eBp1 hO hq4 0 rfl h fun x8 h=>?_;cbv;refine BK hE hO hq4 0 rfl h fun h=>?_;cbv;refine CT hE eBp1 hO hq4 0 rfl h fun x9 h=>?_;cbv;refine C7 hE h (fun _ h=>?_) fun _ h=>?_
   ·cbv;refine D1 hE hO 1 rfl rfl fun H hO=>?_;cbv;cases h;exact⟨_,_,rfl,⟨rfl,rfl,hO⟩,.e2 .z,rfl⟩
   cbv;cases h;exact⟨_,rfl,.e rfl (.e2 .z),rfl,hO⟩
  cbv;cases h;exact⟨_,_,rfl,⟨rfl,rfl,hO⟩,.e2 .z,rfl⟩
 ·exact .e rfl (.e2 .z)
 clear hx
 rcases s7 with y10|y12
 ·rintro e l H ⟨rfl,rfl,hO⟩;cbv;refine Ai6 hE hO hq4 0 rfl fun H hO=>?_;cbv;refine B3 hE h (c59 N (⟨l5⟩:DX)) (.refl _) fun r11 h=>?_;cbv;refine C7 hE h (fun _ h=>?_) fun _ h=>?_
  ·cbv;refine D1 hE hO 0 rfl rfl fun H hO=>?_;cbv;refine C6 hE hO 0 rfl ?_;cbv;cases h;exact hK hO (.tup (.cons (.agg (.cons (.lit _ (F3)) (.refl _))) (.refl _)))
  cbv;refine D1 hE hO 0 rfl rfl fun H hO=>?_;cbv;refine C6 hE hO 0 rfl ?_;cbv;cases h;exact hK hO (.refl _)
 rintro e l H ⟨rfl,rfl,hO⟩;cbv;refine C6 hE hO 1 rfl ?_;cbv;cases h;exact hK hO (.tup (.cons (.agg (.cons (.lit _ (F3)) (.refl _))) (.refl _)))
def c84 (N aB aF r)(h:Rz N aB aF=some r):C2 prog 84 [(AQ aB),(AQ aF)] (vi r):=by
 refine Q9 cf0 func84 call84 ntmps84 ?_;intro E H0 K hE hK hO
 repeat' (cbv;first|apply C7 hE h<;>intro _ h|refine B3 hE h (c106 _ _ _) .z fun _ h=>?_|(cases h;done)|(cases h;exact hK hO .z))
def cf28:Cf:=⟨[],[(4,10)],[],[],[],[]⟩
def c28 (N aB aF r) (h:NX N aB aF=some r):C2 prog 28 [(KJ aB),(KJ aF)] (vi r):=by
 refine Q9 cf28 func28 call28 ntmps28 ?_;intro E H0 K hE hK hO;cbv;obtain⟨s2,hx,h⟩:=bind_some h;refine I7 cf28 hE S3 (fun s1=>[(2,.v (.eref (NH aB) 0)),(3,.v (.eref (NH aF) 0)),fi 5 s1]) (fun s1 H1=>C8 Eq H0 [] H1) (fun x e l H1=>e= .exit 0∧l=[(2,.v (.eref (NH aB) 0)),(3,.v (.eref (NH aF) 0))]∧C8 Eq H0 [] H1) (by kernel_rfl) ?_ hx ?_ hO ?_
 ·intro s1 H o hO h
  repeat' (cbv;first|apply C7 hE h<;>intro _ h|apply K9 hE|refine B3 hE h (c84 _ _ _) .z fun _ h=>?_|refine F6 hE eBp1 h fun _ h=>?_|(cases h;done)|(cases h;exact⟨_,rfl,.e rfl (.e2 .z),rfl,hO⟩)|(cases h;exact⟨_,_,rfl,⟨rfl,rfl,hO⟩,.e2 .z,rfl⟩))
 ·exact .e rfl (.e2 .z)
 clear hx;rintro e l H ⟨rfl,rfl,hO⟩
 repeat' (cbv;first|apply C7 hE h<;>intro _ h|apply K9 hE|(cases h;done)|(cases h;exact hK hO .z))
def c85 (N aA aJ r) (h:Eh N aA aJ=some r):C2 prog 85 [(D5 aA),(G2 aJ)] (sr eBp8 r):=by
 refine Q9 cf0 func85 call85 ntmps85 ?_;intro E H0 K hE hK hO;cbv;refine B3 hE h (c62 N N aA aJ) .z fun r1 h=>?_;cbv;apply K9 hE;cbv;replace hO:=hO.tl0 (t:=.nil) rfl;obtain⟨s4,hx,h⟩:=bind_some h;refine Bd cf0 hE S3 (γ:=K1) (fun s2 g=>[(5,.v (.sl (lst eBp8 s2.1) g)),(10,.v (sr eBo5 r1)),fi 11 (Ar.len r1),fi 12 s2.2]) (fun s2 g H1=>FI g∧C8 Eq H0 [.tl g] H1) (fun x e l H1=>∃u1:K1,FI u1∧e= .exit 0∧l=[(5,.v (.sl (lst eBp8 x) u1))]∧C8 Eq H0 [.tl u1] H1) (by kernel_rfl) ?_ .nil hx ?_ ?_ ?_
 ·rintro s2 t3 H o ⟨ht3,hO⟩ h;cbv;apply C7 hE h<;>intro _ h
  ·cbv;refine F6 hE eBp1 h fun x5 h=>?_;cbv;refine JX (f:=eBp8) hE AS2 (by decide) hO 0 rfl ht3 (l:=s2.1) (m:=[x5.Ref]) .z (.lstc (.eq (eBq6 x5.Ref) .z) (.lst0)) h fun l7 t6 H hO ht6 h=>?_;cbv;cases h;exact⟨_,t6,rfl,.e4 .z,rfl,ht6,hO⟩
  cbv;cases h;exact⟨_,_,rfl,⟨t3,ht3,rfl,rfl,hO⟩,.e rfl .z,rfl⟩
 ·exact .v (.slt _ (.lst0)) (.e rfl (.e2 .z))
 ·exact⟨trivial,hO⟩
 clear hx;rintro e l H ⟨t8,ht8,rfl,rfl,hO⟩;cbv;cases h;exact hK hO (.ro _ _)
def cf86:Cf:=⟨[17],[(3,13),(4,19),(6,16),(14,18)],[(89,14)],[],[],[]⟩
def c86 (N:Nat):∀n aG aA aJ aI aN r,N4 N n aG aA aJ aI aN=some r→C2 prog 86 [.eref (D8 aG) 0,(D5 aA),(G2 aJ),sr eBo1 aI,vi aN] (.tup [sr eBo1 r.1,.bool r.2]):=by
 intro n
 induction n with
 |zero=>intro aG aA aJ aI aN r h;cases h
 |succ n ih=>
 intro aG aA aJ aI aN r h
 unfold N4 at h
 refine Q9 cf86 func86 call86 ntmps86 ?_;intro E H0 K hE hK hO;cbv;refine C7 hE h (fun _ h=>?_) fun _ h=>?_
 ·cbv;refine E9 hE (g:=fun r1=>.tup [vi r1.1,.bool r1.2.1,vi r1.2.2]) h (c60 N aG.cU aJ.Ref) (.refl _) fun r1 h=>?_;cbv;refine C7 hE h (fun _ h=>?_) fun _ h=>?_
  ·cbv;refine E9 hE (g:=fun r2=>.bool r2) h (c139 N aG aA aI r1.1) (.refl _) fun r2 h=>?_;cbv;cases h;exact hK hO (.tup (.cons (.lit _ (H8 ((eBp0 (⟨aA.Var,r1.1⟩:A6)).symm) (F3))) (.refl _)))
  cbv;cases h;exact hK hO (.tup (.cons (.lit _ (H8 ((eBp0 (⟨aA.Var,r1.1⟩:A6)).symm) (F3))) (.refl _)))
 cbv;refine C7 hE h (fun _ h=>?_) fun _ h=>?_
 ·cbv;refine F6 hE eBo7 h fun x3 h=>?_;cbv;refine F6 hE eBo4 h fun x4 h=>?_;cbv;refine E9 hE (g:=fun r5=>.tup [sr eBo1 r5.1,.bool r5.2]) h (ih aG x3 x4 aI aN) (.refl _) fun r5 h=>?_;cbv;cases h;exact hK hO (.refl _)
 cbv;refine K9 hE ?_;cbv;replace hO:=hO.tl0 (t:=.nil) rfl;obtain⟨s7,hx,h⟩:=bind_some h;refine I7 cf86 hE S3 (fun s6=>[(0,.v (.eref (D8 aG) 0)),(3,.v (sr eBo1 aI)),fi 4 s6.1,(6,.v (.eref (E0 aA) 0)),(15,.v (sr eBo1 s6.2.1)),(74,.v (sr eBo3 aJ.Kids)),fi 75 (Ar.len aJ.Kids),fi 76 s6.2.2]) (fun s6 H1=>C8 Eq H0 [.tl .nil] H1) (fun x e l H1=>match(generalizing:=false) x with| .inl y=>e= .exit 1∧l=[(0,.v (.eref (D8 aG) 0)),(3,.v (sr eBo1 aI)),(6,.v (.eref (E0 aA) 0)),(15,.v (sr eBo1 y))]∧C8 Eq H0 [.tl .nil] H1| .inr y=>e= .ret∧l=[(10,.v (.sl [] .nil)),(11,.b false)]∧C8 Eq H0 [.tl .nil] H1) (by kernel_rfl) ?_ hx ?_ hO ?_
 ·intro s6 H o hO h;clear hx;cbv;refine C7 hE h (fun _ h=>?_) fun _ h=>?_
  ·cbv;refine F6 hE eBo4 h fun x8 h=>?_;cbv;refine F2 hE hO fun b9 H hO=>?_;cbv;refine D1 hE hO 0 rfl rfl fun H hO=>?_;cbv;obtain⟨s10,hx,h⟩:=bind_some h;refine R8 cf86 hE S3 (fun e l H1=>e= .normal∧l=[(0,.v (.eref (D8 aG) 0)),(3,.v (sr eBo1 aI)),fi 4 s6.1,(6,.v (.eref (E0 aA) 0)),(15,.v (sr eBo1 s6.2.1)),fi 16 s6.2.2,(17,.v (.ref b9 0)),(18,.v (sr eBo1 s10)),(74,.v (sr eBo3 aJ.Kids)),fi 75 (Ar.len aJ.Kids),fi 76 s6.2.2]∧C8 Eq H0 [cb b9 (Ae x8),.tl .nil] H1) (by kernel_rfl) ?_ ?_
   ·clear h;have h:=hx;clear hx;cbv;refine C7 hE h (fun _ h=>?_) fun _ h=>?_
    ·cbv;refine B3 hE h (c140 N aI s6.2.1) (.refl _) fun r11 h=>?_;cbv;cases h;exact⟨_,⟨rfl,rfl,hO⟩,.e rfl (.e2 (.e4 (.e4 .z))),rfl⟩
    cbv;cases h;exact⟨_,⟨rfl,rfl,hO⟩,.e rfl (.e2 (.e4 (.e4 .z))),rfl⟩
   clear hx;rintro e l H ⟨rfl,rfl,hO⟩;cbv;refine K9 hE ?_;cbv;refine PS hE h fun h=>?_;cbv;refine F6 hE eBo7 h fun x12 h=>?_;cbv;refine C6 hE hO 0 rfl ?_;cbv;refine E9 hE (g:=fun r13=>.tup [sr eBo1 r13.1,.bool r13.2]) h (ih aG x12 x8 s10 s6.1) (.refl _) fun r13 h=>?_;cbv;refine C7 hE h (fun _ h=>?_) fun _ h=>?_
   ·cbv;cases h;exact⟨_,_,rfl,⟨rfl,rfl,hO.tail⟩,.e rfl (.b rfl (.z)),rfl⟩
   cbv;refine B3 hE h (c141 N s6.2.1 r13.1) (.refl _) fun r14 h=>?_;cbv;refine C7 hE h (fun _ h=>?_) fun _ h=>?_
   ·cbv;cases h;exact⟨_,_,rfl,⟨rfl,rfl,hO.tail⟩,.e rfl (.b rfl (.z)),rfl⟩
   cbv;refine C7 hE h (fun _ h=>?_) fun _ h=>?_
   ·cbv;refine B3 hE h (c142 N r13.1) (.refl _) fun r15 h=>?_;cbv;refine B3 hE h (c140 N s6.2.1 r13.1) (.refl _) fun r16 h=>?_;cbv;cases h;exact⟨_,rfl,.e4 (.e4 .z),rfl,hO.tail⟩
   cbv;refine B3 hE h (c140 N s6.2.1 r13.1) (.refl _) fun r17 h=>?_;cbv;cases h;exact⟨_,rfl,.e4 (.e4 .z),rfl,hO.tail⟩
  cbv;cases h;exact⟨_,_,rfl,⟨rfl,rfl,hO⟩,.e4 .z,rfl⟩
 ·exact .e4 (.v (.lit _ (F3)) (.e rfl (.e rfl (.e rfl (.z)))))
 clear hx
 rcases s7 with y18|y20
 ·rintro e l H ⟨rfl,rfl,hO⟩;cbv;refine C7 hE h (fun _ h=>?_) fun _ h=>?_
  ·cbv;cases h;exact hK hO (.refl _)
  cbv;refine B3 hE h (c143 N aG aA aI y18) (.refl _) fun r19 h=>?_;cbv;cases h;exact hK hO (.refl _)
 rintro e l H ⟨rfl,rfl,hO⟩;cbv;cases h;exact hK hO (.tup (.cons (.lit _ (F3)) (.refl _)))
def c31 (N aA aD aJ r) (h:P3 N aA aD aJ=some r):C2 prog 31 [(D5 aA),sr eBo2 aD,(G2 aJ)] (vi r):=by
 unfold P3 at h
 refine Q9 cf0 func31 call31 ntmps31 ?_;intro E H0 K hE hK hO;cbv;refine B3 hE h (c26 N aA aJ) (.refl _) fun r1 h=>?_;cbv;refine C7 hE h (fun _ h=>?_) fun _ h=>?_
 ·cbv;cases h;exact hK hO (.refl _)
 cbv;refine B3 hE h (c56 N aD) (.refl _) fun r2 h=>?_;cbv;refine C7 hE h (fun _ h=>?_) fun _ h=>?_
 ·cbv;cases h;exact hK hO (.refl _)
 cbv;refine B3 hE h (c85 N aA aJ) (.refl _) fun r3 h=>?_;cbv;refine K9 hE ?_;cbv;obtain⟨s5,hx,h⟩:=bind_some h;refine I7 cf0 hE S3 (fun s4=>[(1,.v (sr eBo2 aD)),(3,.v (.eref (E0 aA) 0)),(5,.v (.eref (Ae aJ) 0)),(30,.v (sr eBp8 r3)),fi 31 (Ar.len r3),fi 32 s4]) (fun s4 H1=>C8 Eq H0 [] H1) (fun x e l H1=>match(generalizing:=false) x with| .inl y=>e= .exit 0∧l=[(1,.v (sr eBo2 aD)),(3,.v (.eref (E0 aA) 0)),(5,.v (.eref (Ae aJ) 0))]∧C8 Eq H0 [] H1| .inr y=>e= .ret∧l=[fi 6 6]∧C8 Eq H0 [] H1) (by kernel_rfl) ?_ hx ?_ hO ?_
 ·intro s4 H o hO h;clear hx;cbv;refine C7 hE h (fun _ h=>?_) fun _ h=>?_
  ·cbv;refine F6 hE eBq6 h fun x6 h=>?_;cbv;refine B3 hE h (c60 N aD x6) (.refl _) fun r7 h=>?_;cbv;refine C7 hE h (fun _ h=>?_) fun _ h=>?_
   ·cbv;cases h;exact⟨_,_,rfl,⟨rfl,rfl,hO⟩,.e rfl .z,rfl⟩
   cbv;cases h;exact⟨_,rfl,.e2 (.e4 .z),rfl,hO⟩
  cbv;cases h;exact⟨_,_,rfl,⟨rfl,rfl,hO⟩,.e rfl (.e2 .z),rfl⟩
 ·exact .e2 (.e4 .z)
 clear hx
 rcases s5 with y8|y10
 ·rintro e l H ⟨rfl,rfl,hO⟩;cbv;refine B3 hE h (c86 N N (⟨aD,0⟩:E6) aA aJ ([]) 0) (.cons (.refl _) (.cons (.refl _) (.cons (.refl _) (.cons (.lit _ (F3)) (.refl _))))) fun r9 h=>?_;cbv;refine C7 hE h (fun _ h=>?_) fun _ h=>?_
  ·cbv;cases h;exact hK hO (.refl _)
  cbv;cases h;exact hK hO (.refl _)
 rintro e l H ⟨rfl,rfl,hO⟩;cbv;cases h;exact hK hO (.refl _)
def c145 (N aB aF r)(h:Fg N aB aF=some r):C2 prog 145 [vi aB,vi aF] (vi r):=by
 refine Q9 cf0 func145 call145 ntmps145 ?_;intro E H0 K hE hK hO
 repeat' (cbv;first|apply C7 hE h<;>intro _ h|(cases h;exact hK hO .z))
def c90 (N aB aF r)(h:CQ N aB aF=some r):C2 prog 90 [(DU aB),(DU aF)] (vi r):=by
 refine Q9 cf0 func90 call90 ntmps90 ?_;intro E H0 K hE hK hO
 repeat' (cbv;first|apply C7 hE h<;>intro _ h|refine B3 hE h (c145 _ _ _) .z fun _ h=>?_|(cases h;exact hK hO .z))
def cf34:Cf:=⟨[],[(11,10)],[],[],[],[]⟩
def c34 (N:Nat):∀n aB aF r,Z9 N n aB aF=some r→C2 prog 34 [(G2 aB),(G2 aF)] (vi r):=by
 intro n
 induction n with
 |zero=>intro aB aF r h;cases h
 |succ n ih=>
 intro aB aF r h
 unfold Z9 at h
 refine Q9 cf34 func34 call34 ntmps34 ?_;intro E H0 K hE hK hO
 repeat' (cbv;first|apply C7 hE h<;>intro _ h|refine B3 hE h (c90 _ _ _) .z fun _ h=>?_|(cases h;exact hK hO .z))
 cbv;obtain⟨s3,hx,h⟩:=bind_some h;refine I7 cf34 hE S3 (fun s2=>[(2,.v (.eref (Ae aB) 0)),(3,.v (.eref (Ae aF) 0)),fi 6 s2]) (fun s2 H1=>C8 Eq H0 [] H1) (fun x e l H1=>match(generalizing:=false) x with| .inl y=>e= .exit 0∧l=[(2,.v (.eref (Ae aB) 0)),(3,.v (.eref (Ae aF) 0))]∧C8 Eq H0 [] H1| .inr y=>e= .ret∧l=[fi 4 y]∧C8 Eq H0 [] H1) (by kernel_rfl) ?_ hx ?_ hO ?_
 ·intro s2 H o hO h
  repeat' (cbv;first|apply C7 hE h<;>intro _ h|apply K9 hE|refine B3 hE h (ih _ _) .z fun _ h=>?_|refine F6 hE eBo4 h fun _ h=>?_|(cases h;exact⟨_,_,rfl,⟨rfl,rfl,hO⟩,.e rfl .z,rfl⟩)|(cases h;exact⟨_,rfl,.e rfl (.e2 .z),rfl,hO⟩)|(cases h;exact⟨_,_,rfl,⟨rfl,rfl,hO⟩,.e2 .z,rfl⟩))
 ·exact .e rfl (.e2 .z)
 clear hx
 rcases s3 with y7|y8
 ·rintro e l H ⟨rfl,rfl,hO⟩
  repeat' (cbv;first|apply C7 hE h<;>intro _ h|apply K9 hE|(cases h;exact hK hO .z))
 rintro e l H ⟨rfl,rfl,hO⟩;cbv;cases h;exact hK hO .z
def cf40:Cf:=⟨[],[(6,8)],[],[],[],[]⟩
def c40 (N aB aF r) (h:Tq N aB aF=some r):C2 prog 40 [sr eBo3 aB,sr eBo3 aF] (.bool r):=by
 refine Q9 cf40 func40 call40 ntmps40 ?_;intro E H0 K hE hK hO
 repeat' (cbv;first|apply C7 hE h<;>intro _ h|apply K9 hE|(cases h;exact hK hO .z))
 cbv;obtain⟨s2,hx,h⟩:=bind_some h;refine I7 cf40 hE S3 (fun s1=>[(0,.v (sr eBo3 aB)),(1,.v (sr eBo3 aF)),fi 5 s1]) (fun s1 H1=>C8 Eq H0 [] H1) (fun x e l H1=>match(generalizing:=false) x with| .inl y=>e= .exit 0∧l=[]∧C8 Eq H0 [] H1| .inr y=>e= .ret∧l=[(4,.b false)]∧C8 Eq H0 [] H1) (by kernel_rfl) ?_ hx ?_ hO ?_
 ·intro s1 H o hO h
  repeat' (cbv;first|apply C7 hE h<;>intro _ h|apply K9 hE|refine B3 hE h (c34 _ _ _ _) .z fun _ h=>?_|refine F6 hE eBo4 h fun _ h=>?_|(cases h;exact⟨_,_,rfl,⟨rfl,rfl,hO⟩,.b rfl (.z),rfl⟩)|(cases h;exact⟨_,rfl,.e rfl (.e2 .z),rfl,hO⟩)|(cases h;exact⟨_,_,rfl,⟨rfl,rfl,hO⟩,.z,rfl⟩))
 ·exact .e rfl (.e2 .z)
 clear hx
 rcases s2 with y6|y7
 ·rintro e l H ⟨rfl,rfl,hO⟩;cbv;cases h;exact hK hO .z
 rintro e l H ⟨rfl,rfl,hO⟩;cbv;cases h;exact hK hO .z
def cf76:Cf:=⟨[4],[],[],[],[],[]⟩
def c76 (N cJ cK r)(h:KW N cJ cK=some r):C2 prog 76 [vi cJ,vi cK] ((G2 r)):=by
 refine Q9 cf76 func76 call76 ntmps76 ?_;intro E H0 K hE hK hO;cbv;refine F2 hE hO fun b1 H hO=>?_;cbv;refine D1 hE hO 0 rfl rfl fun H hO=>?_;cbv;apply C6 hE hO 0 rfl;cbv;cases h;exact hK hO (.agg (.r (.r (.r (.r (.cons (.lit _ (F3)) .z))))))
def cf135:Cf:=⟨[0],[],[],[],[],[]⟩
def c135 (N r)(h:QK N=some r):C2 prog 135 [] ((Bk r)):=by
 refine Q9 cf135 func135 call135 ntmps135 ?_;intro E H0 K hE hK hO;cbv;refine F2 hE hO fun b1 H hO=>?_;cbv;refine D1 hE hO 0 rfl rfl fun H hO=>?_;cbv;apply C6 hE hO 0 rfl;cbv;cases h;exact hK hO (.agg (.r (.cons (.lit _ (F3)) .z)))
def cf77:Cf:=⟨[2],[],[],[],[],[]⟩
def c77 (N aM r)(h:Aa N aM=some r):C2 prog 77 [vi aM] ((D5 r)):=by
 refine Q9 cf77 func77 call77 ntmps77 ?_;intro E H0 K hE hK hO;cbv;refine F2 hE hO fun b1 H hO=>?_;cbv;refine B3 hE h (c135 N) .z fun r2 h=>?_;cbv;refine B3 hE h (c135 N) .z fun r3 h=>?_;cbv;refine D1 hE hO 0 rfl rfl fun H hO=>?_;cbv;apply C6 hE hO 0 rfl;cbv;cases h;exact hK hO (.agg (.r (.cons (.sl _ (.lstc (.eq (eBo7 (⟨0,[],0,0,0,0,r2⟩:A2)) (.agg (.r (.cons (.lit _ (F3)) .z)))) (.lstc (.eq (eBo7 (⟨4,[(⟨0,[],aM,1,0,0,r3⟩:A2)],0,0,0,0,(⟨0,[],0,0,0,(⟨0,0,⟨#[]⟩⟩:A9)⟩:B5)⟩:A2)) (.agg (.r (.cons (.sl _ (.lstc (.eq (eBo7 (⟨0,[],aM,1,0,0,r3⟩:A2)) (.agg (.r (.cons (.lit _ (F3)) .z)))) (.lst0))) (.r (.r (.r (.r (.r (.cons (.lit _ (F3)) .z)))))))))) (.lst0)))) (.r (.r (.r (.r (.r (.cons (.lit _ (F3)) .z)))))))))
end Go.Ab
