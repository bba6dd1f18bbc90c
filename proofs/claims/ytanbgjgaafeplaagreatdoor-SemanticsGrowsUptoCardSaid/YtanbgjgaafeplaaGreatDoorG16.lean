/- GTCo9 AbG1 AbI1 AbM1 AbG2 AbG3 GTBk GTM1 GTM2 GTM3 GTM4 -/
import Derived.Test.YtanbgjgaafeplaaGreatDoorG15
import Derived.Deep.Slices
import Derived.Carry
import Derived.Lib.LaidTab
import Derived.Laws.Strings
set_option linter.all false
namespace Go.Ab
open Go.RowKit Go.Proofs Go.Proofs.Tryz I0
variable [Ar][I0]
set_option maxRecDepth 100000
theorem c76 (N aA r) (h:Fd N aA=some r):B2 prog 76 [(B6 aA)] (.tup [sr (V.int .i64) r.1,vi r.2]):=by
 unfold Fd at h
 refine I6 cf0 func76 call76 ntmps76 ?_;intro E H0 K hE hK hO;cbv;refine A3 hE h (c75 N N aA) (.refl _) fun r1 h=>?_;cbv;refine Uj hE (f:=V.bool) (by decide) (z0:=(false:Bool)) ((.refl _)) hO h fun l3 q2 H hq2 h hO=>?_;cbv;replace hO:=hO.tl0 (t:=.nil) rfl;obtain⟨s7,hx,h⟩:=bind_some h;refine W1 cf0 hE N5 (γ:=D7×OG) (fun s4 g=>[(4,.v (sr eAo2 r1)),(5,.v (.own g.2.id g.2.lo g.2.n)),(6,.v (.sl (Ar.lst (V.int .i64) s4.1) g.1)),fi 7 s4.2.1]) (fun s4 g H1=>W4 g.1∧Ej g.2 (Ar.len s4.2.2)∧B7 Eq H0 [.tl g.1,.blk g.2.id (.arr 1 (g.2.pre++Ar.lst V.bool s4.2.2++g.2.rest))] H1) (fun x e l H1=>match(generalizing:=false) x with| .inl y=>∃u1:D7,W4 u1∧∃u2:OG,Ej u2 (Ar.len y.2)∧e= .exit 0∧l=[(6,.v (.sl (Ar.lst (V.int .i64) y.1) u1))]∧B7 Eq H0 [.tl u1,ob u2 1 V.bool y.2] H1| .inr y=>∃u1:D7,W4 u1∧∃u2:OG,Ej u2 (Ar.len y)∧e= .ret∧l=[(2,.v (.sl [] .nil)),fi 3 7]∧B7 Eq H0 [.tl u1,ob u2 1 V.bool y] H1) (by kernel_rfl) ?_ (⟨.nil,q2⟩) hx ?_ ?_ ?_
 ·rintro s4 ⟨t5,q6⟩ H o ⟨ht5,hq6,hO⟩ h;clear hx;cbv;refine D9 hE ?_;cbv;refine A8 hE h (fun _ h=>?_) fun _ h=>?_
  ·cbv;refine B9 hE eAo4 h fun x8 h=>?_;cbv;refine A3 hE h (c79 N x8) (.refl _) fun r9 h=>?_;cbv;refine A8 hE h (fun _ h=>?_) fun _ h=>?_
   ·cbv;cases h;exact⟨_,⟨t5,q6⟩,rfl,.e4 .z,rfl,ht5,hq6,hO⟩
   cbv;refine B9 hE eAo4 h fun x10 h=>?_;cbv;refine Mb hE hO hq6 1 rfl h fun h=>?_;cbv;refine Uk hE (fun _=>rfl) hO hq6 1 rfl h fun x11 h=>?_;cbv;refine A8 hE h (fun _ h=>?_) fun _ h=>?_
   ·cbv;cases h;exact⟨_,_,rfl,⟨t5,ht5,q6,hq6,rfl,rfl,hO⟩,.e2 .z,rfl⟩
   cbv;refine B9 hE eAo4 h fun x12 h=>?_;cbv;refine Mb hE hO hq6 1 rfl h fun h=>?_;cbv;refine Jc hE (f:=V.bool) (esz:=1) (tz:=1) (off:=0) (u:=(fun x13:Bool=>true)) (fun _=>⟨.bool true,.refl _,rfl,rfl,rfl⟩) (by decide) hO hq6 1 rfl h fun l14 H hq6 h hO=>?_;cbv;refine B9 hE eAo4 h fun x15 h=>?_;cbv;refine Cd (f:=(V.int .i64)) hE (fun _=>rfl) (by decide) hO 0 rfl ht5 (l:=s4.1) (m:=[x15.Var]) (.refl _) (.lstc (.refl _) (.lst0)) h fun l17 t16 H hO ht16 h=>?_;cbv;cases h;exact⟨_,⟨t16,q6⟩,rfl,.e4 .z,rfl,ht16,hq6,hO⟩
  cbv;cases h;exact⟨_,_,rfl,⟨t5,ht5,q6,hq6,rfl,rfl,hO⟩,.e rfl .z,rfl⟩
 ·exact .e2 (.v (.slt _ (.lst0)) (.e rfl (.z)))
 ·exact⟨trivial,hq2,hO⟩
 clear hx
 rcases s7 with y18|y21
 ·rintro e l H ⟨t19,ht19,q20,hq20,rfl,rfl,hO⟩;cbv;cases h;exact hK hO (.tup (.cons (.ro _ _) (.refl _)))
 rintro e l H ⟨t22,ht22,q23,hq23,rfl,rfl,hO⟩;cbv;cases h;exact hK hO (.tup (.cons (.lit _ (C6)) (.refl _)))
def cf137 :Cf:=⟨[4,6],[],[(20,6)],[],[],[]⟩
theorem c137 (N:Nat):∀n aB aU r,Ad N n aB aU=some r→B2 prog 137 [(H5 aB),sr (V.int .i64) aU] (.tup [(H5 r.1),vi r.2]):=by
 intro n
 induction n with
 |zero=>intro aB aU r h;cases h
 |succ n ih=>
 intro aB aU r h
 unfold Ad at h
 refine I6 cf137 func137 call137 ntmps137 ?_;intro E H0 K hE hK hO;cbv;refine C4 hE hO fun b1 H hO=>?_;cbv;refine C4 hE hO fun b2 H hO=>?_;cbv;refine A9 hE hO 0 rfl rfl fun H hO=>?_;cbv;refine A9 hE hO 0 rfl rfl fun H hO=>?_;cbv;refine A3 hE h (c134 N aB.Op) (.refl _) fun r3 h=>?_;cbv;obtain⟨s4,hx,h⟩:=bind_some h;refine U4 cf137 hE N5 (fun e l H1=>match(generalizing:=false) s4 with| .inl y=>e= .normal∧l=[(1,.v (sr (V.int .i64) aU)),(2,.v (.eref (AR aB) 0)),(4,.v (.ref b1 0)),(6,.v (.ref b2 0))]∧B7 Eq H0 [cb b2 [vi y.Op,.sl [] .nil,vi y.Var,vi y.Field,vi y.Kind,vi y.Value.Kind,vi y.Value.Num,.str y.Value.Text],cb b1 [vi 0,.sl [] .nil,vi 0,vi 0,vi 0,vi 0,vi 0,.str (⟨#[]⟩)]] H1| .inr y=>e= .ret∧l=[(4,.v (.ref b1 0)),fi 5 y]∧B7 Eq H0 [cb b2 [vi aB.Op,.sl [] .nil,vi aB.Var,vi aB.Field,vi aB.Kind,vi aB.Value.Kind,vi aB.Value.Num,.str aB.Value.Text],cb b1 [vi 0,.sl [] .nil,vi 0,vi 0,vi 0,vi 0,vi 0,.str (⟨#[]⟩)]] H1) (by kernel_rfl) ?_ ?_
 ·clear h;have h:=hx;clear hx;cbv;refine A8 hE h (fun _ h=>?_) fun _ h=>?_
  ·cbv;refine D9 hE ?_;cbv;refine A8 hE h (fun _ h=>?_) fun _ h=>?_
   ·cbv;refine A9 hE hO 1 rfl rfl fun H hO=>?_;cbv;cases h;exact⟨_,⟨rfl,rfl,hO⟩,.e2 .z,rfl⟩
   cbv;refine B9 hE (fun _=>rfl) h fun x5 h=>?_;cbv;refine A8 hE h (fun _ h=>?_) fun _ h=>?_
   ·cbv;refine A9 hE hO 1 rfl rfl fun H hO=>?_;cbv;cases h;exact⟨_,⟨rfl,rfl,hO⟩,.e2 .z,rfl⟩
   cbv;refine B9 hE (fun _=>rfl) h fun x6 h=>?_;cbv;refine A8 hE h (fun _ h=>?_) fun _ h=>?_
   ·cbv;refine A9 hE hO 1 rfl rfl fun H hO=>?_;cbv;cases h;exact⟨_,⟨rfl,rfl,hO⟩,.e2 .z,rfl⟩
   cbv;refine B9 hE (fun _=>rfl) h fun x7 h=>?_;cbv;refine A9 hE hO 0 rfl rfl fun H hO=>?_;cbv;cases h;exact⟨_,⟨rfl,rfl,hO⟩,.e4 .z,rfl⟩
  cbv;cases h;exact⟨_,⟨rfl,rfl,hO⟩,.e4 .z,rfl⟩
 clear hx
 rcases s4 with y8|y20
 ·rintro e l H ⟨rfl,rfl,hO⟩;cbv;replace hO:=hO.cast (L':=[cb b2 [vi y8.Op,.sl (Ar.lst eAo6 ([])) .nil,vi y8.Var,vi y8.Field,vi y8.Kind,vi y8.Value.Kind,vi y8.Value.Num,.str y8.Value.Text],cb b1 [vi 0,.sl [] .nil,vi 0,vi 0,vi 0,vi 0,vi 0,.str (⟨#[]⟩)]]) (by simp only[ob,cb,sr,←C6]<;>rfl);replace hO:=hO.tl0 (t:=.nil) rfl;obtain⟨s11,hx,h⟩:=bind_some h;refine W1 cf137 hE N5 (γ:=D7) (fun s9 g=>[(1,.v (sr (V.int .i64) aU)),(2,.v (.eref (AR aB) 0)),(4,.v (.ref b1 0)),(6,.v (.ref b2 0)),fi 9 s9.1]) (fun s9 g H1=>W4 g∧B7 Eq H0 [.tl g,cb b2 [vi s9.2.Op,.sl (Ar.lst eAo6 s9.2.cP) g,vi s9.2.Var,vi s9.2.Field,vi s9.2.Kind,vi s9.2.Value.Kind,vi s9.2.Value.Num,.str s9.2.Value.Text],cb b1 [vi 0,.sl [] .nil,vi 0,vi 0,vi 0,vi 0,vi 0,.str (⟨#[]⟩)]] H1) (fun x e l H1=>match(generalizing:=false) x with| .inl y=>∃u1:D7,W4 u1∧e= .exit 0∧l=[(4,.v (.ref b1 0)),(6,.v (.ref b2 0))]∧B7 Eq H0 [.tl u1,cb b2 [vi y.Op,.sl (Ar.lst eAo6 y.cP) u1,vi y.Var,vi y.Field,vi y.Kind,vi y.Value.Kind,vi y.Value.Num,.str y.Value.Text],cb b1 [vi 0,.sl [] .nil,vi 0,vi 0,vi 0,vi 0,vi 0,.str (⟨#[]⟩)]] H1| .inr y=>∃u1:D7,W4 u1∧e= .ret∧l=[(4,.v (.ref b1 0)),fi 5 y.1]∧B7 Eq H0 [.tl u1,cb b2 [vi y.2.Op,.sl (Ar.lst eAo6 y.2.cP) u1,vi y.2.Var,vi y.2.Field,vi y.2.Kind,vi y.2.Value.Kind,vi y.2.Value.Num,.str y.2.Value.Text],cb b1 [vi 0,.sl [] .nil,vi 0,vi 0,vi 0,vi 0,vi 0,.str (⟨#[]⟩)]] H1) (by kernel_rfl) ?_ .nil hx ?_ ?_ ?_
  ·rintro s9 t10 H o ⟨ht10,hO⟩ h;clear hx;cbv;refine D9 hE ?_;cbv;refine A8 hE h (fun _ h=>?_) fun _ h=>?_
   ·cbv;refine B9 hE eAp2 h fun x12 h=>?_;cbv;refine A3 hE h (ih x12 aU) (.refl _) fun r13 h=>?_;cbv;refine A8 hE h (fun _ h=>?_) fun _ h=>?_
    ·cbv;refine A9 hE hO 2 rfl rfl fun H hO=>?_;cbv;cases h;exact⟨_,_,rfl,⟨t10,ht10,rfl,rfl,hO⟩,.e2 .z,rfl⟩
    cbv;refine B4 hE hO 1 rfl ?_;cbv;refine Cd (f:=eAo6) hE WS (by decide) hO 0 rfl ht10 (l:=s9.2.cP) (m:=[r13.1]) (.refl _) (.lstc (.eq (eAp2 r13.1) (.refl _)) (.lst0)) h fun l15 t14 H hO ht14 h=>?_;cbv;refine A9 hE hO 1 rfl rfl fun H hO=>?_;cbv;cases h;exact⟨_,t14,rfl,.e rfl (.e4 .z),rfl,ht14,hO⟩
   cbv;cases h;exact⟨_,_,rfl,⟨t10,ht10,rfl,rfl,hO⟩,.e2 .z,rfl⟩
  ·exact .e rfl (.e4 .z)
  ·exact⟨trivial,hO⟩
  clear hx
  rcases s11 with y16|y18
  ·rintro e l H ⟨t17,ht17,rfl,rfl,hO⟩;cbv;refine B4 hE hO 1 rfl ?_;cbv;refine A9 hE hO 2 rfl rfl fun H hO=>?_;cbv;refine B4 hE hO 2 rfl ?_;cbv;cases h;exact hK hO (.tup (.cons (.agg (.cons (.refl _) (.cons (.ro _ _) (.refl _)))) (.refl _)))
  rintro e l H ⟨t19,ht19,rfl,rfl,hO⟩;cbv;refine B4 hE hO 2 rfl ?_;cbv;cases h;exact hK hO (.tup (.cons (.agg (.cons (.refl _) (.cons (.lit _ (C6)) (.refl _)))) (.refl _)))
 rintro e l H ⟨rfl,rfl,hO⟩;cbv;refine B4 hE hO 1 rfl ?_;cbv;cases h;exact hK hO (.tup (.cons (.agg (.cons (.refl _) (.cons (.lit _ (C6)) (.refl _)))) (.refl _)))
def cf94 :Cf:=⟨[4],[],[],[],[],[]⟩
theorem c94 (N aB aU r)(h:Bb N aB aU=some r):B2 prog 94 [(H5 aB),sr (V.int .i64) aU] (.tup [(H5 r.1),vi r.2]):=by
 unfold Bb at h
 refine I6 cf94 func94 call94 ntmps94 ?_;intro E H0 K hE hK hO;cbv;refine C4 hE hO fun b1 H hO=>?_;cbv;refine A3 hE h (c136 N aB) (.refl _) fun r2 h=>?_;cbv;refine A8 hE h (fun _ h=>?_) fun _ h=>?_
 ·cbv;refine A9 hE hO 0 rfl rfl fun H hO=>?_;cbv;refine B4 hE hO 0 rfl ?_;cbv;cases h;exact hK hO (.tup (.cons (.agg (.cons (.refl _) (.cons (.lit _ (C6)) (.refl _)))) (.refl _)))
 cbv;refine A3 hE h (c137 N N aB aU) (.refl _) fun r3 h=>?_;cbv;refine A9 hE hO 0 rfl rfl fun H hO=>?_;cbv;refine B4 hE hO 0 rfl ?_;cbv;cases h;exact hK hO (.refl _)
def cf77 :Cf:=⟨[4,6],[],[(15,5),(44,11)],[],[],[]⟩
theorem c77 (N:Nat):∀n aA aU r,R7 N n aA aU=some r→B2 prog 77 [(B6 aA),sr (V.int .i64) aU] (.tup [(B6 r.1),vi r.2]):=by
 intro n
 induction n with
 |zero=>intro aA aU r h;cases h
 |succ n ih=>
 intro aA aU r h
 unfold R7 at h
 refine I6 cf77 func77 call77 ntmps77 ?_;intro E H0 K hE hK hO;cbv;refine C4 hE hO fun b1 H hO=>?_;cbv;refine C4 hE hO fun b2 H hO=>?_;cbv;refine A9 hE hO 0 rfl rfl fun H hO=>?_;cbv;refine A9 hE hO 0 rfl rfl fun H hO=>?_;cbv;refine A3 hE h (c79 N aA) (.refl _) fun r3 h=>?_;cbv;obtain⟨s4,hx,h⟩:=bind_some h;refine U4 cf77 hE N5 (fun e l H1=>match(generalizing:=false) s4 with| .inl y=>e= .normal∧l=[(1,.v (sr (V.int .i64) aU)),(2,.v (.eref (C0 aA) 0)),(4,.v (.ref b1 0)),(6,.v (.ref b2 0))]∧B7 Eq H0 [cb b2 [vi y.Op,.sl [] .nil,vi y.Typ,vi y.Var,vi y.cS,vi y.Span,vi y.cQ.Op,sr eAo6 y.cQ.cP,vi y.cQ.Var,vi y.cQ.Field,vi y.cQ.Kind,vi y.cQ.Value.Kind,vi y.cQ.Value.Num,.str y.cQ.Value.Text],cb b1 [vi 0,.sl [] .nil,vi 0,vi 0,vi 0,vi 0,vi 0,.sl [] .nil,vi 0,vi 0,vi 0,vi 0,vi 0,.str (⟨#[]⟩)]] H1| .inr y=>e= .ret∧l=[(4,.v (.ref b1 0)),fi 5 y]∧B7 Eq H0 [cb b2 [vi aA.Op,.sl [] .nil,vi aA.Typ,vi aA.Var,vi aA.cS,vi aA.Span,vi aA.cQ.Op,sr eAo6 aA.cQ.cP,vi aA.cQ.Var,vi aA.cQ.Field,vi aA.cQ.Kind,vi aA.cQ.Value.Kind,vi aA.cQ.Value.Num,.str aA.cQ.Value.Text],cb b1 [vi 0,.sl [] .nil,vi 0,vi 0,vi 0,vi 0,vi 0,.sl [] .nil,vi 0,vi 0,vi 0,vi 0,vi 0,.str (⟨#[]⟩)]] H1) (by kernel_rfl) ?_ ?_
 ·clear h;have h:=hx;clear hx;cbv;refine A8 hE h (fun _ h=>?_) fun _ h=>?_
  ·cbv;refine D9 hE ?_;cbv;refine A8 hE h (fun _ h=>?_) fun _ h=>?_
   ·cbv;refine A9 hE hO 1 rfl rfl fun H hO=>?_;cbv;cases h;exact⟨_,⟨rfl,rfl,hO⟩,.e2 .z,rfl⟩
   cbv;refine B9 hE (fun _=>rfl) h fun x5 h=>?_;cbv;refine A8 hE h (fun _ h=>?_) fun _ h=>?_
   ·cbv;refine A9 hE hO 1 rfl rfl fun H hO=>?_;cbv;cases h;exact⟨_,⟨rfl,rfl,hO⟩,.e2 .z,rfl⟩
   cbv;refine B9 hE (fun _=>rfl) h fun x6 h=>?_;cbv;refine A8 hE h (fun _ h=>?_) fun _ h=>?_
   ·cbv;refine A9 hE hO 1 rfl rfl fun H hO=>?_;cbv;cases h;exact⟨_,⟨rfl,rfl,hO⟩,.e2 .z,rfl⟩
   cbv;refine B9 hE (fun _=>rfl) h fun x7 h=>?_;cbv;refine A9 hE hO 0 rfl rfl fun H hO=>?_;cbv;cases h;exact⟨_,⟨rfl,rfl,hO⟩,.e4 .z,rfl⟩
  cbv;cases h;exact⟨_,⟨rfl,rfl,hO⟩,.e4 .z,rfl⟩
 clear hx
 rcases s4 with y8|y25
 ·rintro e l H ⟨rfl,rfl,hO⟩;cbv;refine A3 hE h (c132 N aA) (.refl _) fun r9 h=>?_;cbv;obtain⟨s10,hx,h⟩:=bind_some h;refine U4 cf77 hE N5 (fun e l H1=>match(generalizing:=false) s10 with| .inl y=>e= .normal∧l=[(1,.v (sr (V.int .i64) aU)),(2,.v (.eref (C0 aA) 0)),(4,.v (.ref b1 0)),(6,.v (.ref b2 0))]∧B7 Eq H0 [cb b2 [vi y.Op,.sl [] .nil,vi y.Typ,vi y.Var,vi y.cS,vi y.Span,vi y.cQ.Op,sr eAo6 y.cQ.cP,vi y.cQ.Var,vi y.cQ.Field,vi y.cQ.Kind,vi y.cQ.Value.Kind,vi y.cQ.Value.Num,.str y.cQ.Value.Text],cb b1 [vi 0,.sl [] .nil,vi 0,vi 0,vi 0,vi 0,vi 0,.sl [] .nil,vi 0,vi 0,vi 0,vi 0,vi 0,.str (⟨#[]⟩)]] H1| .inr y=>e= .ret∧l=[(4,.v (.ref b1 0)),fi 5 y]∧B7 Eq H0 [cb b2 [vi y8.Op,.sl [] .nil,vi y8.Typ,vi y8.Var,vi y8.cS,vi y8.Span,vi y8.cQ.Op,sr eAo6 y8.cQ.cP,vi y8.cQ.Var,vi y8.cQ.Field,vi y8.cQ.Kind,vi y8.cQ.Value.Kind,vi y8.cQ.Value.Num,.str y8.cQ.Value.Text],cb b1 [vi 0,.sl [] .nil,vi 0,vi 0,vi 0,vi 0,vi 0,.sl [] .nil,vi 0,vi 0,vi 0,vi 0,vi 0,.str (⟨#[]⟩)]] H1) (by kernel_rfl) ?_ ?_
  ·clear h;have h:=hx;clear hx;cbv;refine A8 hE h (fun _ h=>?_) fun _ h=>?_
   ·cbv;refine A3 hE h (c94 N aA.cQ aU) (.refl _) fun r11 h=>?_;cbv;refine A8 hE h (fun _ h=>?_) fun _ h=>?_
    ·cbv;refine A9 hE hO 1 rfl rfl fun H hO=>?_;cbv;cases h;exact⟨_,⟨rfl,rfl,hO⟩,.e2 .z,rfl⟩
    cbv;refine A9 hE hO 0 rfl rfl fun H hO=>?_;cbv;cases h;exact⟨_,⟨rfl,rfl,hO⟩,.e4 .z,rfl⟩
   cbv;cases h;exact⟨_,⟨rfl,rfl,hO⟩,.e4 .z,rfl⟩
  clear hx
  rcases s10 with y12|y24
  ·rintro e l H ⟨rfl,rfl,hO⟩;cbv;replace hO:=hO.cast (L':=[cb b2 [vi y12.Op,.sl (Ar.lst eAo2 ([])) .nil,vi y12.Typ,vi y12.Var,vi y12.cS,vi y12.Span,vi y12.cQ.Op,sr eAo6 y12.cQ.cP,vi y12.cQ.Var,vi y12.cQ.Field,vi y12.cQ.Kind,vi y12.cQ.Value.Kind,vi y12.cQ.Value.Num,.str y12.cQ.Value.Text],cb b1 [vi 0,.sl [] .nil,vi 0,vi 0,vi 0,vi 0,vi 0,.sl [] .nil,vi 0,vi 0,vi 0,vi 0,vi 0,.str (⟨#[]⟩)]]) (by simp only[ob,cb,sr,←C6]<;>rfl);replace hO:=hO.tl0 (t:=.nil) rfl;obtain⟨s15,hx,h⟩:=bind_some h;refine W1 cf77 hE N5 (γ:=D7) (fun s13 g=>[(1,.v (sr (V.int .i64) aU)),(2,.v (.eref (C0 aA) 0)),(4,.v (.ref b1 0)),(6,.v (.ref b2 0)),fi 9 s13.1]) (fun s13 g H1=>W4 g∧B7 Eq H0 [.tl g,cb b2 [vi s13.2.Op,.sl (Ar.lst eAo2 s13.2.cP) g,vi s13.2.Typ,vi s13.2.Var,vi s13.2.cS,vi s13.2.Span,vi s13.2.cQ.Op,sr eAo6 y12.cQ.cP,vi s13.2.cQ.Var,vi s13.2.cQ.Field,vi s13.2.cQ.Kind,vi s13.2.cQ.Value.Kind,vi s13.2.cQ.Value.Num,.str s13.2.cQ.Value.Text],cb b1 [vi 0,.sl [] .nil,vi 0,vi 0,vi 0,vi 0,vi 0,.sl [] .nil,vi 0,vi 0,vi 0,vi 0,vi 0,.str (⟨#[]⟩)]] H1) (fun x e l H1=>match(generalizing:=false) x with| .inl y=>∃u1:D7,W4 u1∧e= .exit 0∧l=[(4,.v (.ref b1 0)),(6,.v (.ref b2 0))]∧B7 Eq H0 [.tl u1,cb b2 [vi y.Op,.sl (Ar.lst eAo2 y.cP) u1,vi y.Typ,vi y.Var,vi y.cS,vi y.Span,vi y.cQ.Op,sr eAo6 y.cQ.cP,vi y.cQ.Var,vi y.cQ.Field,vi y.cQ.Kind,vi y.cQ.Value.Kind,vi y.cQ.Value.Num,.str y.cQ.Value.Text],cb b1 [vi 0,.sl [] .nil,vi 0,vi 0,vi 0,vi 0,vi 0,.sl [] .nil,vi 0,vi 0,vi 0,vi 0,vi 0,.str (⟨#[]⟩)]] H1| .inr y=>∃u1:D7,W4 u1∧e= .ret∧l=[(4,.v (.ref b1 0)),fi 5 y.1]∧B7 Eq H0 [.tl u1,cb b2 [vi y.2.Op,.sl (Ar.lst eAo2 y.2.cP) u1,vi y.2.Typ,vi y.2.Var,vi y.2.cS,vi y.2.Span,vi y.2.cQ.Op,sr eAo6 y.2.cQ.cP,vi y.2.cQ.Var,vi y.2.cQ.Field,vi y.2.cQ.Kind,vi y.2.cQ.Value.Kind,vi y.2.cQ.Value.Num,.str y.2.cQ.Value.Text],cb b1 [vi 0,.sl [] .nil,vi 0,vi 0,vi 0,vi 0,vi 0,.sl [] .nil,vi 0,vi 0,vi 0,vi 0,vi 0,.str (⟨#[]⟩)]] H1) (by kernel_rfl) ?_ .nil hx ?_ ?_ ?_
   ·rintro s13 t14 H o ⟨ht14,hO⟩ h;clear hx;cbv;refine D9 hE ?_;cbv;refine A8 hE h (fun _ h=>?_) fun _ h=>?_
    ·cbv;refine B9 hE eAo4 h fun x16 h=>?_;cbv;refine A3 hE h (ih x16 aU) (.refl _) fun r17 h=>?_;cbv;refine A8 hE h (fun _ h=>?_) fun _ h=>?_
     ·cbv;refine A9 hE hO 2 rfl rfl fun H hO=>?_;cbv;cases h;exact⟨_,_,rfl,⟨t14,ht14,rfl,rfl,hO⟩,.e2 .z,rfl⟩
     cbv;refine B4 hE hO 1 rfl ?_;cbv;refine Cd (f:=eAo2) hE N4 (by decide) hO 0 rfl ht14 (l:=s13.2.cP) (m:=[r17.1]) (.refl _) (.lstc (.eq (eAo4 r17.1) (.refl _)) (.lst0)) h fun l19 t18 H hO ht18 h=>?_;cbv;refine A9 hE hO 1 rfl rfl fun H hO=>?_;cbv;cases h;exact⟨_,t18,rfl,.e rfl (.e4 .z),rfl,ht18,hO⟩
    cbv;cases h;exact⟨_,_,rfl,⟨t14,ht14,rfl,rfl,hO⟩,.e2 .z,rfl⟩
   ·exact .e rfl (.e4 .z)
   ·exact⟨trivial,hO⟩
   clear hx
   rcases s15 with y20|y22
   ·rintro e l H ⟨t21,ht21,rfl,rfl,hO⟩;cbv;refine B4 hE hO 1 rfl ?_;cbv;refine A9 hE hO 2 rfl rfl fun H hO=>?_;cbv;refine B4 hE hO 2 rfl ?_;cbv;cases h;exact hK hO (.tup (.cons (.agg (.cons (.refl _) (.cons (.ro _ _) (.refl _)))) (.refl _)))
   rintro e l H ⟨t23,ht23,rfl,rfl,hO⟩;cbv;refine B4 hE hO 2 rfl ?_;cbv;cases h;exact hK hO (.tup (.cons (.agg (.cons (.refl _) (.cons (.lit _ (C6)) (.cons (.refl _) (.cons (.refl _) (.cons (.refl _) (.cons (.refl _) (.cons (.refl _) (.cons (.lit _ (C6)) (.refl _)))))))))) (.refl _)))
  rintro e l H ⟨rfl,rfl,hO⟩;cbv;refine B4 hE hO 1 rfl ?_;cbv;cases h;exact hK hO (.tup (.cons (.agg (.cons (.refl _) (.cons (.lit _ (C6)) (.cons (.refl _) (.cons (.refl _) (.cons (.refl _) (.cons (.refl _) (.cons (.refl _) (.cons (.lit _ (C6)) (.refl _)))))))))) (.refl _)))
 rintro e l H ⟨rfl,rfl,hO⟩;cbv;refine B4 hE hO 1 rfl ?_;cbv;cases h;exact hK hO (.tup (.cons (.agg (.cons (.refl _) (.cons (.lit _ (C6)) (.cons (.refl _) (.cons (.refl _) (.cons (.refl _) (.cons (.refl _) (.cons (.refl _) (.cons (.lit _ (C6)) (.refl _)))))))))) (.refl _)))
def cf78 :Cf:=⟨[4,5],[(9,10)],[(16,5)],[],[],[]⟩
theorem c78 (N:Nat):∀n aA aK r,X2 N n aA aK=some r→B2 prog 78 [(B6 aA),vi aK] ((B6 r)):=by
 intro n
 induction n with
 |zero=>intro aA aK r h;cases h
 |succ n ih=>
 intro aA aK r h
 unfold X2 at h
 refine I6 cf78 func78 call78 ntmps78 ?_;intro E H0 K hE hK hO;cbv;refine C4 hE hO fun b1 H hO=>?_;cbv;refine C4 hE hO fun b2 H hO=>?_;cbv;refine A9 hE hO 0 rfl rfl fun H hO=>?_;cbv;refine A9 hE hO 0 rfl rfl fun H hO=>?_;cbv;refine A3 hE h (c80 N aA) (.refl _) fun r3 h=>?_;cbv;refine A8 hE h (fun _ h=>?_) fun _ h=>?_
 ·cbv;refine Xw cf78 hE N5 (by kernel_rfl) ?_;cbv;refine A9 hE hO 0 rfl rfl fun H hO=>?_;cbv;replace hO:=hO.cast (L':=[cb b2 [vi aA.Op,.sl (Ar.lst eAo2 ([])) .nil,vi aA.Typ,vi aA.Var,vi aK,vi aA.Span,vi aA.cQ.Op,sr eAo6 aA.cQ.cP,vi aA.cQ.Var,vi aA.cQ.Field,vi aA.cQ.Kind,vi aA.cQ.Value.Kind,vi aA.cQ.Value.Num,.str aA.cQ.Value.Text],cb b1 [vi 0,.sl [] .nil,vi 0,vi 0,vi 0,vi 0,vi 0,.sl [] .nil,vi 0,vi 0,vi 0,vi 0,vi 0,.str (⟨#[]⟩)]]) (by simp only[ob,cb,sr,←C6]<;>rfl);replace hO:=hO.tl0 (t:=.nil) rfl;obtain⟨s6,hx,h⟩:=bind_some h;refine W1 cf78 hE N5 (γ:=D7) (fun s4 g=>[fi 1 s4.1,(2,.v (.eref (C0 aA) 0)),(4,.v (.ref b1 0)),(5,.v (.ref b2 0)),fi 6 s4.2.1]) (fun s4 g H1=>W4 g∧B7 Eq H0 [.tl g,cb b2 [vi s4.2.2.Op,.sl (Ar.lst eAo2 s4.2.2.cP) g,vi s4.2.2.Typ,vi s4.2.2.Var,vi s4.2.2.cS,vi s4.2.2.Span,vi s4.2.2.cQ.Op,sr eAo6 aA.cQ.cP,vi s4.2.2.cQ.Var,vi s4.2.2.cQ.Field,vi s4.2.2.cQ.Kind,vi s4.2.2.cQ.Value.Kind,vi s4.2.2.cQ.Value.Num,.str s4.2.2.cQ.Value.Text],cb b1 [vi 0,.sl [] .nil,vi 0,vi 0,vi 0,vi 0,vi 0,.sl [] .nil,vi 0,vi 0,vi 0,vi 0,vi 0,.str (⟨#[]⟩)]] H1) (fun x e l H1=>∃u1:D7,W4 u1∧e= .exit 0∧l=[(4,.v (.ref b1 0)),(5,.v (.ref b2 0))]∧B7 Eq H0 [.tl u1,cb b2 [vi x.Op,.sl (Ar.lst eAo2 x.cP) u1,vi x.Typ,vi x.Var,vi x.cS,vi x.Span,vi x.cQ.Op,sr eAo6 x.cQ.cP,vi x.cQ.Var,vi x.cQ.Field,vi x.cQ.Kind,vi x.cQ.Value.Kind,vi x.cQ.Value.Num,.str x.cQ.Value.Text],cb b1 [vi 0,.sl [] .nil,vi 0,vi 0,vi 0,vi 0,vi 0,.sl [] .nil,vi 0,vi 0,vi 0,vi 0,vi 0,.str (⟨#[]⟩)]] H1) (by kernel_rfl) ?_ .nil hx ?_ ?_ ?_
  ·rintro s4 t5 H o ⟨ht5,hO⟩ h;clear hx;cbv;refine D9 hE ?_;cbv;refine A8 hE h (fun _ h=>?_) fun _ h=>?_
   ·cbv;refine B4 hE hO 1 rfl ?_;cbv;refine B9 hE eAo4 h fun x7 h=>?_;cbv;refine D5 hE (g:=fun r8=>(B6 r8)) h (ih x7 s4.1) (.refl _) fun r8 h=>?_;cbv;refine Cd (f:=eAo2) hE N4 (by decide) hO 0 rfl ht5 (l:=s4.2.2.cP) (m:=[r8]) (.refl _) (.lstc (.eq (eAo4 r8) (.refl _)) (.lst0)) h fun l10 t9 H hO ht9 h=>?_;cbv;refine A9 hE hO 1 rfl rfl fun H hO=>?_;cbv;refine B9 hE eAo4 h fun x11 h=>?_;cbv;refine A3 hE h (c75 N N x11) (.refl _) fun r12 h=>?_;cbv;obtain⟨s14,hx,h⟩:=bind_some h;refine E9 cf78 hE N5 (fun s13=>[fi 1 s13.1,(2,.v (.eref (C0 aA) 0)),(4,.v (.ref b1 0)),(5,.v (.ref b2 0)),fi 6 s4.2.1,(7,.v (sr eAo2 r12)),fi 8 s13.2]) (fun s13 H1=>B7 Eq H0 [.tl t9,cb b2 [vi s4.2.2.Op,.sl (Ar.lst eAo2 l10) t9,vi s4.2.2.Typ,vi s4.2.2.Var,vi s4.2.2.cS,vi s4.2.2.Span,vi s4.2.2.cQ.Op,sr eAo6 aA.cQ.cP,vi s4.2.2.cQ.Var,vi s4.2.2.cQ.Field,vi s4.2.2.cQ.Kind,vi s4.2.2.cQ.Value.Kind,vi s4.2.2.cQ.Value.Num,.str s4.2.2.cQ.Value.Text],cb b1 [vi 0,.sl [] .nil,vi 0,vi 0,vi 0,vi 0,vi 0,.sl [] .nil,vi 0,vi 0,vi 0,vi 0,vi 0,.str (⟨#[]⟩)]] H1) (fun x e l H1=>e= .exit 2∧l=[fi 1 x,(2,.v (.eref (C0 aA) 0)),(4,.v (.ref b1 0)),(5,.v (.ref b2 0)),fi 6 s4.2.1]∧B7 Eq H0 [.tl t9,cb b2 [vi s4.2.2.Op,.sl (Ar.lst eAo2 l10) t9,vi s4.2.2.Typ,vi s4.2.2.Var,vi s4.2.2.cS,vi s4.2.2.Span,vi s4.2.2.cQ.Op,sr eAo6 aA.cQ.cP,vi s4.2.2.cQ.Var,vi s4.2.2.cQ.Field,vi s4.2.2.cQ.Kind,vi s4.2.2.cQ.Value.Kind,vi s4.2.2.cQ.Value.Num,.str s4.2.2.cQ.Value.Text],cb b1 [vi 0,.sl [] .nil,vi 0,vi 0,vi 0,vi 0,vi 0,.sl [] .nil,vi 0,vi 0,vi 0,vi 0,vi 0,.str (⟨#[]⟩)]] H1) (by kernel_rfl) ?_ hx ?_ hO ?_
    ·intro s13 H o hO h;clear hx;cbv;refine D9 hE ?_;cbv;refine A8 hE h (fun _ h=>?_) fun _ h=>?_
     ·cbv;refine B9 hE eAo4 h fun x15 h=>?_;cbv;refine A3 hE h (c80 N x15) (.refl _) fun r16 h=>?_;cbv;refine A8 hE h (fun _ h=>?_) fun _ h=>?_
      ·cbv;cases h;exact⟨_,rfl,.e rfl (.e2 (.e4 .z)),rfl,hO⟩
      cbv;refine B9 hE eAo4 h fun x17 h=>?_;cbv;refine A3 hE h (c81 N x17) (.refl _) fun r18 h=>?_;cbv;refine A8 hE h (fun _ h=>?_) fun _ h=>?_
      ·cbv;cases h;exact⟨_,rfl,.e rfl (.e2 (.e4 .z)),rfl,hO⟩
      cbv;cases h;exact⟨_,rfl,.e rfl (.e2 (.e4 .z)),rfl,hO⟩
     cbv;cases h;exact⟨_,_,rfl,⟨rfl,rfl,hO⟩,.e rfl (.e4 .z),rfl⟩
    ·exact .e rfl (.e2 (.e4 .z))
    clear hx;rintro e l H ⟨rfl,rfl,hO⟩;cbv;cases h;exact⟨_,t9,rfl,.e rfl (.e4 .z),rfl,ht9,hO⟩
   cbv;cases h;exact⟨_,_,rfl,⟨t5,ht5,rfl,rfl,hO⟩,.e2 .z,rfl⟩
  ·exact .e rfl (.e4 .z)
  ·exact⟨trivial,hO⟩
  clear hx;rintro e l H ⟨t19,ht19,rfl,rfl,hO⟩;cbv;refine B4 hE hO 1 rfl ?_;cbv;refine A9 hE hO 2 rfl rfl fun H hO=>?_;cbv;refine B4 hE hO 2 rfl ?_;cbv;cases h;exact hK hO (.agg (.cons (.refl _) (.cons (.ro _ _) (.refl _))))
 cbv;refine A3 hE h (c81 N aA) (.refl _) fun r20 h=>?_;cbv;obtain⟨s21,hx,h⟩:=bind_some h;refine U4 cf78 hE N5 (fun e l H1=>e= .normal∧l=[fi 1 s21.1,(2,.v (.eref (C0 aA) 0)),(4,.v (.ref b1 0)),(5,.v (.ref b2 0))]∧B7 Eq H0 [cb b2 [vi s21.2.Op,.sl [] .nil,vi s21.2.Typ,vi s21.2.Var,vi s21.2.cS,vi s21.2.Span,vi s21.2.cQ.Op,sr eAo6 s21.2.cQ.cP,vi s21.2.cQ.Var,vi s21.2.cQ.Field,vi s21.2.cQ.Kind,vi s21.2.cQ.Value.Kind,vi s21.2.cQ.Value.Num,.str s21.2.cQ.Value.Text],cb b1 [vi 0,.sl [] .nil,vi 0,vi 0,vi 0,vi 0,vi 0,.sl [] .nil,vi 0,vi 0,vi 0,vi 0,vi 0,.str (⟨#[]⟩)]] H1) (by kernel_rfl) ?_ ?_
 ·clear h;have h:=hx;clear hx;cbv;refine A8 hE h (fun _ h=>?_) fun _ h=>?_
  ·cbv;refine A9 hE hO 0 rfl rfl fun H hO=>?_;cbv;cases h;exact⟨_,⟨rfl,rfl,hO⟩,.e4 .z,rfl⟩
  cbv;cases h;exact⟨_,⟨rfl,rfl,hO⟩,.e4 .z,rfl⟩
 clear hx;rintro e l H ⟨rfl,rfl,hO⟩;cbv;replace hO:=hO.cast (L':=[cb b2 [vi s21.2.Op,.sl (Ar.lst eAo2 ([])) .nil,vi s21.2.Typ,vi s21.2.Var,vi s21.2.cS,vi s21.2.Span,vi s21.2.cQ.Op,sr eAo6 s21.2.cQ.cP,vi s21.2.cQ.Var,vi s21.2.cQ.Field,vi s21.2.cQ.Kind,vi s21.2.cQ.Value.Kind,vi s21.2.cQ.Value.Num,.str s21.2.cQ.Value.Text],cb b1 [vi 0,.sl [] .nil,vi 0,vi 0,vi 0,vi 0,vi 0,.sl [] .nil,vi 0,vi 0,vi 0,vi 0,vi 0,.str (⟨#[]⟩)]]) (by simp only[ob,cb,sr,←C6]<;>rfl);replace hO:=hO.tl0 (t:=.nil) rfl;obtain⟨s24,hx,h⟩:=bind_some h;refine W1 cf78 hE N5 (γ:=D7) (fun s22 g=>[fi 1 s22.1,(2,.v (.eref (C0 aA) 0)),(4,.v (.ref b1 0)),(5,.v (.ref b2 0)),fi 6 s22.2.1]) (fun s22 g H1=>W4 g∧B7 Eq H0 [.tl g,cb b2 [vi s22.2.2.Op,.sl (Ar.lst eAo2 s22.2.2.cP) g,vi s22.2.2.Typ,vi s22.2.2.Var,vi s22.2.2.cS,vi s22.2.2.Span,vi s22.2.2.cQ.Op,sr eAo6 s21.2.cQ.cP,vi s22.2.2.cQ.Var,vi s22.2.2.cQ.Field,vi s22.2.2.cQ.Kind,vi s22.2.2.cQ.Value.Kind,vi s22.2.2.cQ.Value.Num,.str s22.2.2.cQ.Value.Text],cb b1 [vi 0,.sl [] .nil,vi 0,vi 0,vi 0,vi 0,vi 0,.sl [] .nil,vi 0,vi 0,vi 0,vi 0,vi 0,.str (⟨#[]⟩)]] H1) (fun x e l H1=>∃u1:D7,W4 u1∧e= .exit 0∧l=[(4,.v (.ref b1 0)),(5,.v (.ref b2 0))]∧B7 Eq H0 [.tl u1,cb b2 [vi x.Op,.sl (Ar.lst eAo2 x.cP) u1,vi x.Typ,vi x.Var,vi x.cS,vi x.Span,vi x.cQ.Op,sr eAo6 x.cQ.cP,vi x.cQ.Var,vi x.cQ.Field,vi x.cQ.Kind,vi x.cQ.Value.Kind,vi x.cQ.Value.Num,.str x.cQ.Value.Text],cb b1 [vi 0,.sl [] .nil,vi 0,vi 0,vi 0,vi 0,vi 0,.sl [] .nil,vi 0,vi 0,vi 0,vi 0,vi 0,.str (⟨#[]⟩)]] H1) (by kernel_rfl) ?_ .nil hx ?_ ?_ ?_
 ·rintro s22 t23 H o ⟨ht23,hO⟩ h;clear hx;cbv;refine D9 hE ?_;cbv;refine A8 hE h (fun _ h=>?_) fun _ h=>?_
  ·cbv;refine B4 hE hO 1 rfl ?_;cbv;refine B9 hE eAo4 h fun x25 h=>?_;cbv;refine D5 hE (g:=fun r26=>(B6 r26)) h (ih x25 s22.1) (.refl _) fun r26 h=>?_;cbv;refine Cd (f:=eAo2) hE N4 (by decide) hO 0 rfl ht23 (l:=s22.2.2.cP) (m:=[r26]) (.refl _) (.lstc (.eq (eAo4 r26) (.refl _)) (.lst0)) h fun l28 t27 H hO ht27 h=>?_;cbv;refine A9 hE hO 1 rfl rfl fun H hO=>?_;cbv;refine B9 hE eAo4 h fun x29 h=>?_;cbv;refine A3 hE h (c75 N N x29) (.refl _) fun r30 h=>?_;cbv;obtain⟨s32,hx,h⟩:=bind_some h;refine E9 cf78 hE N5 (fun s31=>[fi 1 s31.1,(2,.v (.eref (C0 aA) 0)),(4,.v (.ref b1 0)),(5,.v (.ref b2 0)),fi 6 s22.2.1,(7,.v (sr eAo2 r30)),fi 8 s31.2]) (fun s31 H1=>B7 Eq H0 [.tl t27,cb b2 [vi s22.2.2.Op,.sl (Ar.lst eAo2 l28) t27,vi s22.2.2.Typ,vi s22.2.2.Var,vi s22.2.2.cS,vi s22.2.2.Span,vi s22.2.2.cQ.Op,sr eAo6 s21.2.cQ.cP,vi s22.2.2.cQ.Var,vi s22.2.2.cQ.Field,vi s22.2.2.cQ.Kind,vi s22.2.2.cQ.Value.Kind,vi s22.2.2.cQ.Value.Num,.str s22.2.2.cQ.Value.Text],cb b1 [vi 0,.sl [] .nil,vi 0,vi 0,vi 0,vi 0,vi 0,.sl [] .nil,vi 0,vi 0,vi 0,vi 0,vi 0,.str (⟨#[]⟩)]] H1) (fun x e l H1=>e= .exit 2∧l=[fi 1 x,(2,.v (.eref (C0 aA) 0)),(4,.v (.ref b1 0)),(5,.v (.ref b2 0)),fi 6 s22.2.1]∧B7 Eq H0 [.tl t27,cb b2 [vi s22.2.2.Op,.sl (Ar.lst eAo2 l28) t27,vi s22.2.2.Typ,vi s22.2.2.Var,vi s22.2.2.cS,vi s22.2.2.Span,vi s22.2.2.cQ.Op,sr eAo6 s21.2.cQ.cP,vi s22.2.2.cQ.Var,vi s22.2.2.cQ.Field,vi s22.2.2.cQ.Kind,vi s22.2.2.cQ.Value.Kind,vi s22.2.2.cQ.Value.Num,.str s22.2.2.cQ.Value.Text],cb b1 [vi 0,.sl [] .nil,vi 0,vi 0,vi 0,vi 0,vi 0,.sl [] .nil,vi 0,vi 0,vi 0,vi 0,vi 0,.str (⟨#[]⟩)]] H1) (by kernel_rfl) ?_ hx ?_ hO ?_
   ·intro s31 H o hO h;clear hx;cbv;refine D9 hE ?_;cbv;refine A8 hE h (fun _ h=>?_) fun _ h=>?_
    ·cbv;refine B9 hE eAo4 h fun x33 h=>?_;cbv;refine A3 hE h (c80 N x33) (.refl _) fun r34 h=>?_;cbv;refine A8 hE h (fun _ h=>?_) fun _ h=>?_
     ·cbv;cases h;exact⟨_,rfl,.e rfl (.e2 (.e4 .z)),rfl,hO⟩
     cbv;refine B9 hE eAo4 h fun x35 h=>?_;cbv;refine A3 hE h (c81 N x35) (.refl _) fun r36 h=>?_;cbv;refine A8 hE h (fun _ h=>?_) fun _ h=>?_
     ·cbv;cases h;exact⟨_,rfl,.e rfl (.e2 (.e4 .z)),rfl,hO⟩
     cbv;cases h;exact⟨_,rfl,.e rfl (.e2 (.e4 .z)),rfl,hO⟩
    cbv;cases h;exact⟨_,_,rfl,⟨rfl,rfl,hO⟩,.e rfl (.e4 .z),rfl⟩
   ·exact .e rfl (.e2 (.e4 .z))
   clear hx;rintro e l H ⟨rfl,rfl,hO⟩;cbv;cases h;exact⟨_,t27,rfl,.e rfl (.e4 .z),rfl,ht27,hO⟩
  cbv;cases h;exact⟨_,_,rfl,⟨t23,ht23,rfl,rfl,hO⟩,.e2 .z,rfl⟩
 ·exact .e rfl (.e4 .z)
 ·exact⟨trivial,hO⟩
 clear hx;rintro e l H ⟨t37,ht37,rfl,rfl,hO⟩;cbv;refine B4 hE hO 1 rfl ?_;cbv;refine A9 hE hO 2 rfl rfl fun H hO=>?_;cbv;refine B4 hE hO 2 rfl ?_;cbv;cases h;exact hK hO (.agg (.cons (.refl _) (.cons (.ro _ _) (.refl _))))
def cf19 :Cf:=⟨[2],[],[],[],[(57,8)],[]⟩
theorem c19 (N aA r) (h:U1 N aA=some r):B2 prog 19 [(B6 aA)] (.tup [(B6 r.1),sr (V.int .i64) r.2.1,vi r.2.2]):=by
 unfold U1 at h
 refine I6 cf19 func19 call19 ntmps19 ?_;intro E H0 K hE hK hO;cbv;refine C4 hE hO fun b1 H hO=>?_;cbv;refine A3 hE h (c73 N aA) (.refl _) fun r2 h=>?_;cbv;refine A8 hE h (fun _ h=>?_) fun _ h=>?_
 ·cbv;refine A9 hE hO 0 rfl rfl fun H hO=>?_;cbv;refine B4 hE hO 0 rfl ?_;cbv;cases h;exact hK hO (.tup (.cons (.agg (.cons (.refl _) (.cons (.lit _ (C6)) (.cons (.refl _) (.cons (.refl _) (.cons (.refl _) (.cons (.refl _) (.cons (.refl _) (.cons (.lit _ (C6)) (.refl _)))))))))) (.cons (.lit _ (C6)) (.refl _))))
 cbv;refine A3 hE h (c75 N N aA) (.refl _) fun r3 h=>?_;cbv;refine A3 hE h (c74 N r3) (.refl _) fun r4 h=>?_;cbv;refine A8 hE h (fun _ h=>?_) fun _ h=>?_
 ·cbv;refine A9 hE hO 0 rfl rfl fun H hO=>?_;cbv;refine B4 hE hO 0 rfl ?_;cbv;cases h;exact hK hO (.tup (.cons (.agg (.cons (.refl _) (.cons (.lit _ (C6)) (.cons (.refl _) (.cons (.refl _) (.cons (.refl _) (.cons (.refl _) (.cons (.refl _) (.cons (.lit _ (C6)) (.refl _)))))))))) (.cons (.lit _ (C6)) (.refl _))))
 cbv;refine A3 hE h (c76 N aA) (.refl _) fun r5 h=>?_;cbv;refine A8 hE h (fun _ h=>?_) fun _ h=>?_
 ·cbv;refine A9 hE hO 0 rfl rfl fun H hO=>?_;cbv;refine B4 hE hO 0 rfl ?_;cbv;cases h;exact hK hO (.tup (.cons (.agg (.cons (.refl _) (.cons (.lit _ (C6)) (.cons (.refl _) (.cons (.refl _) (.cons (.refl _) (.cons (.refl _) (.cons (.refl _) (.cons (.lit _ (C6)) (.refl _)))))))))) (.cons (.lit _ (C6)) (.refl _))))
 cbv;refine Uj hE (f:=(V.int .i64)) (by decide) (z0:=(0:Int)) ((.refl _)) hO h fun l7 q6 H hq6 h hO=>?_;cbv;obtain⟨s10,hx,h⟩:=bind_some h;refine W1 cf19 hE N5 (γ:=OG) (fun s8 g=>[(1,.v (.eref (C0 aA) 0)),(2,.v (.ref b1 0)),(6,.v (sr (V.int .i64) r5.1)),(8,.v (.own g.id g.lo g.n)),fi 9 s8.1]) (fun s8 g H1=>Ej g (Ar.len s8.2)∧B7 Eq H0 [ob g 1 (V.int .i64) s8.2,cb b1 [vi 0,.sl [] .nil,vi 0,vi 0,vi 0,vi 0,vi 0,.sl [] .nil,vi 0,vi 0,vi 0,vi 0,vi 0,.str (⟨#[]⟩)]] H1) (fun x e l H1=>∃u1:OG,Ej u1 (Ar.len x)∧e= .exit 0∧l=[(1,.v (.eref (C0 aA) 0)),(2,.v (.ref b1 0)),(6,.v (sr (V.int .i64) r5.1)),(8,.v (.own u1.id u1.lo u1.n))]∧B7 Eq H0 [ob u1 1 (V.int .i64) x,cb b1 [vi 0,.sl [] .nil,vi 0,vi 0,vi 0,vi 0,vi 0,.sl [] .nil,vi 0,vi 0,vi 0,vi 0,vi 0,.str (⟨#[]⟩)]] H1) (by kernel_rfl) ?_ q6 hx ?_ ?_ ?_
 ·rintro s8 q9 H o ⟨hq9,hO⟩ h;clear hx;cbv;refine Af7 hE hq9 ?_;cbv;refine A8 hE h (fun _ h=>?_) fun _ h=>?_
  ·cbv;refine Mb hE hO hq9 0 rfl h fun h=>?_;cbv;refine Jc hE (f:=(V.int .i64)) (esz:=1) (tz:=1) (off:=0) (u:=(fun x11:Int=>(-1))) (fun _=>⟨.int .i64 (-1),.refl _,rfl,rfl,rfl⟩) (by decide) hO hq9 0 rfl h fun l12 H hq9 h hO=>?_;cbv;cases h;exact⟨_,q9,rfl,.e rfl (.e4 .z),rfl,hq9,hO⟩
  cbv;cases h;exact⟨_,_,rfl,⟨q9,hq9,rfl,rfl,hO⟩,.e4 .z,rfl⟩
 ·exact .e rfl (.e4 .z)
 ·exact⟨hq6,hO⟩
 clear hx;rintro e l H ⟨q13,hq13,rfl,rfl,hO⟩;cbv;obtain⟨s16,hx,h⟩:=bind_some h;refine W1 cf19 hE N5 (γ:=OG) (fun s14 g=>[(1,.v (.eref (C0 aA) 0)),(2,.v (.ref b1 0)),(6,.v (sr (V.int .i64) r5.1)),(8,.v (.own g.id g.lo g.n)),fi 10 s14.1]) (fun s14 g H1=>Ej g (Ar.len s14.2)∧B7 Eq H0 [ob g 1 (V.int .i64) s14.2,cb b1 [vi 0,.sl [] .nil,vi 0,vi 0,vi 0,vi 0,vi 0,.sl [] .nil,vi 0,vi 0,vi 0,vi 0,vi 0,.str (⟨#[]⟩)]] H1) (fun x e l H1=>∃u1:OG,Ej u1 (Ar.len x)∧e= .exit 2∧l=[(1,.v (.eref (C0 aA) 0)),(2,.v (.ref b1 0)),(6,.v (sr (V.int .i64) r5.1)),(8,.v (.own u1.id u1.lo u1.n))]∧B7 Eq H0 [ob u1 1 (V.int .i64) x,cb b1 [vi 0,.sl [] .nil,vi 0,vi 0,vi 0,vi 0,vi 0,.sl [] .nil,vi 0,vi 0,vi 0,vi 0,vi 0,.str (⟨#[]⟩)]] H1) (by kernel_rfl) ?_ q13 hx ?_ ?_ ?_
 ·rintro s14 q15 H o ⟨hq15,hO⟩ h;clear hx;cbv;refine D9 hE ?_;cbv;refine A8 hE h (fun _ h=>?_) fun _ h=>?_
  ·cbv;refine B9 hE (fun _=>rfl) h fun x17 h=>?_;cbv;refine Mb hE hO hq15 0 rfl h fun h=>?_;cbv;refine Jc hE (f:=(V.int .i64)) (esz:=1) (tz:=1) (off:=0) (u:=(fun x18:Int=>s14.1)) (fun _=>⟨.int .i64 s14.1,.refl _,rfl,rfl,rfl⟩) (by decide) hO hq15 0 rfl h fun l19 H hq15 h hO=>?_;cbv;cases h;exact⟨_,q15,rfl,.e rfl (.e4 .z),rfl,hq15,hO⟩
  cbv;cases h;exact⟨_,_,rfl,⟨q15,hq15,rfl,rfl,hO⟩,.e4 .z,rfl⟩
 ·exact .e rfl (.e4 .z)
 ·exact⟨hq13,hO⟩
 clear hx;rintro e l H ⟨q20,hq20,rfl,rfl,hO⟩;cbv;refine XB hE hO hq20 0 rfl fun H hO=>?_;cbv;refine A3 hE h (c77 N N aA s16) (.refl _) fun r21 h=>?_;cbv;refine A8 hE h (fun _ h=>?_) fun _ h=>?_
 ·cbv;refine A9 hE hO 0 rfl rfl fun H hO=>?_;cbv;refine B4 hE hO 0 rfl ?_;cbv;cases h;exact hK hO (.tup (.cons (.agg (.cons (.refl _) (.cons (.lit _ (C6)) (.cons (.refl _) (.cons (.refl _) (.cons (.refl _) (.cons (.refl _) (.cons (.refl _) (.cons (.lit _ (C6)) (.refl _)))))))))) (.cons (.lit _ (C6)) (.refl _))))
 cbv;refine A3 hE h (c78 N N r21.1 0) (.refl _) fun r22 h=>?_;cbv;refine A9 hE hO 0 rfl rfl fun H hO=>?_;cbv;refine B4 hE hO 0 rfl ?_;cbv;cases h;exact hK hO (.refl _)
def cf21 :Cf:=⟨[],[(6,10)],[],[],[],[]⟩
theorem c21 (N:Nat):∀n aC aD r,AL N n aC aD=some r→B2 prog 21 [(B6 aC),(B6 aD)] (.bool r):=by
 intro n
 induction n with
 |zero=>intro aC aD r h;cases h
 |succ n ih=>
 intro aC aD r h
 unfold AL at h
 refine I6 cf21 func21 call21 ntmps21 ?_;intro E H0 K hE hK hO;cbv;refine A8 hE h (fun _ h=>?_) fun _ h=>?_
 ·cbv;cases h;exact hK hO (.refl _)
 cbv;refine A3 hE h (c82 N N aC.cQ aD.cQ) (.refl _) fun r1 h=>?_;cbv;refine D9 hE ?_;cbv;refine D9 hE ?_;cbv;refine A8 hE h (fun _ h=>?_) fun _ h=>?_
 ·cbv;cases h;exact hK hO (.refl _)
 cbv;obtain⟨s3,hx,h⟩:=bind_some h;refine E9 cf21 hE N5 (fun s2=>[(2,.v (.eref (C0 aC) 0)),(3,.v (.eref (C0 aD) 0)),fi 5 s2]) (fun s2 H1=>B7 Eq H0 [] H1) (fun x e l H1=>match(generalizing:=false) x with| .inl y=>e= .exit 0∧l=[]∧B7 Eq H0 [] H1| .inr y=>e= .ret∧l=[(4,.b false)]∧B7 Eq H0 [] H1) (by kernel_rfl) ?_ hx ?_ hO ?_
 ·intro s2 H o hO h;clear hx;cbv;refine D9 hE ?_;cbv;refine A8 hE h (fun _ h=>?_) fun _ h=>?_
  ·cbv;refine B9 hE eAo4 h fun x4 h=>?_;cbv;refine B9 hE eAo4 h fun x5 h=>?_;cbv;refine A3 hE h (ih x4 x5) (.refl _) fun r6 h=>?_;cbv;refine A8 hE h (fun _ h=>?_) fun _ h=>?_
   ·cbv;cases h;exact⟨_,_,rfl,⟨rfl,rfl,hO⟩,.b rfl (.z),rfl⟩
   cbv;cases h;exact⟨_,rfl,.e rfl (.e2 .z),rfl,hO⟩
  cbv;cases h;exact⟨_,_,rfl,⟨rfl,rfl,hO⟩,.z,rfl⟩
 ·exact .e rfl (.e2 .z)
 clear hx
 rcases s3 with y7|y8
 ·rintro e l H ⟨rfl,rfl,hO⟩;cbv;cases h;exact hK hO (.refl _)
 rintro e l H ⟨rfl,rfl,hO⟩;cbv;cases h;exact hK hO (.refl _)
def cf4 :Cf:=⟨[18,3000119,3000125],[(13,20),(23,12)],[(55,9)],[],[],[]⟩
set_option maxHeartbeats 2000000 in
theorem c4 (N aA aF bW r) (h:U5 N aA aF bW=some r):B2 prog 4 [(B6 aA),sr eAo3 aF,.int .u8 bW] (.bool r):=by
 unfold U5 at h
 refine I6 cf4 func4 call4 ntmps4 ?_;intro E H0 K hE hK hO;cbv;refine A3 hE h (c17 N aA aF) (.refl _) fun r1 h=>?_;cbv;refine A8 hE h (fun _ h=>?_) fun _ h=>?_
 ·cbv;refine A3 hE h (c13 N) (.refl _) fun r2 h=>?_;cbv;cases h;exact hK hO (.refl _)
 cbv;refine A3 hE h (c18 N aA aF) (.refl _) fun r3 h=>?_;cbv;refine Ul hE (RB hE rfl) ?_;cbv;refine A3 hE h (c19 N (⟨6,[aA],0,0,0,Ar.wr .i64 (Ar.ar .rem .u8 bW 8),(⟨0,[],0,0,0,(⟨0,0,⟨#[]⟩⟩:A7)⟩:A4)⟩:A0)) (.cons (.agg (.cons (.refl _) (.cons (.lit _ (F9 ((eAo4 aA).symm) (C6))) (.cons (.refl _) (.cons (.refl _) (.cons (.refl _) (.cons (.refl _) (.cons (.refl _) (.cons (.lit _ (C6)) (.refl _)))))))))) (.refl _)) fun r4 h=>?_;cbv;refine A8 hE h (fun _ h=>?_) fun _ h=>?_
 ·cbv;cases h;exact hK hO (.refl _)
 cbv;refine A8 hE h (fun _ h=>?_) fun _ h=>?_
 ·cbv;refine A3 hE h (c20 N r4.1) (.refl _) fun r5 h=>?_;cbv;obtain⟨s6,hx,h⟩:=bind_some h;refine U4 cf4 hE N5 (fun e l H1=>match(generalizing:=false) s6 with| .inl y=>e= .normal∧l=[(1,.v (sr eAo3 aF)),(3,.v (.eref (C0 aA) 0)),(7,.v (.eref [sr eAo5 r3.1] 0))]∧B7 Eq H0 [] H1| .inr y=>e= .ret∧l=[(6,.b false)]∧B7 Eq H0 [] H1) (by kernel_rfl) ?_ ?_
  ·clear h;have h:=hx;clear hx;cbv;refine A8 hE h (fun _ h=>?_) fun _ h=>?_
   ·cbv;refine A3 hE h (c18 N r4.1 aF) (.refl _) fun r7 h=>?_;cbv;refine D9 hE ?_;cbv;replace hO:=hO.tl0 (t:=.nil) rfl;obtain⟨s10,hx,h⟩:=bind_some h;refine W1 cf4 hE N5 (γ:=D7) (fun s8 g=>[(1,.v (sr eAo3 aF)),(2,.v (.int .u8 bW)),(3,.v (.eref (C0 aA) 0)),(7,.v (.eref [sr eAo5 r3.1] 0)),(12,.v (sr eAo5 r7.1)),(13,.v (.bool r7.2)),(14,.v (.sl (Ar.lst eAo5 s8.1) g)),(62,.v (sr eAo5 r3.1)),fi 63 (Ar.len r3.1),fi 64 s8.2]) (fun s8 g H1=>W4 g∧B7 Eq H0 [.tl g] H1) (fun x e l H1=>∃u1:D7,W4 u1∧e= .exit 0∧l=[(1,.v (sr eAo3 aF)),(3,.v (.eref (C0 aA) 0)),(7,.v (.eref [sr eAo5 r3.1] 0)),(12,.v (sr eAo5 r7.1)),(13,.v (.bool r7.2)),(14,.v (.sl (Ar.lst eAo5 x) u1))]∧B7 Eq H0 [.tl u1] H1) (by kernel_rfl) ?_ .nil hx ?_ ?_ ?_
    ·rintro s8 t9 H o ⟨ht9,hO⟩ h;clear hx;cbv;refine A8 hE h (fun _ h=>?_) fun _ h=>?_
     ·cbv;refine B9 hE eAp3 h fun x11 h=>?_;cbv;refine D9 hE ?_;cbv;refine B9 hE eAp5 h fun x12 h=>?_;cbv;refine B9 hE eAp5 h fun x13 h=>?_;cbv;refine Ul hE (RB hE rfl) ?_;cbv;refine A8 hE h (fun _ h=>?_) fun _ h=>?_
      ·cbv;refine Cd (f:=eAo5) hE Hq (by decide) hO 0 rfl ht9 (l:=s8.1) (m:=[x11]) (.refl _) (.lstc (.eq (eAp3 x11) (.refl _)) (.lst0)) h fun l15 t14 H hO ht14 h=>?_;cbv;cases h;exact⟨_,t14,rfl,.e2 (.e4 (.e4 .z)),rfl,ht14,hO⟩
      cbv;cases h;exact⟨_,t9,rfl,.e2 (.e4 (.e4 .z)),rfl,ht9,hO⟩
     cbv;cases h;exact⟨_,_,rfl,⟨t9,ht9,rfl,rfl,hO⟩,.e2 (.e4 .z),rfl⟩
    ·exact .e2 (.e4 (.v (.slt _ (.lst0)) (.e rfl (.e rfl (.e rfl (.z))))))
    ·exact⟨trivial,hO⟩
    clear hx;rintro e l H ⟨t16,ht16,rfl,rfl,hO⟩;cbv;refine A8 hE h (fun _ h=>?_) fun _ h=>?_
    ·cbv;cases h;exact⟨_,⟨rfl,rfl,hO.tail⟩,.b rfl (.z),rfl⟩
    cbv;refine A3 hE h (c16 N r7.1 s10) (.cons (.refl _) (.cons (.ro _ _) (.refl _))) fun r17 h=>?_;cbv;refine A8 hE h (fun _ h=>?_) fun _ h=>?_
    ·cbv;cases h;exact⟨_,⟨rfl,rfl,hO.tail⟩,.b rfl (.z),rfl⟩
    cbv;cases h;exact⟨_,⟨rfl,rfl,hO.tail⟩,.e rfl (.e2 .z),rfl⟩
   cbv;cases h;exact⟨_,⟨rfl,rfl,hO⟩,.e rfl (.e2 .z),rfl⟩
  clear hx
  rcases s6 with y18|y38
  ·rintro e l H ⟨rfl,rfl,hO⟩;cbv;refine A8 hE h (fun _ h=>?_) fun _ h=>?_
   ·cbv;refine A3 hE h (c13 N) (.refl _) fun r19 h=>?_;cbv;cases h;exact hK hO (.refl _)
   cbv;refine D9 hE ?_;cbv;obtain⟨s21,hx,h⟩:=bind_some h;refine E9 cf4 hE N5 (fun s20=>[(1,.v (sr eAo3 aF)),(3,.v (.eref (C0 aA) 0)),(7,.v (.eref [sr eAo5 r3.1] 0)),(107,.v (sr eAo2 aA.cP)),fi 108 (Ar.len aA.cP),fi 109 s20]) (fun s20 H1=>B7 Eq H0 [] H1) (fun x e l H1=>match(generalizing:=false) x with| .inl y=>e= .exit 2∧l=[]∧B7 Eq H0 [] H1| .inr y=>e= .ret∧l=[(6,.b false)]∧B7 Eq H0 [] H1) (by kernel_rfl) ?_ hx ?_ hO ?_
   ·intro s20 H o hO h;clear hx;cbv;refine A8 hE h (fun _ h=>?_) fun _ h=>?_
    ·cbv;refine B9 hE eAo4 h fun x22 h=>?_;cbv;refine C4 hE hO fun b23 H hO=>?_;cbv;refine A9 hE hO 0 rfl rfl fun H hO=>?_;cbv;refine EA hE (f:=eAo2) N4 h fun l24 t25 h=>?_;cbv;refine GS (f:=eAo2) hE N4 (by decide) (l:=[]) (m:=l24) (.lst0) (.refl _) h fun l26 h=>?_;cbv;refine EA hE (f:=eAo2) N4 h fun l27 t28 h=>?_;cbv;refine GS (f:=eAo2) hE N4 (by decide) (l:=l26) (m:=l27) (.refl _) (.refl _) h fun l29 h=>?_;cbv;refine B4 hE hO 0 rfl ?_;cbv;refine A3 hE h (c19 N x22) (.refl _) fun r30 h=>?_;cbv;refine A8 hE h (fun _ h=>?_) fun _ h=>?_
     ·cbv;cases h;exact⟨_,rfl,.e2 (.e4 .z),rfl,hO.tail⟩
     cbv;refine A3 hE h (c20 N r30.1) (.refl _) fun r31 h=>?_;cbv;refine B4 hE hO 0 rfl ?_;cbv;refine A8 hE h (fun _ h=>?_) fun _ h=>?_
     ·cbv;cases h;exact⟨_,rfl,.e2 (.e4 .z),rfl,hO.tail⟩
     cbv;refine A3 hE h (c21 N N r30.1 x22) (.refl _) fun r32 h=>?_;cbv;refine A8 hE h (fun _ h=>?_) fun _ h=>?_
     ·cbv;cases h;exact⟨_,rfl,.e2 (.e4 .z),rfl,hO.tail⟩
     cbv;refine B4 hE hO 0 rfl ?_;cbv;refine A3 hE h (c18 N x22 aF) (.refl _) fun r33 h=>?_;cbv;refine D9 hE ?_;cbv;refine A8 hE h (fun _ h=>?_) fun _ h=>?_
     ·cbv;cases h;exact⟨_,_,rfl,⟨rfl,rfl,hO.tail⟩,.b rfl (.z),rfl⟩
     cbv;refine A3 hE (g:=fun r34=>.bool r34) h (fun r34 hx=>c22 N r33.1 (.func (.func 23) [] [.eref [sr eAo5 r3.1] 0]) (fun y1=>E5 N y1 r3.1) (fun y1 r hx=>B2.value (F:=[]) (C:=[.eref [sr eAo5 r3.1] 0]) (c23 N y1 r3.1 r hx)) r34 hx) (.refl _) fun r34 h=>?_;cbv;refine A8 hE h (fun _ h=>?_) fun _ h=>?_
     ·cbv;cases h;exact⟨_,_,rfl,⟨rfl,rfl,hO.tail⟩,.b rfl (.z),rfl⟩
     cbv;cases h;exact⟨_,rfl,.e2 (.e4 .z),rfl,hO.tail⟩
    cbv;cases h;exact⟨_,_,rfl,⟨rfl,rfl,hO⟩,.z,rfl⟩
   ·exact .e2 (.e4 .z)
   clear hx
   rcases s21 with y35|y37
   ·rintro e l H ⟨rfl,rfl,hO⟩;cbv;refine A3 hE h (c13 N) (.refl _) fun r36 h=>?_;cbv;cases h;exact hK hO (.refl _)
   rintro e l H ⟨rfl,rfl,hO⟩;cbv;cases h;exact hK hO (.refl _)
  rintro e l H ⟨rfl,rfl,hO⟩;cbv;cases h;exact hK hO (.refl _)
 cbv;refine Xw cf4 hE N5 (by kernel_rfl) ?_;cbv;refine A8 hE h (fun _ h=>?_) fun _ h=>?_
 ·cbv;refine A3 hE h (c13 N) (.refl _) fun r39 h=>?_;cbv;cases h;exact hK hO (.refl _)
 cbv;refine D9 hE ?_;cbv;obtain⟨s41,hx,h⟩:=bind_some h;refine E9 cf4 hE N5 (fun s40=>[(1,.v (sr eAo3 aF)),(3,.v (.eref (C0 aA) 0)),(7,.v (.eref [sr eAo5 r3.1] 0)),(107,.v (sr eAo2 aA.cP)),fi 108 (Ar.len aA.cP),fi 109 s40]) (fun s40 H1=>B7 Eq H0 [] H1) (fun x e l H1=>match(generalizing:=false) x with| .inl y=>e= .exit 2∧l=[]∧B7 Eq H0 [] H1| .inr y=>e= .ret∧l=[(6,.b false)]∧B7 Eq H0 [] H1) (by kernel_rfl) ?_ hx ?_ hO ?_
 ·intro s40 H o hO h;clear hx;cbv;refine A8 hE h (fun _ h=>?_) fun _ h=>?_
  ·cbv;refine B9 hE eAo4 h fun x42 h=>?_;cbv;refine C4 hE hO fun b43 H hO=>?_;cbv;refine A9 hE hO 0 rfl rfl fun H hO=>?_;cbv;refine EA hE (f:=eAo2) N4 h fun l44 t45 h=>?_;cbv;refine GS (f:=eAo2) hE N4 (by decide) (l:=[]) (m:=l44) (.lst0) (.refl _) h fun l46 h=>?_;cbv;refine EA hE (f:=eAo2) N4 h fun l47 t48 h=>?_;cbv;refine GS (f:=eAo2) hE N4 (by decide) (l:=l46) (m:=l47) (.refl _) (.refl _) h fun l49 h=>?_;cbv;refine B4 hE hO 0 rfl ?_;cbv;refine A3 hE h (c19 N x42) (.refl _) fun r50 h=>?_;cbv;refine A8 hE h (fun _ h=>?_) fun _ h=>?_
   ·cbv;cases h;exact⟨_,rfl,.e2 (.e4 .z),rfl,hO.tail⟩
   cbv;refine A3 hE h (c20 N r50.1) (.refl _) fun r51 h=>?_;cbv;refine B4 hE hO 0 rfl ?_;cbv;refine A8 hE h (fun _ h=>?_) fun _ h=>?_
   ·cbv;cases h;exact⟨_,rfl,.e2 (.e4 .z),rfl,hO.tail⟩
   cbv;refine A3 hE h (c21 N N r50.1 x42) (.refl _) fun r52 h=>?_;cbv;refine A8 hE h (fun _ h=>?_) fun _ h=>?_
   ·cbv;cases h;exact⟨_,rfl,.e2 (.e4 .z),rfl,hO.tail⟩
   cbv;refine B4 hE hO 0 rfl ?_;cbv;refine A3 hE h (c18 N x42 aF) (.refl _) fun r53 h=>?_;cbv;refine D9 hE ?_;cbv;refine A8 hE h (fun _ h=>?_) fun _ h=>?_
   ·cbv;cases h;exact⟨_,_,rfl,⟨rfl,rfl,hO.tail⟩,.b rfl (.z),rfl⟩
   cbv;refine A3 hE (g:=fun r54=>.bool r54) h (fun r54 hx=>c22 N r53.1 (.func (.func 23) [] [.eref [sr eAo5 r3.1] 0]) (fun y1=>E5 N y1 r3.1) (fun y1 r hx=>B2.value (F:=[]) (C:=[.eref [sr eAo5 r3.1] 0]) (c23 N y1 r3.1 r hx)) r54 hx) (.refl _) fun r54 h=>?_;cbv;refine A8 hE h (fun _ h=>?_) fun _ h=>?_
   ·cbv;cases h;exact⟨_,_,rfl,⟨rfl,rfl,hO.tail⟩,.b rfl (.z),rfl⟩
   cbv;cases h;exact⟨_,rfl,.e2 (.e4 .z),rfl,hO.tail⟩
  cbv;cases h;exact⟨_,_,rfl,⟨rfl,rfl,hO⟩,.z,rfl⟩
 ·exact .e2 (.e4 .z)
 clear hx
 rcases s41 with y55|y57
 ·rintro e l H ⟨rfl,rfl,hO⟩;cbv;refine A3 hE h (c13 N) (.refl _) fun r56 h=>?_;cbv;cases h;exact hK hO (.refl _)
 rintro e l H ⟨rfl,rfl,hO⟩;cbv;cases h;exact hK hO (.refl _)
end Go.Ab
namespace Go.Ab
open Go.RowKit Go.ChangeShapes Go.WideShapes
variable [I3]
def g0 (W:World):Gh:=⟨fun _=>none,fun _=>⟨0,0,0⟩,fun _=>none,fun b o=>∃v,W.cell? ⟨b,o,none⟩=some v,0,W.heap.size⟩
theorem rl0 {W:World}(hg:∀n,VR (g0 W) W (.pointer (some ⟨n,0,none⟩)) (I3.gl n)):Rl (g0 W) (fun _=>none) W:=
 ⟨fun id b h=>(by cases h),fun id id' b h=>(by simp[Gh.at]at h),fun b o h=>h,fun id _=>⟨rfl,rfl,rfl⟩,Nat.le_refl _,hg⟩
def Dr (g:Gh)(w:World)(cs:List Value)(xs:List V):Prop:=
 cs.length=xs.length∧∀i,i<xs.length→(cs.getD i undef).oneCell'=true∧VR g w (cs.getD i undef) (xs.getD i .bad)
theorem Dr.nil (g:Gh)(w:World):Dr g w [] []:=⟨rfl,fun i hi=>by simp at hi⟩
theorem Dr.one {g:Gh}{w:World}{v:Value}{x:V}(h1:v.oneCell'=true)(h:VR g w v x):Dr g w [v] [x]:=by
 refine⟨rfl,fun i hi=>?_⟩
 have:i=0:=by simpa using hi
 subst this;exact⟨h1,h⟩
theorem Dr.append {g:Gh} {w:World} {cs ds:List Value} {xs ys:List V} (h:Dr g w cs xs) (k:Dr g w ds ys):Dr g w (cs++ds) (xs++ys):=by
 refine⟨by simp[h.1,k.1],fun i hi=>?_⟩;have hl:=h.1
 simp only[List.length_append]at hi
 by_cases hx:i<xs.length
 ·have e1:(cs++ds).getD i undef=cs.getD i undef:=by simp[List.getD,List.getElem?_append_left (show i<cs.length by omega)]
  have e2:(xs++ys).getD i .bad=xs.getD i .bad:=by simp[List.getD,List.getElem?_append_left hx]
  rw[e1,e2];exact h.2 i hx
 have e1:(cs++ds).getD i undef=ds.getD (i - xs.length) undef:=by simp[List.getD,List.getElem?_append_right (show cs.length≤i by omega),hl]
 have e2:(xs++ys).getD i .bad=ys.getD (i - xs.length) .bad:=by simp[List.getD,List.getElem?_append_right (show xs.length≤i by omega)]
 rw[e1,e2];exact k.2 _ (by omega)
theorem Dr.join {g:Gh}{w:World}{cs:List Value}{xs ys:List V}{a n m:Nat}(h:Dr g w ((cs.drop a).take n) xs)(k:Dr g w ((cs.drop (a+n)).take m) ys):Dr g w ((cs.drop a).take (n+m)) (xs++ys):=by
 have:=h.append k
 rwa[show(cs.drop (a+n))=(cs.drop a).drop n by rw[List.drop_drop],←List.take_add]at this
theorem Dr.agg {g:Gh} {w:World} {cs:Array Value} {xs:List V} (h:Dr g w cs.toList xs):VR g w (.agg cs) (.agg xs):=by
 refine .agg (by simpa using h.1) (fun i hi=>?_) fun i hi=>?_
 ·have:=(h.2 i hi).1
  simpa[List.getD,Array.getD_eq_getD_getElem?]using this
 have:=(h.2 i hi).2
 simpa[List.getD,Array.getD_eq_getD_getElem?]using this
section
variable {H α:Type}{enc:TypeId×Value→H}{P:Program}{W:World}{base:Nat}{spare:Nat→Bool}{held:Bool}{t e:TypeId}{n:Nat}
def Opens (enc:TypeId×Value→H)(P:Program)(W:World)(base:Nat)(spare:Nat→Bool)(held:Bool)(t:TypeId)(f:α→V)(R:α→DataW H→Prop)(n:Nat):Prop:=
 ∀cs x,DataW.trod enc P W base spare held n t cs=some x→∃a,Dr (g0 W) W cs (f a).cells∧R a x.1
theorem JQ {k:IntKind}(ht:P.underlying t=some (.int k)):Opens enc P W base spare held t (V.int k) (fun a d=>d= .lit (.int k a)) n:=by
 intro cs x h;obtain⟨a,rfl,rfl,_⟩:=DataW.trod_int ht h;exact⟨a,.one rfl (.int _ _),rfl⟩
theorem FH (ht:P.underlying t=some .bool):Opens enc P W base spare held t V.bool (fun a d=>d= .lit (.bool a)) n:=by
 intro cs x h;obtain⟨a,rfl,rfl⟩:=DataW.trod_bool ht h;exact⟨a,.one rfl (.bool _),rfl⟩
theorem VD (ht:P.underlying t=some .string):Opens enc P W base spare held t V.str (fun a d=>d= .lit (.string a.data.toList)∧a.size≤maxLen) n:=by
 intro cs x h;obtain⟨a,rfl,rfl,hl⟩:=DataW.trod_string ht h;exact⟨a,.one rfl (.str _),rfl,hl⟩
def RL (R:α→DataW H→Prop)(l:List α)(ds:List (DataW H)):Prop:=l.length=ds.length∧∀(i:Nat) a d,l[i]? =some a→ds[i]? =some d→R a d
def RS (R:α→DataW H→Prop)(l:List α)(d:DataW H):Prop:=l.length≤maxLen∧((d= .nil∧l=[])∨∃es sp,d= .slice es sp∧RL R l es)
theorem Ez {f:α→V} {R:α→DataW H→Prop} (ht:P.underlying t=some (.slice e)) (hc:0<P.cellsOf e) (he:Opens enc P W base spare held e f R n):
 Opens enc P W base spare held t (fun l:List α=>.sl (l.map f) .ro) (RS R) (n+1):=by
 intro cs x h
 rcases DataW.trod_slice ht h with⟨rfl,rfl⟩|⟨a,len,cap,elems,rest,n',hn,rfl,rfl,hb,hl,hm,hlen,hel,hsp,hns⟩
 ·exact⟨[],.one rfl (.sl0 rfl),Nat.zero_le _,.inl ⟨rfl,rfl⟩⟩
 have hn':n'=n:=by omega
 subst hn'
 rcases Nat.eq_zero_or_pos len with h0|h0
 ·subst h0;have:elems=[]:=List.length_eq_zero_iff.1 hlen;subst this;exact⟨[],.one rfl (.sle (.inl rfl)),Nat.zero_le _,.inr ⟨_,_,rfl,rfl,fun i a d hi=>by simp at hi⟩⟩
 have one:∀i,i<len→∃cs' y b,W.cells? base (a.add (i*P.cellsOf e)) (P.cellsOf e)=some cs'∧elems[i]? =some y∧Dr (g0 W) W cs' (f b).cells∧R b y.1:=by
  intro i hi;have h1:=hel i hi
  have h2:elems[i]? =some (elems[i]'(by omega)):=by simp[hlen,hi]
  rw[h2]at h1
  obtain⟨cs',hcs,hy⟩:=Option.bind_eq_some_iff.1 h1;obtain⟨b,hr,hR⟩:=he cs' _ hy;exact⟨cs',_,b,hcs,h2,hr,hR⟩
 obtain⟨_,_,b0,_⟩:=one 0 h0
 haveI:Inhabited α:=⟨b0⟩
 obtain⟨A,hA⟩:=Deep.choose_lt (α:=α) (p:=fun i b=>∃cs' y,W.cells? base (a.add (i*P.cellsOf e)) (P.cellsOf e)=some cs'∧elems[i]? =some y∧Dr (g0 W) W cs' (f b).cells∧R b y.1)
  (fun i hi=>let⟨cs',y,b,h1,h2,h3,h4⟩:=one i hi;⟨b,cs',y,h1,h2,h3,h4⟩)
 have hspot:a.spot=none:=by
  obtain⟨cs',y,h1,_,_,_⟩:=hA 0 h0;obtain⟨_,hcl,hcell⟩:=World.cells?_some h1;have h2:=hcell 0 hc
  have e0:(a.add (0*P.cellsOf e)).add 0=a:=by simp[Addr.add]
  rw[e0]at h2
  have h3:cs'[0]? =some (cs'[0]'(by omega)):=by simp[hcl,hc]
  rw[h3]at h2
  unfold World.cell? at h2
  split at h2
  ·split at h2
   ·cases h2
   rename_i hs;simpa using hs
  cases h2
 obtain⟨b,o,s⟩:=a
 simp only at hspot
 subst hspot
 let l:=(List.range len).map A
 have hll:l.length=len:=by simp[l]
 have hg:∀i,i<len→(l.map f).getD i .bad=f (A i):=fun i hi=>by simp[l,List.getD,hi]
 have cell:∀i j,i<len→j<P.cellsOf e→∃v,W.cell? ⟨b,o+i*P.cellsOf e+j,none⟩=some v∧v.oneCell'=true∧VR (g0 W) W v ((f (A i)).cells.getD j .bad):=by
  intro i j hi hj;obtain⟨cs',y,h1,_,hr,_⟩:=hA i hi;obtain⟨_,hcl,hcell⟩:=World.cells?_some h1;have h2:=hcell j hj
  rw[W0,W0]at h2
  have h3:cs'[j]? =some (cs'.getD j undef):=by simp[List.getD,hcl,hj]
  rw[h3]at h2
  have:=hr.2 j (by rw[←hr.1,hcl];exact hj);exact⟨_,h2,this.1,this.2⟩
 refine⟨l,.one rfl ?_,by omega,.inr ⟨_,_,rfl,by simp[hll,hlen],fun i a' d hi hd=>?_⟩⟩
 ·have hz:∀i,i<len→((l.map f).getD i .bad).cells.length=P.cellsOf e:=fun i hi=>by
   obtain⟨cs',y,h1,_,hr,_⟩:=hA i hi;obtain⟨_,hcl,_⟩:=World.cells?_some h1;rw[hg i hi,←hr.1,hcl]
  refine .sl (sz:=P.cellsOf e) (fun i j=>(W.cell? ⟨b,o+i*P.cellsOf e+j,none⟩).getD undef) (by simp[hll]) hl hz (fun i j hi hj=>?_) (fun i j hi hj=>?_) (fun i j hi hj=>?_) (fun i j hi hj=>?_) trivial
  ·obtain⟨v,h1,_⟩:=cell i j hi hj;exact⟨v,h1⟩
  ·obtain⟨v,h1,_⟩:=cell i j hi hj;rw[h1];rfl
  ·obtain⟨v,h1,h2,_⟩:=cell i j hi hj;rw[h1];exact h2
  obtain⟨v,h1,h2,h3⟩:=cell i j hi hj;rw[h1,hg i hi];exact h3
 have hi':i<len:=by
  rcases Nat.lt_or_ge i l.length with h|h
  ·omega
  rw[List.getElem?_eq_none h]at hi;cases hi
 obtain⟨cs',y,h1,h2,h3,h4⟩:=hA i hi'
 have e1:a'=A i:=by simp[l,hi']at hi;exact hi.symm
 have e2:d=y.1:=by simp[h2]at hd;exact hd.symm
 rw[e1,e2];exact h4
theorem Th {fs:Array Field} {xs:List (DataW H×List MemPlace)} {cs:List Value} {n:Nat} (hl:xs.length=fs.size)
 (hf:∀(i:Nat) (f:Field),fs[i]? =some f→DataW.trod enc P W base spare held n f.type ((cs.drop f.offset).take (P.cellsOf f.type))=xs[i]?) (i:Nat) {f:Field} (h:fs[i]? =some f):
 ∃y,xs[i]? =some y∧DataW.trod enc P W base spare held n f.type ((cs.drop f.offset).take (P.cellsOf f.type))=some y:=by
 have hi:i<fs.size:=by
  rcases Nat.lt_or_ge i fs.size with h'|h'
  ·exact h'
  rw[Array.getElem?_eq_none h']at h;cases h
 have h1:xs[i]? =some (xs[i]'(by omega)):=by simp[hl,hi]
 exact⟨_,h1,by rw[hf i f h,h1]⟩
end
end Go.Ab
namespace Go.Ab
noncomputable instance arInst :Ar where
 cmp:=Ka
 cmp_eq:=fun _ _ _=>rfl
 ar:=arI
 ar_eq:=fun _ _ _ _=>rfl
 sh:=shI
 sh_eq:=fun _ _ _ _=>rfl
 neg:=fun k n=>k.wrap (0 - n)
 neg_eq:=fun _ _=>rfl
 wr:=fun k n=>k.wrap n
 wr_eq:=fun _ _=>rfl
 scmp:=Ah4
 scmp_eq:=fun _ _ _=>rfl
 cat:=fun a b=>a++b
 cat_eq:=fun _ _=>rfl
 slen:=fun s=>s.size
 slen_eq:=fun _=>rfl
 sat:=fun s i=>match s[i.toNat]? with|some b=>(b.toNat:Int)|none=>0
 sat_eq:=fun _ _=>rfl
 beq:=fun a b=>a==b
 beq_eq:=fun _ _=>rfl
 nt:=fun a=> !a
 nt_eq:=fun _=>rfl
 an:=fun a b=>a&&b
 an_eq:=fun _ _=>rfl
 or:=fun a b=>a||b
 or_eq:=fun _ _=>rfl
 pk:=fun c a b=>if c then a else b
 pk_eq:=fun _ _ _=>rfl
 mx:=fun a b=>if a<b then b else a
 mx_eq:=fun _ _=>rfl
 mn:=fun a b=>if b<a then b else a
 mn_eq:=fun _ _=>rfl
 ofs:=fun a b=>a+b
 ofs_eq:=fun _ _=>rfl
 ofN:=fun n=>n
 ofN_eq:=fun _=>rfl
 len:=fun l=>l.length
 len_eq:=fun _=>rfl
 lst:=fun f l=>l.map f
 lst_eq:=fun _ _=>rfl
end Go.Ab
namespace Go.Ab
theorem C1 (a b:Int):Ar.cmp .lss a b=decide (a<b):=rfl
theorem CU (a b:Int):Ar.cmp .leq a b=decide (a≤b):=rfl
theorem Bg (a b:Int):Ar.cmp .gtr a b=decide (b<a):=rfl
theorem N6 (a b:Int):Ar.cmp .geq a b=decide (b≤a):=rfl
theorem C2 (a b:Int):Ar.cmp .eql a b=decide (a=b):=rfl
theorem F6 (a b:Int):Ar.cmp .neq a b= !decide (a=b):=rfl
theorem T3 (a:Bool):Ar.nt a= !a:=rfl
theorem M9 (a b:Bool):Ar.an a b=(a&&b):=rfl
theorem K1 (a b:Bool):Ar.or a b=(a||b):=rfl
theorem B3 {α:Type}(l:List α):Ar.len l=(l.length:Int):=rfl
theorem GT (a b:Int):Ar.mx a b=if a<b then b else a:=rfl
theorem Qi (s:ByteArray):Ar.slen s=(s.size:Int):=rfl
theorem CW {n:Int} (h0: -9223372036854775808≤n) (h1:n<9223372036854775808):IntKind.wrap .i64 n=n:=by
 have e:IntKind.wrap .i64 n=(if n % 18446744073709551616≥9223372036854775808 then n % 18446744073709551616 - 18446744073709551616 else n % 18446744073709551616):=by
  unfold IntKind.wrap;simp[IntKind.bits,IntKind.signed]
 rw[e]
 split<;>omega
theorem C3 {a b:Int}(h0: -9223372036854775808≤a+b)(h1:a+b<9223372036854775808):Ar.ar .add .i64 a b=a+b:=CW h0 h1
theorem Ra {S σ R α:Type} (l:List α) (hl:l.length<1000000000000) (step:S→Option (S ⊕ R)) (mk:σ→Int→S) (body:σ→α→Option (σ ⊕ R)) (fin:σ→R)
 (hstep:∀s (i:Nat) x,l[i]? =some x→step (mk s i)=(body s x).bind fun o=>match o with| .inl s'=>some (.inl (mk s' (i+1)))| .inr r=>some (.inr r))
 (hend:∀s,step (mk s l.length)=some (.inr (fin s))):
 ∀(k:Nat) (i:Nat) (s:σ) (N:Nat),i+k=l.length→k<N→loopN step N (mk s i)=(H6 body (l.drop i) s).bind fun o=>match o with| .inl s=>some (fin s)| .inr r=>some r:=by
 intro k
 induction k with
 |zero=>
  intro i s N hi hN;obtain⟨N,rfl⟩:∃M,N=M+1:=⟨N - 1,by omega⟩;have e:l.drop i=[]:=List.drop_eq_nil_of_le (by omega)
  have ei:((i:Nat):Int)=l.length:=by omega
  rw[e,ei];simp only[loopN,hend,H6,Option.bind_some]
 | succ k ih=>
  intro i s N hi hN;obtain⟨N,rfl⟩:∃M,N=M+1:=⟨N - 1,by omega⟩
  have hlt:i<l.length:=by omega
  have hx:l[i]? =some l[i]:=by simp[hlt]
  have e:l.drop i=l[i]::l.drop (i+1):=List.drop_eq_getElem_cons hlt;rw[e];simp only[loopN,hstep s i _ hx,H6]
  cases hb:body s l[i]with
  |none=>rfl
  | some o=>
   cases o with
   |inl s'=>
    simp only[Option.bind_some];have:=ih (i+1) s' N (by omega) (by omega);rw[show((i:Int)+1)=((i+1:Nat):Int) by omega];exact this
   |inr r=>rfl
theorem D6 {α:Type}{l:List α}{i:Nat}:B8 l (i:Int)=l[i]? :=by simp[B8]
theorem Pa {β S σ R α:Type} (l:List α) (step:S→Option (List β×(S ⊕ R))) (mk:σ→Int→S) (body:σ→α→Option (List β×(σ ⊕ R))) (fin:σ→R)
 (hstep:∀s (i:Nat) x,l[i]? =some x→step (mk s i)=(body s x).bind fun o=>match o with|(w,.inl s')=>some (w,.inl (mk s' (i+1)))|(w,.inr r)=>some (w,.inr r))
 (hend:∀s,step (mk s l.length)=some ([],.inr (fin s))):
 ∀(k:Nat) (i:Nat) (s:σ) (N:Nat),i+k=l.length→k<N→V8 step N (mk s i)=(Bl body (l.drop i) s).bind fun o=>match o with|(w,.inl s)=>some (w,fin s)|(w,.inr r)=>some (w,r):=by
 intro k
 induction k with
 |zero=>
  intro i s N hi hN;obtain⟨N,rfl⟩:∃M,N=M+1:=⟨N - 1,by omega⟩;have e:l.drop i=[]:=List.drop_eq_nil_of_le (by omega)
  have ei:((i:Nat):Int)=l.length:=by omega
  rw[e,ei];simp only[V8,hend,Bl,Option.bind_some]
 | succ k ih=>
  intro i s N hi hN;obtain⟨N,rfl⟩:∃M,N=M+1:=⟨N - 1,by omega⟩
  have hlt:i<l.length:=by omega
  have hx:l[i]? =some l[i]:=by simp[hlt]
  have e:l.drop i=l[i]::l.drop (i+1):=List.drop_eq_getElem_cons hlt;rw[e];simp only[V8,hstep s i _ hx,Bl]
  cases hb:body s l[i]with
  |none=>rfl
  | some o=>
   obtain⟨w,o⟩:=o
   cases o with
   | inl s'=>
    simp only[Option.bind_some];have:=ih (i+1) s' N (by omega) (by omega);rw[show((i:Int)+1)=((i+1:Nat):Int) by omega,this]
    cases hr:Bl body (l.drop (i+1)) s' with
    |none=>rfl
    |some q=>
     obtain⟨w',o'⟩:=q;cases o'<;>rfl
   |inr r=>rfl
theorem I5 {S σ R α:Type} (l:List α) (hl:l.length<1000000000000) {step:S→Option (S ⊕ R)} (mk:σ→Int→S) (body:σ→α→Option (σ ⊕ R)) (fin:σ→R) (s:σ) {N:Nat} (hN:l.length<N)
 (hstep:∀s (i:Nat) x,l[i]? =some x→(i:Int)<l.length→step (mk s i)=(body s x).bind fun o=>match o with| .inl s'=>some (.inl (mk s' (i+1)))| .inr r=>some (.inr r))
 (hend:∀s,step (mk s l.length)=some (.inr (fin s))):loopN step N (mk s 0)=(H6 body l s).bind fun o=>match o with| .inl s=>some (fin s)| .inr r=>some r:=by
 have:=Ra l hl step mk body fin (fun s i x h=>hstep s i x h (by
  rcases Nat.lt_or_ge i l.length with h'|h'
  ·omega
  rw[List.getElem?_eq_none h']at h;cases h)) hend l.length 0 s N (by omega) hN
 simpa using this
theorem SU {β S σ R α:Type} (l:List α) {step:S→Option (List β×(S ⊕ R))} (mk:σ→Int→S) (body:σ→α→Option (List β×(σ ⊕ R))) (fin:σ→R) (s:σ) {N:Nat} (hN:l.length<N)
 (hstep:∀s (i:Nat) x,l[i]? =some x→(i:Int)<l.length→step (mk s i)=(body s x).bind fun o=>match o with|(w,.inl s')=>some (w,.inl (mk s' (i+1)))|(w,.inr r)=>some (w,.inr r))
 (hend:∀s,step (mk s l.length)=some ([],.inr (fin s))):V8 step N (mk s 0)=(Bl body l s).bind fun o=>match o with|(w,.inl s)=>some (w,fin s)|(w,.inr r)=>some (w,r):=by
 have:=Pa l step mk body fin (fun s i x h=>hstep s i x h (by
  rcases Nat.lt_or_ge i l.length with h'|h'
  ·omega
  rw[List.getElem?_eq_none h']at h;cases h)) hend l.length 0 s N (by omega) hN
 simpa using this
theorem Z1 {α σ R:Type} {step:σ→α→Option (σ ⊕ R)} (I:List α→σ→Prop) (hs:∀x r s,I (x::r) s→∃s',step s x=some (.inl s')∧I r s'):∀{l:List α} {s:σ},I l s→∃s',H6 step l s=some (.inl s')∧I [] s'
 |[],s,h=>⟨s,rfl,h⟩
 |x::l,s,h=>by
  obtain⟨s',h1,h2⟩:=hs x l s h;obtain⟨s2,h3,h4⟩:=Z1 I hs h2;exact⟨s2,by simp only[H6,h1,h3],h4⟩
theorem LO {α β σ R:Type} {step:σ→α→Option (List β×(σ ⊕ R))} (I:List α→List β→σ→Prop) (hs:∀x r w s,I (x::r) w s→∃w' s',step s x=some (w',.inl s')∧I r (w++w') s'):
 ∀{l:List α} {w:List β} {s:σ},I l w s→∃w' s',Bl step l s=some (w',.inl s')∧I [] (w++w') s'
 |[],w,s,h=>⟨[],s,rfl,by simpa using h⟩
 |x::l,w,s,h=>by
  obtain⟨w1,s1,h1,h2⟩:=hs x l w s h;obtain⟨w2,s2,h3,h4⟩:=LO I hs h2;exact⟨w1++w2,s2,by simp only[Bl,h1,h3],by rw[←List.append_assoc];exact h4⟩
def U6 {α:Type}(f:α→Int):List α→Int
 |[]=>0
 |x::l=>if f x=0 then U6 f l else f x
theorem BX {α:Type} {f:α→Int}:∀{l:List α},U6 f l=0↔∀x∈l,f x=0
 |[]=>by simp[U6]
 |x::l=>by
  unfold U6
  split
  ·rename_i h;rw[BX];simp[h]
  rename_i h;simp[h]
theorem KH {α:Type} {f:α→Int}:∀{l m:List α},U6 f (l++m)=if U6 f l=0 then U6 f m else U6 f l
 |[],m=>by simp[U6]
 |x::l,m=>by
  simp only[List.cons_append,U6]
  split
  ·rw[KH]
  rename_i h;simp[h]
theorem ND {α:Type} {F:α→Option Int} {f:α→Int}:∀{l:List α},(∀x∈l,F x=some (f x))→
 H6 (fun(_:Unit) x=>(F x).bind fun r=>if Ar.cmp .neq r 0=true then some (Sum.inr r)else some (.inl ())) l ()=some (if U6 f l=0 then .inl ()else .inr (U6 f l))
 |[],_=>rfl
 | x::l,h=>by
  have h1:=ND (l:=l) fun y hy=>h y (by simp[hy]);unfold H6;simp only[h x (by simp),Option.bind_some,F6,U6]
  by_cases hz:f x=0
  ·simp only[hz,decide_true,Bool.not_true,Bool.false_eq_true,if_false,if_true]
   simpa only[F6]using h1
  simp[hz]
noncomputable def Au {α:Type}(F:α→Option Int)(_:Unit)(a:α):Option (Unit ⊕ (Unit ⊕ Int)):=(F a).bind fun r=>if Ar.cmp .neq r 0=true then some (.inr (.inr r))else some (.inl ())
theorem Y0 {α:Type} {F:α→Option Int} {f:α→Int}:∀{l:List α},(∀x∈l,F x=some (f x))→H6 (Au F) l ()=some (if U6 f l=0 then .inl ()else .inr (.inr (U6 f l)))
 |[],_=>rfl
 |x::l,h=>by
  have h1:=Y0 (l:=l) fun y hy=>h y (by simp[hy]);unfold H6 Au;simp only[h x (by simp),Option.bind_some,F6,U6]
  by_cases hz:f x=0
  ·simp only[hz,decide_true,Bool.not_true,Bool.false_eq_true,if_false,if_true];exact h1
  simp[hz]
end Go.Ab
namespace Go.Ab
open Go.RowKit Go.ChangeShapes Go.WideShapes
variable [I3]
section
variable {H α:Type}{enc:TypeId×Value→H}{P:Program}{W:World}{base:Nat}{spare:Nat→Bool}{held:Bool}{t e:TypeId}{n:Nat}
theorem NA {cs:List Value} {sz:Nat} {f:α→V}:∀(l:List α) (o:Nat),(∀(i:Nat) a,l[i]? =some a→Dr (g0 W) W ((cs.drop (o+i*sz)).take sz) (f a).cells)→Dr (g0 W) W ((cs.drop o).take (l.length*sz)) (l.flatMap fun a=>(f a).cells)
 |[],o,_=>by simp;exact .nil _ _
 | a::l,o,h=>by
  have h0:=h 0 a rfl
  rw[Nat.zero_mul,Nat.add_zero]at h0
  have h1:=NA l (o+sz) fun i b hi=>by
   have:=h (i+1) b (by simpa using hi)
   rwa[show o+(i+1)*sz=o+sz+i*sz by rw[Nat.add_mul];omega]at this
  have:=h0.join h1;rw[List.length_cons,List.flatMap_cons,show(l.length+1)*sz=sz+l.length*sz by rw[Nat.add_mul];omega];exact this
theorem QR {f:α→V} {R:α→DataW H→Prop} {m:Nat} (ht:P.underlying t=some (.array m e)) (hct:P.cellsOf t=m*P.cellsOf e) (hm:0<m) (he:∀n,Opens enc P W base spare held e f R n) {cs:List Value} {x:DataW H×List MemPlace}
 (h:DataW.trod enc P W base spare held n t cs=some x):∃l:List α,Dr (g0 W) W cs (l.flatMap fun a=>(f a).cells)∧∃ds,x.1= .agg ds∧RL R l ds:=by
 cases n with
 |zero=>simp[DataW.trod]at h
 | succ n=>
  simp only[DataW.trod,ht]at h
  split at h
  ·rename_i hl;obtain⟨xs,hmm,rfl⟩:=Option.map_eq_some_iff.1 h
   have hxl:xs.length=m:=by simpa using mapM_some_length hmm
   have one:∀i,i<m→∃b,Dr (g0 W) W ((cs.drop (i*P.cellsOf e)).take (P.cellsOf e)) (f b).cells∧∀y,xs[i]? =some y→R b y.1:=by
    intro i hi;have h1:=mapM_some_get hmm i i (by simp[hi])
    have h2:xs[i]? =some (xs[i]'(by omega)):=by simp[hxl,hi]
    rw[h2]at h1
    obtain⟨b,hr,hR⟩:=he n _ _ h1;exact⟨b,hr,fun y hy=>by rw[h2]at hy;cases hy;exact hR⟩
   obtain⟨b0,_⟩:=one 0 hm
   haveI:Inhabited α:=⟨b0⟩
   obtain⟨A,hA⟩:=Deep.choose_lt one
   have hat:∀(i:Nat) a,((List.range m).map A)[i]? =some a→i<m∧a=A i:=fun i a hi=>by
    rcases Nat.lt_or_ge i m with hlt|hge
    ·simp[hlt]at hi;exact⟨hlt,hi.symm⟩
    rw[List.getElem?_eq_none (by simpa using hge)]at hi;cases hi
   refine⟨(List.range m).map A,?_,_,rfl,by simp[hxl],fun i a d hi hd=>?_⟩
   ·have:=NA (cs:=cs) (sz:=P.cellsOf e) (f:=f) (W:=W) ((List.range m).map A) 0 (fun i a hi=>by
     obtain⟨h1,rfl⟩:=hat i a hi
     simpa using(hA i h1).1)
    simpa[List.take_of_length_le,hl,hct]using this
   obtain⟨h1,rfl⟩:=hat i a hi
   simp only[List.getElem?_map,Option.map_eq_some_iff]at hd
   obtain⟨y,hy,rfl⟩:=hd;exact(hA i h1).2 y hy
  cases h
theorem Rk {g:Nat} {cs:Array Value} {xs:List V} {name:String} (hg:P.globalNamed name=some g) (hv:W.var? P name=some cs) (hr:Dr (g0 W) W cs.toList xs):VR (g0 W) W (.pointer (some ⟨g,0,none⟩)) (.eref xs 0):=by
 have cell:∀j,j<xs.length→W.cell? ⟨g,0+j,none⟩=some (cs.toList.getD j undef):=fun j hj=>by
  have h1:=World.var?_cell hg hv j
  have h2:j<cs.size:=by have:=hr.1;simp at this;omega
  rw[Nat.zero_add,h1];simp[List.getD,h2]
 exact .eref (g:=g0 W) (o:=0) (off:=0) (fun j=>cs.toList.getD j undef) (fun j hj=>(⟨_,cell j hj⟩:∃v,W.cell? ⟨g,0+j,none⟩=some v)) (fun j hj=>cell j hj) (fun j hj=>(hr.2 j hj).1) fun j hj=>(hr.2 j hj).2
end
end Go.Ab
namespace Go.Ab
open Go.RowKit Go.ChangeShapes Go.WideShapes
variable [I3]
section
variable {H:Type}{enc:TypeId×Value→H}{P:Program}{W:World}{base:Nat}{spare:Nat→Bool}{held:Bool}{t e:TypeId}{n:Nat}
end
end Go.Ab
namespace Go.Ab
mutual
def A4.bulk :A4→Nat
 |⟨_,args,_,_,_,v⟩=>A4.bulks args+v.Text.size+9
def A4.bulks :List A4→Nat
 |[]=>1
 |a::r=>A4.bulk a+A4.bulks r
end
mutual
def A0.bulk :A0→Nat
 |⟨_,args,_,_,_,_,c⟩=>A0.bulks args+A4.bulk c+6
def A0.bulks :List A0→Nat
 |[]=>1
 |a::r=>A0.bulk a+A0.bulks r
end
end Go.Ab
namespace Go.Ab
mutual
def A4.pre :A4→List A4
 |⟨op,args,var,field,kind,val⟩=>⟨op,args,var,field,kind,val⟩::A4.pres args
def A4.pres :List A4→List A4
 |[]=>[]
 |a::r=>A4.pre a++A4.pres r
end
mutual
def A4.dep :A4→Nat
 |⟨_,args,_,_,_,_⟩=>A4.deps args+1
def A4.deps :List A4→Nat
 |[]=>0
 |a::r=>max (A4.dep a) (A4.deps r)
end
mutual
def A0.pre :A0→List A0
 |⟨op,args,typ,var,scope,span,c⟩=>⟨op,args,typ,var,scope,span,c⟩::A0.pres args
def A0.pres :List A0→List A0
 |[]=>[]
 |a::r=>A0.pre a++A0.pres r
end
mutual
def A0.dep :A0→Nat
 |⟨_,args,_,_,_,_,_⟩=>A0.deps args+1
def A0.deps :List A0→Nat
 |[]=>0
 |a::r=>max (A0.dep a) (A0.deps r)
end
theorem A4.pre_eq (x:A4):x.pre=x::A4.pres x.cP:=by cases x;simp[A4.pre]
theorem A0.pre_eq (x:A0):x.pre=x::A0.pres x.cP:=by cases x;simp[A0.pre]
theorem A4.dep_eq (x:A4):x.dep=A4.deps x.cP+1:=by cases x;simp[A4.dep]
theorem A0.dep_eq (x:A0):x.dep=A0.deps x.cP+1:=by cases x;simp[A0.dep]
theorem A4.bulk_eq (x:A4):x.bulk=A4.bulks x.cP+x.Value.Text.size+9:=by cases x;simp[A4.bulk]
theorem A0.bulk_eq (x:A0):x.bulk=A0.bulks x.cP+x.cQ.bulk+6:=by cases x;simp[A0.bulk]
theorem Lh :∀(l:List A4),(∀a∈l,A4.bulk a≤A4.bulks l)∧l.length≤A4.bulks l
 |[]=>⟨fun a h=>by simp at h,by simp[A4.bulks]⟩
 |b::l=>by
  have h:=Lh l;have hb:=A4.bulk_eq b;simp only[A4.bulks,List.length_cons];refine⟨fun a ha=>?_,by omega⟩
  rcases List.mem_cons.1 ha with rfl|ha
  ·omega
  have:=h.1 a ha;omega
theorem Lg :∀(l:List A0),(∀a∈l,A0.bulk a≤A0.bulks l)∧l.length≤A0.bulks l
 |[]=>⟨fun a h=>by simp at h,by simp[A0.bulks]⟩
 |b::l=>by
  have h:=Lg l;have hb:=A0.bulk_eq b;simp only[A0.bulks,List.length_cons];refine⟨fun a ha=>?_,by omega⟩
  rcases List.mem_cons.1 ha with rfl|ha
  ·omega
  have:=h.1 a ha;omega
mutual
theorem SK :∀x:A4,x.pre.length≤x.bulk
 |⟨op,args,var,field,kind,val⟩=>by
  have:=Ey args;simp only[A4.pre,A4.bulk,List.length_cons];omega
theorem Ey :∀l:List A4,(A4.pres l).length≤A4.bulks l
 |[]=>by simp[A4.pres]
 |a::l=>by
  have h1:=SK a;have h2:=Ey l;simp only[A4.pres,A4.bulks,List.length_append];omega
end
mutual
theorem Ae :∀x:A0,x.pre.length≤x.bulk
 |⟨op,args,typ,var,scope,span,c⟩=>by
  have:=Ex args;simp only[A0.pre,A0.bulk,List.length_cons];omega
theorem Ex :∀l:List A0,(A0.pres l).length≤A0.bulks l
 |[]=>by simp[A0.pres]
 |a::l=>by
  have h1:=Ae a;have h2:=Ex l;simp only[A0.pres,A0.bulks,List.length_append];omega
end
mutual
theorem MH :∀x:A4,x.dep≤x.bulk
 |⟨op,args,var,field,kind,val⟩=>by
  have:=EH args;simp only[A4.dep,A4.bulk];omega
theorem EH :∀l:List A4,A4.deps l≤A4.bulks l
 |[]=>by simp[A4.deps]
 |a::l=>by
  have h1:=MH a;have h2:=EH l;simp only[A4.deps,A4.bulks];omega
end
mutual
theorem Tq :∀x:A0,x.dep≤x.bulk
 |⟨op,args,typ,var,scope,span,c⟩=>by
  have:=EG args;simp only[A0.dep,A0.bulk];omega
theorem EG :∀l:List A0,A0.deps l≤A0.bulks l
 |[]=>by simp[A0.deps]
 |a::l=>by
  have h1:=Tq a;have h2:=EG l;simp only[A0.deps,A0.bulks];omega
end
def Cut (lim:Int)(cnt:Nat)(r:Int):Prop:=1≤r∧r≤cnt∧(r=cnt∨lim<r)
section
variable {α:Type}
theorem GL {lim:Int} {f:α→Option Int} {cnt:α→Nat} {B:Nat} (hB:B≤1000000000000):∀(l:List α) (s:Int),0≤s→s+(l.map cnt).sum≤B→(∀a∈l,∃r,f a=some r∧Cut lim (cnt a) r)→
 ∃o,H6 (fun(s:Int) x=>if s≤lim then(f x).bind fun r=>some (.inl (Ar.ar .add .i64 s r))else some (.inr s)) l s=some o∧
  ∃v,v=(match o with| .inl s=>s| .inr s=>s)∧s≤v∧v≤s+(l.map cnt).sum∧(v=s+(l.map cnt).sum∨lim<v)
 |[],s,h0,_,_=>⟨.inl s,rfl,s,rfl,Int.le_refl _,by simp,.inl (by simp)⟩
 | a::l,s,h0,hb,hf=>by
  simp only[List.map_cons,List.sum_cons]at hb ⊢
  unfold H6
  by_cases hs:s≤lim
  ·obtain⟨r,h1,h2,h3,h4⟩:=hf a (by simp);simp only[if_pos hs,h1,Option.bind_some];have e:Ar.ar .add .i64 s r=s+r:=C3 (by omega) (by omega);rw[e];obtain⟨o,k1,v,k2,k3,k4,k5⟩:=GL hB l (s+r) (by omega) (by omega) fun b hb=>hf b (by simp[hb]);refine⟨o,k1,v,k2,by omega,by omega,?_⟩
   rcases k5 with k5|k5
   ·rcases h4 with h4|h4
    ·left;omega
    right;omega
   exact .inr k5
  simp only[if_neg hs];exact⟨_,rfl,s,rfl,Int.le_refl _,by omega,.inr (by omega)⟩
end
theorem Ib :∀l:List A0,(l.map fun a=>a.pre.length).sum=(A0.pres l).length
 |[]=>rfl
 |a::l=>by simp[A0.pres,Ib l]
theorem Ic :∀l:List A4,(l.map fun a=>a.pre.length).sum=(A4.pres l).length
 |[]=>rfl
 |a::l=>by simp[A4.pres,Ic l]
theorem PZ {N:Nat} (hN:40000000≤N) (lim:Int):∀(n:Nat) (x:A0),x.bulk≤n→x.bulk≤16777216→∃r,U8 N n x lim=some r∧Cut lim x.pre.length r:=by
 intro n
 induction n with
 |zero=>intro x h;have:=A0.bulk_eq x;omega
 | succ n ih=>
  intro x hx hb;have hxb:=A0.bulk_eq x;have hB:=Lg x.cP;have hpb:=Ex x.cP;unfold U8;rw[I5 x.cP (by omega) (mk:=fun(s:Int) i=>(s,i)) (body:=fun(s:Int) a=>if s≤lim then(U8 N n a lim).bind fun r=>some (.inl (Ar.ar .add .i64 s r))else some (.inr s)) (fin:=fun s=>s) (s:=1) (by omega) ?_ ?_]
  ·obtain⟨o,k1,v,k2,k3,k4,k5⟩:=GL (lim:=lim) (f:=fun a=>U8 N n a lim) (cnt:=fun a=>a.pre.length) (B:=40000000) (by omega) x.cP 1 (by omega) (by rw[Ib];omega) fun a ha=>ih a (by have:=hB.1 a ha;omega) (by have:=hB.1 a ha;omega)
   rw[Ib]at k4 k5
   have hpe:x.pre.length=(A0.pres x.cP).length+1:=by rw[A0.pre_eq];rfl
   simp only[k1,Option.bind_some];refine⟨v,?_,by omega,by omega,?_⟩
   ·cases o<;>simp_all
   rcases k5 with k5|k5
   ·left;omega
   right;exact k5
  ·intro s i a ha hi;have e:Ar.ar .add .i64 (i:Int) 1=i+1:=C3 (by omega) (by omega);simp only[C1,CU,M9,B3,hi,decide_true,Bool.true_and,D6,ha,Option.bind_some,e,decide_eq_true_eq]
   split
   ·cases U8 N n a lim<;>rfl
   rfl
  intro s;simp[C1,M9,B3]
end Go.Ab
namespace Go.Ab
theorem Cg {x a:A0}(h:a∈x.cP):a.bulk<x.bulk:=by
 have h1:=(Lg x.cP).1 a h;have h2:=A0.bulk_eq x;omega
theorem Y1 {x a:A4}(h:a∈x.cP):a.bulk<x.bulk:=by
 have h1:=(Lh x.cP).1 a h;have h2:=A4.bulk_eq x;omega
theorem Dg (x:A0):x.cP.length≤x.bulk:=by
 have h1:=(Lg x.cP).2;have h2:=A0.bulk_eq x;omega
theorem CD (x:A4):x.cP.length≤x.bulk:=by
 have h1:=(Lh x.cP).2;have h2:=A4.bulk_eq x;omega
theorem Eg (x:A0):0<x.bulk:=by have:=A0.bulk_eq x;omega
theorem BO (x:A4):0<x.bulk:=by have:=A4.bulk_eq x;omega
theorem Ry {N:Nat} (hN:40000000≤N):∀(n:Nat) (x:A0),x.bulk≤n→x.bulk≤16777216→U9 N n x=some (x.dep:Int):=by
 intro n
 induction n with
 |zero=>intro x h;have:=Eg x;omega
 | succ n ih=>
  intro x hx hb;have hl:=Dg x;unfold U9;rw[I5 x.cP (by omega) (mk:=fun(s:Int) i=>(s,i)) (body:=fun(s:Int) a=>(U9 N n a).bind fun r=>some (.inl (Ar.mx s r))) (fin:=fun s=>s) (s:=0) (by omega) ?_ ?_]
  ·obtain⟨s',k1,k2⟩:=Z1 (R:=Int) (step:=fun(s:Int) a=>(U9 N n a).bind fun r=>some (.inl (Ar.mx s r))) (fun r s=>(∀a∈r,a∈x.cP)∧0≤s∧max s (A0.deps r:Int)=(A0.deps x.cP:Int)) (fun a r s ⟨h1,h2,h3⟩=>by
    have hm:=Cg (h1 a (by simp));refine⟨_,by rw[ih a (by omega) (by omega)];rfl,fun b hb=>h1 b (by simp[hb]),?_,?_⟩
    ·rw[GT];split<;>omega
    rw[←h3,GT];simp only[A0.deps];split<;>omega) (l:=x.cP) (s:=0) ⟨fun a h=>h,Int.le_refl _,by omega⟩
   simp only[k1,Option.bind_some]
   have e:s'=(A0.deps x.cP:Int):=by have:=k2.2.2;simp only[A0.deps]at this;omega
   have hd:=EG x.cP;have hd2:=A0.bulk_eq x;rw[e,C3 (by omega) (by omega),A0.dep_eq];rfl
  ·intro s i a ha hi;have e:Ar.ar .add .i64 (i:Int) 1=i+1:=C3 (by omega) (by omega);simp only[C1,B3,hi,decide_true,if_true,D6,ha,Option.bind_some,e];cases U9 N n a<;>rfl
  intro s;simp[C1,B3]
theorem N7 {α:Type}{l m:List α}(h:l.length+m.length≤1073741824):K9 l m=some (l++m):=by simp[K9,h]
theorem Fh {N:Nat} (hN:40000000≤N):∀(n:Nat) (x:A0),x.bulk≤n→x.bulk≤16777216→J5 N n x=some x.pre:=by
 intro n
 induction n with
 |zero=>intro x h;have:=Eg x;omega
 | succ n ih=>
  intro x hx hb;have hl:=Dg x;unfold J5;rw[I5 x.cP (by omega) (mk:=fun(s:List A0) i=>(s,i)) (body:=fun(s:List A0) a=>(J5 N n a).bind fun r=>(K9 s r).bind fun l=>some (.inl l)) (fin:=fun s=>s) (s:=[x]) (by omega) ?_ ?_]
  ·have hp:=Ae x;have hpe:=A0.pre_eq x
   obtain⟨s',k1,k2⟩:=Z1 (R:=List A0) (step:=fun(s:List A0) a=>(J5 N n a).bind fun r=>(K9 s r).bind fun l=>some (.inl l)) (fun r s=>(∀a∈r,a∈x.cP)∧s++A0.pres r=x.pre) (fun a r s ⟨h1,h2⟩=>by
    have hm:=Cg (h1 a (by simp));have hlen:=congrArg List.length h2
    simp only[A0.pres,List.length_append]at hlen
    refine⟨_,by rw[ih a (by omega) (by omega)];simp only[Option.bind_some];rw[N7 (by omega)];rfl,fun b hb=>h1 b (by simp[hb]),?_⟩
    rw[←h2];simp[A0.pres]) (l:=x.cP) (s:=[x]) ⟨fun a h=>h,by rw[hpe];rfl⟩
   simp only[k1,Option.bind_some];have:=k2.2
   simp only[A0.pres,List.append_nil]at this
   rw[this]
  ·intro s i a ha hi;have e:Ar.ar .add .i64 (i:Int) 1=i+1:=C3 (by omega) (by omega);simp only[C1,B3,hi,decide_true,if_true,D6,ha,Option.bind_some,e]
   cases J5 N n a with
   |none=>rfl
   |some r=>simp only[Option.bind_some];cases K9 s r<;>rfl
  intro s;simp[C1,B3]
theorem Zb {N:Nat} (hN:40000000≤N):∀(n:Nat) (x:A0),x.bulk≤n→x.bulk≤16777216→U3 N n x=some ((x.pre.length:Int),(x.dep:Int)):=by
 intro n
 induction n with
 |zero=>intro x h;have:=Eg x;omega
 | succ n ih=>
  intro x hx hb;have hl:=Dg x;unfold U3;rw[I5 x.cP (by omega) (mk:=fun(s:Int×Int) i=>(s.1,s.2,i)) (body:=fun(s:Int×Int) a=>(U3 N n a).bind fun r=>some (.inl (Ar.ar .add .i64 s.1 r.1,Ar.mx s.2 r.2))) (fin:=fun s=>s) (s:=(1,0)) (by omega) ?_ ?_]
  ·have hp:=Ex x.cP;have hd:=EG x.cP;have hbe:=A0.bulk_eq x
   obtain⟨s',k1,k2⟩:=Z1 (R:=Int×Int) (step:=fun(s:Int×Int) a=>(U3 N n a).bind fun r=>some (.inl (Ar.ar .add .i64 s.1 r.1,Ar.mx s.2 r.2))) (fun r s=>(∀a∈r,a∈x.cP)∧0≤s.2∧0≤s.1∧s.1+(A0.pres r).length=(A0.pres x.cP).length+1∧max s.2 (A0.deps r:Int)=(A0.deps x.cP:Int)) (fun a r s ⟨h1,h2,h3,h4,h5⟩=>by
    have hm:=Cg (h1 a (by simp))
    simp only[A0.pres,List.length_append,A0.deps]at h4 h5
    refine⟨_,by rw[ih a (by omega) (by omega)];rfl,fun b hb=>h1 b (by simp[hb]),?_,?_,?_,?_⟩
    ·simp only[GT];split<;>omega
    ·rw[C3 (by omega) (by omega)];omega
    ·rw[C3 (by omega) (by omega)];omega
    rw[←h5];simp only[GT];split<;>omega) (l:=x.cP) (s:=(1,0)) ⟨fun a h=>h,by simp,by simp,by simp only;omega,by simp only;omega⟩
   simp only[k1,Option.bind_some];obtain⟨_,_,_,e1,e2⟩:=k2
   simp only[A0.pres,List.length_nil,A0.deps]at e1 e2
   have e3:s'.1=(x.pre.length:Int):=by rw[A0.pre_eq];simp only[List.length_cons];omega
   have e4:s'.2=(A0.deps x.cP:Int):=by omega
   rw[e3,e4,C3 (by omega) (by omega),A0.dep_eq];rfl
  ·intro s i a ha hi;have e:Ar.ar .add .i64 (i:Int) 1=i+1:=C3 (by omega) (by omega);simp only[C1,B3,hi,decide_true,if_true,D6,ha,Option.bind_some,e];cases U3 N n a<;>rfl
  intro s;simp[C1,B3]
theorem YT {N:Nat} (hN:40000000≤N):∀(n:Nat) (x:A0),x.bulk≤n→x.bulk≤16777216→U2 N n x=some x.pre:=by
 intro n
 induction n with
 |zero=>intro x h;have:=Eg x;omega
 | succ n ih=>
  intro x hx hb;have hl:=Dg x;unfold U2;rw[SU x.cP (mk:=fun(_:Unit) i=>i) (body:=fun(_:Unit) a=>(U2 N n a).bind fun l=>some (l,.inl ())) (fin:=fun _=>()) (s:=()) (by omega) ?_ ?_]
  ·obtain⟨w,s',k1,k2⟩:=LO (R:=Unit) (step:=fun(_:Unit) a=>(U2 N n a).bind fun l=>some (l,.inl ())) (fun r w s=>(∀a∈r,a∈x.cP)∧w++A0.pres r=A0.pres x.cP) (fun a r w s ⟨h1,h2⟩=>by
    have hm:=Cg (h1 a (by simp));refine⟨a.pre,(),by rw[ih a (by omega) (by omega)];rfl,fun b hb=>h1 b (by simp[hb]),?_⟩
    rw[←h2];simp[A0.pres]) (l:=x.cP) (w:=[]) (s:=()) ⟨fun a h=>h,by simp⟩
   have e:w=A0.pres x.cP:=by have:=k2.2;simpa[A0.pres]using this
   rw[k1,e,A0.pre_eq];simp[N9]
  ·intro s i a ha hi;have e:Ar.ar .add .i64 (i:Int) 1=i+1:=C3 (by omega) (by omega);simp only[C1,B3,hi,decide_true,if_true,D6,ha,Option.bind_some,e];cases U2 N n a<;>simp[N9]
  intro s;simp[C1,B3]
end Go.Ab
namespace Go.Ab
theorem RA {N:Nat} (hN:40000000≤N) (lim:Int):∀(n:Nat) (x:A4),x.bulk≤n→x.bulk≤16777216→∃r,V1 N n x lim=some r∧Cut lim x.pre.length r:=by
 intro n
 induction n with
 |zero=>intro x h;have:=BO x;omega
 | succ n ih=>
  intro x hx hb;have hxb:=A4.bulk_eq x;have hB:=Lh x.cP;have hpb:=Ey x.cP;unfold V1;rw[I5 x.cP (by omega) (mk:=fun(s:Int) i=>(s,i)) (body:=fun(s:Int) a=>if s≤lim then(V1 N n a lim).bind fun r=>some (.inl (Ar.ar .add .i64 s r))else some (.inr s)) (fin:=fun s=>s) (s:=1) (by omega) ?_ ?_]
  ·obtain⟨o,k1,v,k2,k3,k4,k5⟩:=GL (lim:=lim) (f:=fun a=>V1 N n a lim) (cnt:=fun a=>a.pre.length) (B:=40000000) (by omega) x.cP 1 (by omega) (by rw[Ic];omega) fun a ha=>ih a (by have:=hB.1 a ha;omega) (by have:=hB.1 a ha;omega)
   rw[Ic]at k4 k5
   have hpe:x.pre.length=(A4.pres x.cP).length+1:=by rw[A4.pre_eq];rfl
   simp only[k1,Option.bind_some];refine⟨v,?_,by omega,by omega,?_⟩
   ·cases o<;>simp_all
   rcases k5 with k5|k5
   ·left;omega
   right;exact k5
  ·intro s i a ha hi;have e:Ar.ar .add .i64 (i:Int) 1=i+1:=C3 (by omega) (by omega);simp only[C1,CU,M9,B3,hi,decide_true,Bool.true_and,D6,ha,Option.bind_some,e,decide_eq_true_eq]
   split
   ·cases V1 N n a lim<;>rfl
   rfl
  intro s;simp[C1,M9,B3]
theorem MG {N:Nat} (hN:40000000≤N):∀(n:Nat) (x:A4),x.bulk≤n→x.bulk≤16777216→V0 N n x=some (x.dep:Int):=by
 intro n
 induction n with
 |zero=>intro x h;have:=BO x;omega
 | succ n ih=>
  intro x hx hb;have hl:=CD x;unfold V0;rw[I5 x.cP (by omega) (mk:=fun(s:Int) i=>(s,i)) (body:=fun(s:Int) a=>(V0 N n a).bind fun r=>some (.inl (Ar.mx s r))) (fin:=fun s=>s) (s:=0) (by omega) ?_ ?_]
  ·obtain⟨s',k1,k2⟩:=Z1 (R:=Int) (step:=fun(s:Int) a=>(V0 N n a).bind fun r=>some (.inl (Ar.mx s r))) (fun r s=>(∀a∈r,a∈x.cP)∧0≤s∧max s (A4.deps r:Int)=(A4.deps x.cP:Int)) (fun a r s ⟨h1,h2,h3⟩=>by
    have hm:=Y1 (h1 a (by simp));refine⟨_,by rw[ih a (by omega) (by omega)];rfl,fun b hb=>h1 b (by simp[hb]),?_,?_⟩
    ·rw[GT];split<;>omega
    rw[←h3,GT];simp only[A4.deps];split<;>omega) (l:=x.cP) (s:=0) ⟨fun a h=>h,Int.le_refl _,by omega⟩
   simp only[k1,Option.bind_some]
   have e:s'=(A4.deps x.cP:Int):=by have:=k2.2.2;simp only[A4.deps]at this;omega
   have hd:=EH x.cP;have hd2:=A4.bulk_eq x;rw[e,C3 (by omega) (by omega),A4.dep_eq];rfl
  ·intro s i a ha hi;have e:Ar.ar .add .i64 (i:Int) 1=i+1:=C3 (by omega) (by omega);simp only[C1,B3,hi,decide_true,if_true,D6,ha,Option.bind_some,e];cases V0 N n a<;>rfl
  intro s;simp[C1,B3]
theorem Ve {N:Nat} (hN:40000000≤N):∀(n:Nat) (x:A4),x.bulk≤n→x.bulk≤16777216→Bf N n x=some ((x.pre.length:Int),(x.dep:Int)):=by
 intro n
 induction n with
 |zero=>intro x h;have:=BO x;omega
 | succ n ih=>
  intro x hx hb;have hl:=CD x;unfold Bf;rw[I5 x.cP (by omega) (mk:=fun(s:Int×Int) i=>(s.1,s.2,i)) (body:=fun(s:Int×Int) a=>(Bf N n a).bind fun r=>some (.inl (Ar.ar .add .i64 s.1 r.1,Ar.mx s.2 r.2))) (fin:=fun s=>s) (s:=(1,0)) (by omega) ?_ ?_]
  ·have hp:=Ey x.cP;have hd:=EH x.cP;have hbe:=A4.bulk_eq x
   obtain⟨s',k1,k2⟩:=Z1 (R:=Int×Int) (step:=fun(s:Int×Int) a=>(Bf N n a).bind fun r=>some (.inl (Ar.ar .add .i64 s.1 r.1,Ar.mx s.2 r.2))) (fun r s=>(∀a∈r,a∈x.cP)∧0≤s.2∧0≤s.1∧s.1+(A4.pres r).length=(A4.pres x.cP).length+1∧max s.2 (A4.deps r:Int)=(A4.deps x.cP:Int)) (fun a r s ⟨h1,h2,h3,h4,h5⟩=>by
    have hm:=Y1 (h1 a (by simp))
    simp only[A4.pres,List.length_append,A4.deps]at h4 h5
    refine⟨_,by rw[ih a (by omega) (by omega)];rfl,fun b hb=>h1 b (by simp[hb]),?_,?_,?_,?_⟩
    ·simp only[GT];split<;>omega
    ·rw[C3 (by omega) (by omega)];omega
    ·rw[C3 (by omega) (by omega)];omega
    rw[←h5];simp only[GT];split<;>omega) (l:=x.cP) (s:=(1,0)) ⟨fun a h=>h,by simp,by simp,by simp only;omega,by simp only;omega⟩
   simp only[k1,Option.bind_some];obtain⟨_,_,_,e1,e2⟩:=k2
   simp only[A4.pres,List.length_nil,A4.deps]at e1 e2
   have e3:s'.1=(x.pre.length:Int):=by rw[A4.pre_eq];simp only[List.length_cons];omega
   have e4:s'.2=(A4.deps x.cP:Int):=by omega
   rw[e3,e4,C3 (by omega) (by omega),A4.dep_eq];rfl
  ·intro s i a ha hi;have e:Ar.ar .add .i64 (i:Int) 1=i+1:=C3 (by omega) (by omega);simp only[C1,B3,hi,decide_true,if_true,D6,ha,Option.bind_some,e];cases Bf N n a<;>rfl
  intro s;simp[C1,B3]
theorem MO {f:A4→Int}:∀l:List A4,U6 (fun a=>U6 f a.pre) l=U6 f (A4.pres l)
 |[]=>rfl
 |a::l=>by rw[A4.pres,KH,U6,MO l]
theorem Lt {a y:A4} (hy:y∈a.pre):∀l:List A4,a∈l→y∈A4.pres l
 |[],h=>by simp at h
 |b::l,h=>by
  rcases List.mem_cons.1 h with rfl|h
  ·simp[A4.pres,hy]
  simp[A4.pres,Lt hy l h]
theorem WK {N:Nat} (hN:40000000≤N) {F:A4→Option Int} {f:A4→Int}:∀(n:Nat) (x:A4),x.bulk≤n→x.bulk≤16777216→(∀y∈x.pre,F y=some (f y))→AQ N n x F=some (U6 f x.pre):=by
 intro n
 induction n with
 |zero=>intro x h;have:=BO x;omega
 | succ n ih=>
  intro x hx hb hF;have hl:=CD x;have hpe:=A4.pre_eq x;unfold AQ;rw[hF x (by rw[hpe];simp)];simp only[Option.bind_some,F6];rw[hpe,U6]
  by_cases hz:f x=0
  ·simp only[hz,decide_true,Bool.not_true,Bool.false_eq_true,if_false,if_true];rw[I5 x.cP (by omega) (mk:=fun(_:Unit) i=>i) (body:=Au fun a=>AQ N n a F) (fin:=fun _=>.inl ()) (s:=()) (by omega) ?_ ?_]
   ·rw[Y0 (f:=fun a=>U6 f a.pre) fun a ha=>ih a (by have:=Y1 ha;omega) (by have:=Y1 ha;omega) fun y hy=>hF y (by rw[hpe];exact List.mem_cons_of_mem _ (Lt hy _ ha)),MO]
    by_cases hz3:U6 f (A4.pres x.cP)=0
    ·simp[hz3]
    simp[hz3]
   ·intro s i a ha hi;have e:Ar.ar .add .i64 (i:Int) 1=i+1:=C3 (by omega) (by omega);simp only[C1,B3,hi,decide_true,if_true,D6,ha,Option.bind_some,e,Au,F6]
    cases AQ N n a F with
    |none=>rfl
    |some r=>by_cases h:r=0<;>simp[h]
   intro s;simp[C1,B3]
  simp[hz]
theorem VH {N:Nat} (hN:40000000≤N) {f:A4→Int} (hF:∀y,Cz N y=some (f y)):∀(n:Nat) (x:A4),x.bulk≤n→x.bulk≤16777216→Z7 N n x=some (U6 f x.pre):=by
 intro n
 induction n with
 |zero=>intro x h;have:=BO x;omega
 | succ n ih=>
  intro x hx hb;have hl:=CD x;have hpe:=A4.pre_eq x;unfold Z7;rw[hF x];simp only[Option.bind_some,F6];rw[hpe,U6]
  by_cases hz:f x=0
  ·simp only[hz,decide_true,Bool.not_true,Bool.false_eq_true,if_false,if_true];rw[I5 x.cP (by omega) (mk:=fun(_:Unit) i=>i) (body:=Au fun a=>Z7 N n a) (fin:=fun _=>.inl ()) (s:=()) (by omega) ?_ ?_]
   ·rw[Y0 (f:=fun a=>U6 f a.pre) fun a ha=>ih a (by have:=Y1 ha;omega) (by have:=Y1 ha;omega),MO]
    by_cases hz3:U6 f (A4.pres x.cP)=0
    ·simp[hz3]
    simp[hz3]
   ·intro s i a ha hi;have e:Ar.ar .add .i64 (i:Int) 1=i+1:=C3 (by omega) (by omega);simp only[C1,B3,hi,decide_true,if_true,D6,ha,Option.bind_some,e,Au,F6]
    cases Z7 N n a with
    |none=>rfl
    |some r=>by_cases h:r=0<;>simp[h]
   intro s;simp[C1,B3]
  simp[hz]
end Go.Ab
namespace Go.Ab
theorem Lp {a b:ByteArray}:a.toList=b.toList↔a=b:=by
 rw[ByteArray.toList_eq,ByteArray.toList_eq]
 constructor
 ·intro h;obtain⟨⟨a⟩⟩:=a;obtain⟨⟨b⟩⟩:=b
  simp at h
  subst h;rfl
 intro h;rw[h]
theorem Qv (a b:ByteArray):Ar.scmp .neq a b= !decide (a=b):=by
 show(!(a.toList==b.toList))=_
 by_cases h:a=b
 ·subst h;simp
 have:a.toList≠b.toList:=fun e=>h (Lp.1 e);simp[h,this]
theorem Fc (a b:ByteArray):Ar.scmp .eql a b=decide (a=b):=by
 show(a.toList==b.toList)=_
 by_cases h:a=b
 ·subst h;simp
 have:a.toList≠b.toList:=fun e=>h (Lp.1 e);simp[h,this]
theorem Ah7 (N:Nat)(op:Int):Ee N op=some (if op<0∨12<op then(0,false)else if op<5 then(0,true)else if op=12 then(1,true)else(2,true)):=by
 unfold Ee;simp only[C1,Bg,C2,K1,Bool.or_eq_true,decide_eq_true_eq]
 split
 ·rfl
 split
 ·rfl
 split<;>rfl
theorem Aa2 (N:Nat) (op:Int):Da N op=some (if op<0∨12<op then -1 else if op<5 then 0 else if op=12 then 1 else 2):=by
 have h:op<0∨op=0∨op=1∨op=2∨op=3∨op=4∨op=5∨op=6∨op=7∨op=8∨op=9∨op=10∨op=11∨op=12∨12<op:=by omega
 unfold Da;simp only[C2]
 rcases h with h|h|h|h|h|h|h|h|h|h|h|h|h|h|h
 all_goals first
  |(subst h;rfl)
  | (have h0:op≠0:=by omega
     have h1:op≠1:=by omega
     have h2:op≠2:=by omega
     have h3:op≠3:=by omega
     have h4:op≠4:=by omega
     have h5:op≠5:=by omega
     have h6:op≠6:=by omega
     have h7:op≠7:=by omega
     have h8:op≠8:=by omega
     have h9:op≠9:=by omega
     have ha:op≠10:=by omega
     have hb:op≠11:=by omega
     have hc:op≠12:=by omega
     simp[h0,h1,h2,h3,h4,h5,h6,h7,h8,h9,ha,hb,hc,h])
theorem Ak5 (N:Nat)(op:Int):Fp N op=some (decide (op=1∨op=2∨op=3∨op=4),decide (op=1∨op=4)):=by
 unfold Fp;simp only[C2,decide_eq_true_eq]
 by_cases h1:op=1
 ·simp[h1]
 by_cases h4:op=4
 ·simp[h4]
 by_cases h2:op=2
 ·simp[h2]
 by_cases h3:op=3<;>simp[h1,h2,h3,h4]
theorem Ae1 (N:Nat)(op:Int):BG N op=some (decide (op=1∨op=2∨op=3∨op=4),decide (op=1∨op=4)):=by
 unfold BG;simp only[C2,K1]
 by_cases h1:op=1
 ·simp[h1]
 by_cases h4:op=4
 ·simp[h4]
 by_cases h2:op=2
 ·simp[h2]
 by_cases h3:op=3<;>simp[h1,h2,h3,h4]
def I7 (v:A7):Int:=
 if v.Kind=0∨v.Kind=1 then
  if v.Text≠⟨#[]⟩then 3
  else if v.Kind=0∧(v.Num< -1099511627776∨1099511627776<v.Num)∨v.Kind=1∧v.Num≠0∧v.Num≠1 then 2 else 0
 else if v.Kind=2 then(if v.Num≠0 then 3 else if 64<(v.Text.size:Int)then 13 else 0)else 1
theorem IR (N:Nat) (v:A7):U7 N v=some (I7 v):=by
 obtain⟨k,n,t⟩:=v;unfold U7 DS I7;simp only[C2,F6,C1,Bg,M9,K1,Qv,Qi]
 by_cases h0:k=0
 ·subst h0
  by_cases ht:t=⟨#[]⟩
  ·subst ht
   by_cases h1:n< -1099511627776∨1099511627776<n
   ·simp[h1]
   simp[h1];decide
  simp[ht]
 by_cases h1:k=1
 ·subst h1
  by_cases ht:t=⟨#[]⟩
  ·subst ht
   by_cases h2:n=0
   ·simp[h2];decide
   by_cases h3:n=1
   ·simp[h3];decide
   simp[h2,h3]
  simp[ht]
 by_cases h2:k=2
 ·subst h2
  by_cases hn:n=0
  ·simp[hn];split<;>rfl
  simp[hn]
 simp[h0,h1,h2]
theorem UW (N:Nat) (v:A7):Dd N v=some (I7 v):=by
 obtain⟨k,n,t⟩:=v;unfold Dd I7;simp only[C2,F6,C1,Bg,M9,K1,Qv,Qi]
 by_cases h0:k=0
 ·subst h0
  by_cases ht:t=⟨#[]⟩
  ·subst ht
   by_cases h1:n< -1099511627776∨1099511627776<n
   ·simp[h1]
   simp[h1]
  simp[ht]
 by_cases h1:k=1
 ·subst h1
  by_cases ht:t=⟨#[]⟩
  ·subst ht
   by_cases h2:n=0
   ·simp[h2]
   by_cases h3:n=1
   ·simp[h3]
   have:n<0∨1<n:=by omega
   simp[h2,h3,this]
  simp[ht]
 by_cases h2:k=2
 ·subst h2
  by_cases hn:n=0
  ·simp[hn];split<;>rfl
  simp[hn]
 have:k<0∨2<k:=by omega
 simp[h0,h1,h2,this]
theorem WT (N:Nat)(k:Int)(v:A7):Ed N k v=some (decide (v.Kind=0∨k=4∨k=5)):=by
 unfold Ed;simp only[C2,K1]
 by_cases h1:v.Kind=0<;>by_cases h2:k=4<;>by_cases h3:k=5<;>simp[h1,h2,h3]
theorem UY (N:Nat)(k:Int)(v:A7)(h:k≠0):Db N k v=some (decide (v.Kind=0∨k=4∨k=5)):=by
 unfold Db;simp only[C2,K1]
 by_cases h1:v.Kind=0<;>by_cases h2:k=4<;>by_cases h3:k=5<;>simp[h,h1,h2,h3]
def TK (op:Int):Bool:=decide (op=1∨op=2∨op=3∨op=4)
def WL (op:Int):Bool:=decide (op=1∨op=4)
noncomputable def LU (x:A4):Bool:=Ar.or (Ar.an (TK x.Op) (Ar.or (Ar.cmp .lss x.Var 0) (Ar.cmp .geq x.Var 16))) (Ar.an (WL x.Op) (Ar.or (Ar.cmp .lss x.Field 0) (Ar.cmp .geq x.Field 8)))
noncomputable def Mo (x:A4):Bool:=Ar.an (Ar.cmp .eql x.Op 4) (Ar.or (Ar.cmp .lss x.Kind 1) (Ar.cmp .gtr x.Kind 5))
noncomputable def No (v:A7):Bool:=Ar.an (Ar.cmp .eql v.Kind 0) (Ar.an (Ar.cmp .eql v.Num 0) (Ar.an (Ar.scmp .eql v.Text (⟨#[]⟩)) true))
noncomputable def Fa (x:A4):Bool:=Ar.or (Ar.nt (decide (x.Value.Kind=0∨x.Kind=4∨x.Kind=5))) (Ar.an (Ar.cmp .eql x.Kind 1) (Ar.nt (No x.Value)))
noncomputable def DX (x:A4):Bool:=Ar.or (Ar.or (Ar.or (Ar.an (Ar.nt (TK x.Op)) (Ar.cmp .neq x.Var 0)) (Ar.an (Ar.nt (WL x.Op)) (Ar.cmp .neq x.Field 0))) (Ar.an (Ar.nt (Ar.cmp .eql x.Op 4)) (Ar.cmp .neq x.Kind 0))) (Ar.an (Ar.nt (Ar.or (Ar.cmp .eql x.Op 4) (Ar.cmp .eql x.Op 0))) (Ar.nt (No x.Value)))
noncomputable def Y7 (x:A4):Int:=
 if x.Op<0∨12<x.Op then 1
 else if(x.cP.length:Int)≠(if x.Op<5 then 0 else if x.Op=12 then 1 else 2)then 15
 else if LU x=true then 2
 else if Mo x=true then 1
 else if(x.Op=4∨x.Op=0)∧I7 x.Value≠0 then I7 x.Value
 else if x.Op=4∧Fa x=true then 9
 else if DX x=true then 3 else 0
theorem VI (N:Nat) (x:A4):Cz N x=some (Y7 x):=by
 unfold Cz Y7;rw[Aa2,Ae1];simp only[Option.bind_some]
 by_cases h0:x.Op<0∨12<x.Op
 ·rw[if_pos h0,if_pos h0];rfl
 rw[if_neg h0,if_neg h0]
 have ha:¬(Ar.cmp .lss (if x.Op<5 then 0 else if x.Op=12 then 1 else 2) 0=true):=by
  rw[C1];simp only[decide_eq_true_eq];split
  ·omega
  split<;>omega
 rw[if_neg ha]
 by_cases h1:(x.cP.length:Int)≠(if x.Op<5 then 0 else if x.Op=12 then 1 else 2)
 ·rw[if_pos h1,if_pos (by simp[F6,B3,h1])]
 rw[if_neg h1,if_neg (by simp only[F6,B3];simpa using h1)]
 change (if LU x=true then some 2 else _)=_
 by_cases h2:LU x=true
 ·rw[if_pos h2,if_pos h2]
 rw[if_neg h2,if_neg h2]
 change (if Mo x=true then some 1 else _)=_
 by_cases h3:Mo x=true
 ·rw[if_pos h3,if_pos h3]
 rw[if_neg h3,if_neg h3];rw[UW]
 have e4:(Ar.or (Ar.cmp .eql x.Op 4) (Ar.cmp .eql x.Op 0)=true)↔(x.Op=4∨x.Op=0):=by simp[C2,K1]
 have e6:(Ar.cmp .eql x.Op 4=true)↔x.Op=4:=by simp[C2]
 by_cases h4:x.Op=4∨x.Op=0
 ·rw [if_pos (e4.2 h4)];simp only[Option.bind_some]
  by_cases h5:I7 x.Value=0
  ·have n5:¬(Ar.cmp .neq (I7 x.Value) 0=true):=by simp[F6,h5]
   have n5':¬((x.Op=4∨x.Op=0)∧I7 x.Value≠0):=fun h=>h.2 h5;rw[if_neg n5,if_neg n5'];simp only[Option.bind_some]
   by_cases h6:x.Op=4
   ·rw[if_pos (e6.2 h6)]
    have hk:x.Kind≠0:=by
     intro e;apply h3;simp[Mo,M9,K1,C2,C1,h6,e]
    rw[UY N _ _ hk];simp only[Option.bind_some]
    change (if Fa x=true then some 9 else if DX x=true then some 3 else some 0)=_
    by_cases h7:Fa x=true
    ·rw[if_pos h7,if_pos (show x.Op=4∧Fa x=true from⟨h6,h7⟩)]
    rw[if_neg h7,if_neg (show¬(x.Op=4∧Fa x=true)from fun h=>h7 h.2)]
    by_cases h8:DX x=true
    ·rw[if_pos h8,if_pos h8]
    rw[if_neg h8,if_neg h8]
   rw[if_neg (show¬(Ar.cmp .eql x.Op 4=true)from fun h=>h6 (e6.1 h)),if_neg (show¬(x.Op=4∧Fa x=true)from fun h=>h6 h.1)]
   change (if DX x=true then some 3 else some 0)=_
   by_cases h8:DX x=true
   ·rw[if_pos h8,if_pos h8]
   rw[if_neg h8,if_neg h8]
  have n5:Ar.cmp .neq (I7 x.Value) 0=true:=by simp[F6,h5]
  rw[if_pos n5,if_pos (show(x.Op=4∨x.Op=0)∧I7 x.Value≠0 from⟨h4,h5⟩)];rfl
 rw[if_neg (show¬(Ar.or (Ar.cmp .eql x.Op 4) (Ar.cmp .eql x.Op 0)=true)from fun h=>h4 (e4.1 h)),if_neg (show¬((x.Op=4∨x.Op=0)∧I7 x.Value≠0)from fun h=>h4 h.1)];simp only[Option.bind_some];have h6:¬x.Op=4:=fun e=>h4 (.inl e);rw[if_neg (show¬(Ar.cmp .eql x.Op 4=true)from fun h=>h6 (e6.1 h)),if_neg (show¬(x.Op=4∧Fa x=true)from fun h=>h6 h.1)]
 change (if DX x=true then some 3 else some 0)=_
 by_cases h8:DX x=true
 ·rw[if_pos h8,if_pos h8]
 rw[if_neg h8,if_neg h8]
theorem Xt (N:Nat) (x:A4):DP N x=some (Y7 x):=by
 unfold DP Y7;rw[Ah7,Ak5];simp only[Option.bind_some]
 by_cases h0:x.Op<0∨12<x.Op
 ·rw[if_pos h0,if_pos h0];rfl
 rw[if_neg h0,if_neg h0]
 have ha:(if x.Op<5 then((0:Int),true)else if x.Op=12 then(1,true)else(2,true))=((if x.Op<5 then 0 else if x.Op=12 then 1 else 2),true):=by
  split
  ·rfl
  split<;>rfl
 rw[ha];rw[if_neg (by simp[T3])]
 by_cases h1:(x.cP.length:Int)≠(if x.Op<5 then 0 else if x.Op=12 then 1 else 2)
 ·rw[if_pos h1,if_pos (by simp[F6,B3,h1])]
 rw[if_neg h1,if_neg (by simp only[F6,B3];simpa using h1)]
 change (if LU x=true then some 2 else _)=_
 by_cases h2:LU x=true
 ·rw[if_pos h2,if_pos h2]
 rw[if_neg h2,if_neg h2]
 change (if Mo x=true then some 1 else _)=_
 by_cases h3:Mo x=true
 ·rw[if_pos h3,if_pos h3]
 rw[if_neg h3,if_neg h3];unfold Ck;rw[IR]
 have e4:(Ar.or (Ar.cmp .eql x.Op 4) (Ar.cmp .eql x.Op 0)=true)↔(x.Op=4∨x.Op=0):=by simp[C2,K1]
 have e6:(Ar.cmp .eql x.Op 4=true)↔x.Op=4:=by simp[C2]
 by_cases h4:x.Op=4∨x.Op=0
 ·rw[if_pos (e4.2 h4)];simp only[Option.bind_some]
  by_cases h5:I7 x.Value=0
  ·have n5:¬(Ar.cmp .neq (I7 x.Value) 0=true):=by simp[F6,h5]
   have n5':¬((x.Op=4∨x.Op=0)∧I7 x.Value≠0):=fun h=>h.2 h5;rw[if_neg n5,if_neg n5']
   by_cases h6:x.Op=4
   ·rw[if_pos (e6.2 h6),WT];simp only[Option.bind_some]
    change (((if Fa x=true then some 9 else some 0):Option Int).bind _).bind _=_
    by_cases h7:Fa x=true
    ·rw[if_pos h7,if_pos (show x.Op=4∧Fa x=true from⟨h6,h7⟩)];rfl
    rw[if_neg h7,if_neg (show¬(x.Op=4∧Fa x=true)from fun h=>h7 h.2)]
    change (if DX x=true then some 3 else some 0)=_
    by_cases h8:DX x=true
    ·rw[if_pos h8,if_pos h8]
    rw[if_neg h8,if_neg h8]
   rw[if_neg (show¬(Ar.cmp .eql x.Op 4=true)from fun h=>h6 (e6.1 h)),if_neg (show¬(x.Op=4∧Fa x=true)from fun h=>h6 h.1)]
   change (if DX x=true then some 3 else some 0)=_
   by_cases h8:DX x=true
   ·rw[if_pos h8,if_pos h8]
   rw[if_neg h8,if_neg h8]
  have n5:Ar.cmp .neq (I7 x.Value) 0=true:=by simp[F6,h5]
  rw[if_pos n5,if_pos (show(x.Op=4∨x.Op=0)∧I7 x.Value≠0 from⟨h4,h5⟩)];simp only[Option.bind_some];rw[if_pos n5];rfl
 rw[if_neg (show¬(Ar.or (Ar.cmp .eql x.Op 4) (Ar.cmp .eql x.Op 0)=true)from fun h=>h4 (e4.1 h)),if_neg (show¬((x.Op=4∨x.Op=0)∧I7 x.Value≠0)from fun h=>h4 h.1)];have h6:¬x.Op=4:=fun e=>h4 (.inl e);rw[if_neg (show¬(x.Op=4∧Fa x=true)from fun h=>h6 h.1)]
 change (if DX x=true then some 3 else some 0)=_
 by_cases h8:DX x=true
 ·rw[if_pos h8,if_pos h8]
 rw[if_neg h8,if_neg h8]
end Go.Ab
