/- GTCo9 GTSs GTKs AbG1 AbI1 AbM1 AbG2 AbG3 GTSw -/
import Derived.Test.YtanbgjgaafeplaaGreatDoorI15
import Derived.Deep.Slices
import Derived.Carry
import Derived.Lib.LaidTab
set_option linter.all false
namespace Go.Ab
open Go.RowKit Go.Proofs Go.Proofs.Tryz H6
variable [Ar][H6]
set_option maxRecDepth 100000
theorem c76 (N aA r) (h:JX N aA=some r):B3 prog 76 [(B6 aA)] (.tup [sr (V.int .i64) r.1,vi r.2]):=by
 unfold JX at h
 refine I8 cf0 func76 call76 ntmps76 ?_;intro E H0 K hE hK hO;cbv;refine A4 hE h (c75 N N aA) (.refl _) fun r1 h=>?_;cbv;refine Ri hE (f:=V.bool) (by decide) (z0:=(false:Bool)) ((.refl _)) hO h fun l3 q2 H hq2 h hO=>?_;cbv;replace hO:=hO.tl0 (t:=.nil) rfl;obtain⟨s7,hx,h⟩:=bind_some h;refine W3 cf0 hE M4 (γ:=D7×OG) (fun s4 g=>[(4,.v (sr eAr4 r1)),(5,.v (.own g.2.id g.2.lo g.2.n)),(6,.v (.sl (Ar.lst (V.int .i64) s4.1) g.1)),fi 7 s4.2.1]) (fun s4 g H1=>W6 g.1∧Cr g.2 (Ar.len s4.2.2)∧B8 Eq H0 [.tl g.1,.blk g.2.id (.arr 1 (g.2.pre++Ar.lst V.bool s4.2.2++g.2.rest))] H1) (fun x e l H1=>match(generalizing:=false) x with| .inl y=>∃u1:D7,W6 u1∧∃u2:OG,Cr u2 (Ar.len y.2)∧e= .exit 0∧l=[(6,.v (.sl (Ar.lst (V.int .i64) y.1) u1))]∧B8 Eq H0 [.tl u1,ob u2 1 V.bool y.2] H1| .inr y=>∃u1:D7,W6 u1∧∃u2:OG,Cr u2 (Ar.len y)∧e= .ret∧l=[(2,.v (.sl [] .nil)),fi 3 7]∧B8 Eq H0 [.tl u1,ob u2 1 V.bool y] H1) (by kernel_rfl) ?_ (⟨.nil,q2⟩) hx ?_ ?_ ?_
 ·rintro s4 ⟨t5,q6⟩ H o ⟨ht5,hq6,hO⟩ h;clear hx;cbv;refine D4 hE ?_;cbv;refine A8 hE h (fun _ h=>?_) fun _ h=>?_
  ·cbv;refine B9 hE eAr3 h fun x8 h=>?_;cbv;refine A4 hE h (c79 N x8) (.refl _) fun r9 h=>?_;cbv;refine A8 hE h (fun _ h=>?_) fun _ h=>?_
   ·cbv;cases h;exact⟨_,⟨t5,q6⟩,rfl,.e4 .z,rfl,ht5,hq6,hO⟩
   cbv;refine B9 hE eAr3 h fun x10 h=>?_;cbv;refine Iw hE hO hq6 1 rfl h fun h=>?_;cbv;refine Pc hE (fun _=>rfl) hO hq6 1 rfl h fun x11 h=>?_;cbv;refine A8 hE h (fun _ h=>?_) fun _ h=>?_
   ·cbv;cases h;exact⟨_,_,rfl,⟨t5,ht5,q6,hq6,rfl,rfl,hO⟩,.e2 .z,rfl⟩
   cbv;refine B9 hE eAr3 h fun x12 h=>?_;cbv;refine Iw hE hO hq6 1 rfl h fun h=>?_;cbv;refine GV hE (f:=V.bool) (esz:=1) (tz:=1) (off:=0) (u:=(fun x13:Bool=>true)) (fun _=>⟨.bool true,.refl _,rfl,rfl,rfl⟩) (by decide) hO hq6 1 rfl h fun l14 H hq6 h hO=>?_;cbv;refine B9 hE eAr3 h fun x15 h=>?_;cbv;refine Cd (f:=(V.int .i64)) hE (fun _=>rfl) (by decide) hO 0 rfl ht5 (l:=s4.1) (m:=[x15.Var]) (.refl _) (.lstc (.refl _) (.lst0)) h fun l17 t16 H hO ht16 h=>?_;cbv;cases h;exact⟨_,⟨t16,q6⟩,rfl,.e4 .z,rfl,ht16,hq6,hO⟩
  cbv;cases h;exact⟨_,_,rfl,⟨t5,ht5,q6,hq6,rfl,rfl,hO⟩,.e rfl .z,rfl⟩
 ·exact .e2 (.v (.slt _ (.lst0)) (.e rfl (.z)))
 ·exact⟨trivial,hq2,hO⟩
 clear hx
 rcases s7 with y18|y21
 ·rintro e l H ⟨t19,ht19,q20,hq20,rfl,rfl,hO⟩;cbv;cases h;exact hK hO (.tup (.cons (.ro _ _) (.refl _)))
 rintro e l H ⟨t22,ht22,q23,hq23,rfl,rfl,hO⟩;cbv;cases h;exact hK hO (.tup (.cons (.lit _ (C2)) (.refl _)))
def cf137 :Cf:=⟨[4,6],[],[(20,6)],[],[],[]⟩
theorem c137 (N:Nat):∀n aB aV r,AZ N n aB aV=some r→B3 prog 137 [(G0 aB),sr (V.int .i64) aV] (.tup [(G0 r.1),vi r.2]):=by
 intro n
 induction n with
 |zero=>intro aB aV r h;cases h
 |succ n ih=>
 intro aB aV r h
 unfold AZ at h
 refine I8 cf137 func137 call137 ntmps137 ?_;intro E H0 K hE hK hO;cbv;refine C3 hE hO fun b1 H hO=>?_;cbv;refine C3 hE hO fun b2 H hO=>?_;cbv;refine A9 hE hO 0 rfl rfl fun H hO=>?_;cbv;refine A9 hE hO 0 rfl rfl fun H hO=>?_;cbv;refine A4 hE h (c134 N aB.Op) (.refl _) fun r3 h=>?_;cbv;obtain⟨s4,hx,h⟩:=bind_some h;refine U4 cf137 hE M4 (fun e l H1=>match(generalizing:=false) s4 with| .inl y=>e= .normal∧l=[(1,.v (sr (V.int .i64) aV)),(2,.v (.eref (Ak aB) 0)),(4,.v (.ref b1 0)),(6,.v (.ref b2 0))]∧B8 Eq H0 [cb b2 [vi y.Op,.sl [] .nil,vi y.Var,vi y.Field,vi y.Kind,vi y.Value.Kind,vi y.Value.Num,.str y.Value.Text],cb b1 [vi 0,.sl [] .nil,vi 0,vi 0,vi 0,vi 0,vi 0,.str (⟨#[]⟩)]] H1| .inr y=>e= .ret∧l=[(4,.v (.ref b1 0)),fi 5 y]∧B8 Eq H0 [cb b2 [vi aB.Op,.sl [] .nil,vi aB.Var,vi aB.Field,vi aB.Kind,vi aB.Value.Kind,vi aB.Value.Num,.str aB.Value.Text],cb b1 [vi 0,.sl [] .nil,vi 0,vi 0,vi 0,vi 0,vi 0,.str (⟨#[]⟩)]] H1) (by kernel_rfl) ?_ ?_
 ·clear h;have h:=hx;clear hx;cbv;refine A8 hE h (fun _ h=>?_) fun _ h=>?_
  ·cbv;refine D4 hE ?_;cbv;refine A8 hE h (fun _ h=>?_) fun _ h=>?_
   ·cbv;refine A9 hE hO 1 rfl rfl fun H hO=>?_;cbv;cases h;exact⟨_,⟨rfl,rfl,hO⟩,.e2 .z,rfl⟩
   cbv;refine B9 hE (fun _=>rfl) h fun x5 h=>?_;cbv;refine A8 hE h (fun _ h=>?_) fun _ h=>?_
   ·cbv;refine A9 hE hO 1 rfl rfl fun H hO=>?_;cbv;cases h;exact⟨_,⟨rfl,rfl,hO⟩,.e2 .z,rfl⟩
   cbv;refine B9 hE (fun _=>rfl) h fun x6 h=>?_;cbv;refine A8 hE h (fun _ h=>?_) fun _ h=>?_
   ·cbv;refine A9 hE hO 1 rfl rfl fun H hO=>?_;cbv;cases h;exact⟨_,⟨rfl,rfl,hO⟩,.e2 .z,rfl⟩
   cbv;refine B9 hE (fun _=>rfl) h fun x7 h=>?_;cbv;refine A9 hE hO 0 rfl rfl fun H hO=>?_;cbv;cases h;exact⟨_,⟨rfl,rfl,hO⟩,.e4 .z,rfl⟩
  cbv;cases h;exact⟨_,⟨rfl,rfl,hO⟩,.e4 .z,rfl⟩
 clear hx
 rcases s4 with y8|y20
 ·rintro e l H ⟨rfl,rfl,hO⟩;cbv;replace hO:=hO.cast (L':=[cb b2 [vi y8.Op,.sl (Ar.lst eAr7 ([])) .nil,vi y8.Var,vi y8.Field,vi y8.Kind,vi y8.Value.Kind,vi y8.Value.Num,.str y8.Value.Text],cb b1 [vi 0,.sl [] .nil,vi 0,vi 0,vi 0,vi 0,vi 0,.str (⟨#[]⟩)]]) (by simp only[ob,cb,sr,←C2]<;>rfl);replace hO:=hO.tl0 (t:=.nil) rfl;obtain⟨s11,hx,h⟩:=bind_some h;refine W3 cf137 hE M4 (γ:=D7) (fun s9 g=>[(1,.v (sr (V.int .i64) aV)),(2,.v (.eref (Ak aB) 0)),(4,.v (.ref b1 0)),(6,.v (.ref b2 0)),fi 9 s9.1]) (fun s9 g H1=>W6 g∧B8 Eq H0 [.tl g,cb b2 [vi s9.2.Op,.sl (Ar.lst eAr7 s9.2.cO) g,vi s9.2.Var,vi s9.2.Field,vi s9.2.Kind,vi s9.2.Value.Kind,vi s9.2.Value.Num,.str s9.2.Value.Text],cb b1 [vi 0,.sl [] .nil,vi 0,vi 0,vi 0,vi 0,vi 0,.str (⟨#[]⟩)]] H1) (fun x e l H1=>match(generalizing:=false) x with| .inl y=>∃u1:D7,W6 u1∧e= .exit 0∧l=[(4,.v (.ref b1 0)),(6,.v (.ref b2 0))]∧B8 Eq H0 [.tl u1,cb b2 [vi y.Op,.sl (Ar.lst eAr7 y.cO) u1,vi y.Var,vi y.Field,vi y.Kind,vi y.Value.Kind,vi y.Value.Num,.str y.Value.Text],cb b1 [vi 0,.sl [] .nil,vi 0,vi 0,vi 0,vi 0,vi 0,.str (⟨#[]⟩)]] H1| .inr y=>∃u1:D7,W6 u1∧e= .ret∧l=[(4,.v (.ref b1 0)),fi 5 y.1]∧B8 Eq H0 [.tl u1,cb b2 [vi y.2.Op,.sl (Ar.lst eAr7 y.2.cO) u1,vi y.2.Var,vi y.2.Field,vi y.2.Kind,vi y.2.Value.Kind,vi y.2.Value.Num,.str y.2.Value.Text],cb b1 [vi 0,.sl [] .nil,vi 0,vi 0,vi 0,vi 0,vi 0,.str (⟨#[]⟩)]] H1) (by kernel_rfl) ?_ .nil hx ?_ ?_ ?_
  ·rintro s9 t10 H o ⟨ht10,hO⟩ h;clear hx;cbv;refine D4 hE ?_;cbv;refine A8 hE h (fun _ h=>?_) fun _ h=>?_
   ·cbv;refine B9 hE eAs1 h fun x12 h=>?_;cbv;refine A4 hE h (ih x12 aV) (.refl _) fun r13 h=>?_;cbv;refine A8 hE h (fun _ h=>?_) fun _ h=>?_
    ·cbv;refine A9 hE hO 2 rfl rfl fun H hO=>?_;cbv;cases h;exact⟨_,_,rfl,⟨t10,ht10,rfl,rfl,hO⟩,.e2 .z,rfl⟩
    cbv;refine B1 hE hO 1 rfl ?_;cbv;refine Cd (f:=eAr7) hE Xc (by decide) hO 0 rfl ht10 (l:=s9.2.cO) (m:=[r13.1]) (.refl _) (.lstc (.eq (eAs1 r13.1) (.refl _)) (.lst0)) h fun l15 t14 H hO ht14 h=>?_;cbv;refine A9 hE hO 1 rfl rfl fun H hO=>?_;cbv;cases h;exact⟨_,t14,rfl,.e rfl (.e4 .z),rfl,ht14,hO⟩
   cbv;cases h;exact⟨_,_,rfl,⟨t10,ht10,rfl,rfl,hO⟩,.e2 .z,rfl⟩
  ·exact .e rfl (.e4 .z)
  ·exact⟨trivial,hO⟩
  clear hx
  rcases s11 with y16|y18
  ·rintro e l H ⟨t17,ht17,rfl,rfl,hO⟩;cbv;refine B1 hE hO 1 rfl ?_;cbv;refine A9 hE hO 2 rfl rfl fun H hO=>?_;cbv;refine B1 hE hO 2 rfl ?_;cbv;cases h;exact hK hO (.tup (.cons (.agg (.cons (.refl _) (.cons (.ro _ _) (.refl _)))) (.refl _)))
  rintro e l H ⟨t19,ht19,rfl,rfl,hO⟩;cbv;refine B1 hE hO 2 rfl ?_;cbv;cases h;exact hK hO (.tup (.cons (.agg (.cons (.refl _) (.cons (.lit _ (C2)) (.refl _)))) (.refl _)))
 rintro e l H ⟨rfl,rfl,hO⟩;cbv;refine B1 hE hO 1 rfl ?_;cbv;cases h;exact hK hO (.tup (.cons (.agg (.cons (.refl _) (.cons (.lit _ (C2)) (.refl _)))) (.refl _)))
def cf94 :Cf:=⟨[4],[],[],[],[],[]⟩
theorem c94 (N aB aV r)(h:Cb N aB aV=some r):B3 prog 94 [(G0 aB),sr (V.int .i64) aV] (.tup [(G0 r.1),vi r.2]):=by
 unfold Cb at h
 refine I8 cf94 func94 call94 ntmps94 ?_;intro E H0 K hE hK hO;cbv;refine C3 hE hO fun b1 H hO=>?_;cbv;refine A4 hE h (c136 N aB) (.refl _) fun r2 h=>?_;cbv;refine A8 hE h (fun _ h=>?_) fun _ h=>?_
 ·cbv;refine A9 hE hO 0 rfl rfl fun H hO=>?_;cbv;refine B1 hE hO 0 rfl ?_;cbv;cases h;exact hK hO (.tup (.cons (.agg (.cons (.refl _) (.cons (.lit _ (C2)) (.refl _)))) (.refl _)))
 cbv;refine A4 hE h (c137 N N aB aV) (.refl _) fun r3 h=>?_;cbv;refine A9 hE hO 0 rfl rfl fun H hO=>?_;cbv;refine B1 hE hO 0 rfl ?_;cbv;cases h;exact hK hO (.refl _)
def cf77 :Cf:=⟨[4,6],[],[(15,5),(44,11)],[],[],[]⟩
theorem c77 (N:Nat):∀n aA aV r,BZ N n aA aV=some r→B3 prog 77 [(B6 aA),sr (V.int .i64) aV] (.tup [(B6 r.1),vi r.2]):=by
 intro n
 induction n with
 |zero=>intro aA aV r h;cases h
 |succ n ih=>
 intro aA aV r h
 unfold BZ at h
 refine I8 cf77 func77 call77 ntmps77 ?_;intro E H0 K hE hK hO;cbv;refine C3 hE hO fun b1 H hO=>?_;cbv;refine C3 hE hO fun b2 H hO=>?_;cbv;refine A9 hE hO 0 rfl rfl fun H hO=>?_;cbv;refine A9 hE hO 0 rfl rfl fun H hO=>?_;cbv;refine A4 hE h (c79 N aA) (.refl _) fun r3 h=>?_;cbv;obtain⟨s4,hx,h⟩:=bind_some h;refine U4 cf77 hE M4 (fun e l H1=>match(generalizing:=false) s4 with| .inl y=>e= .normal∧l=[(1,.v (sr (V.int .i64) aV)),(2,.v (.eref (C0 aA) 0)),(4,.v (.ref b1 0)),(6,.v (.ref b2 0))]∧B8 Eq H0 [cb b2 [vi y.Op,.sl [] .nil,vi y.Typ,vi y.Var,vi y.cR,vi y.Span,vi y.cP.Op,sr eAr7 y.cP.cO,vi y.cP.Var,vi y.cP.Field,vi y.cP.Kind,vi y.cP.Value.Kind,vi y.cP.Value.Num,.str y.cP.Value.Text],cb b1 [vi 0,.sl [] .nil,vi 0,vi 0,vi 0,vi 0,vi 0,.sl [] .nil,vi 0,vi 0,vi 0,vi 0,vi 0,.str (⟨#[]⟩)]] H1| .inr y=>e= .ret∧l=[(4,.v (.ref b1 0)),fi 5 y]∧B8 Eq H0 [cb b2 [vi aA.Op,.sl [] .nil,vi aA.Typ,vi aA.Var,vi aA.cR,vi aA.Span,vi aA.cP.Op,sr eAr7 aA.cP.cO,vi aA.cP.Var,vi aA.cP.Field,vi aA.cP.Kind,vi aA.cP.Value.Kind,vi aA.cP.Value.Num,.str aA.cP.Value.Text],cb b1 [vi 0,.sl [] .nil,vi 0,vi 0,vi 0,vi 0,vi 0,.sl [] .nil,vi 0,vi 0,vi 0,vi 0,vi 0,.str (⟨#[]⟩)]] H1) (by kernel_rfl) ?_ ?_
 ·clear h;have h:=hx;clear hx;cbv;refine A8 hE h (fun _ h=>?_) fun _ h=>?_
  ·cbv;refine D4 hE ?_;cbv;refine A8 hE h (fun _ h=>?_) fun _ h=>?_
   ·cbv;refine A9 hE hO 1 rfl rfl fun H hO=>?_;cbv;cases h;exact⟨_,⟨rfl,rfl,hO⟩,.e2 .z,rfl⟩
   cbv;refine B9 hE (fun _=>rfl) h fun x5 h=>?_;cbv;refine A8 hE h (fun _ h=>?_) fun _ h=>?_
   ·cbv;refine A9 hE hO 1 rfl rfl fun H hO=>?_;cbv;cases h;exact⟨_,⟨rfl,rfl,hO⟩,.e2 .z,rfl⟩
   cbv;refine B9 hE (fun _=>rfl) h fun x6 h=>?_;cbv;refine A8 hE h (fun _ h=>?_) fun _ h=>?_
   ·cbv;refine A9 hE hO 1 rfl rfl fun H hO=>?_;cbv;cases h;exact⟨_,⟨rfl,rfl,hO⟩,.e2 .z,rfl⟩
   cbv;refine B9 hE (fun _=>rfl) h fun x7 h=>?_;cbv;refine A9 hE hO 0 rfl rfl fun H hO=>?_;cbv;cases h;exact⟨_,⟨rfl,rfl,hO⟩,.e4 .z,rfl⟩
  cbv;cases h;exact⟨_,⟨rfl,rfl,hO⟩,.e4 .z,rfl⟩
 clear hx
 rcases s4 with y8|y25
 ·rintro e l H ⟨rfl,rfl,hO⟩;cbv;refine A4 hE h (c132 N aA) (.refl _) fun r9 h=>?_;cbv;obtain⟨s10,hx,h⟩:=bind_some h;refine U4 cf77 hE M4 (fun e l H1=>match(generalizing:=false) s10 with| .inl y=>e= .normal∧l=[(1,.v (sr (V.int .i64) aV)),(2,.v (.eref (C0 aA) 0)),(4,.v (.ref b1 0)),(6,.v (.ref b2 0))]∧B8 Eq H0 [cb b2 [vi y.Op,.sl [] .nil,vi y.Typ,vi y.Var,vi y.cR,vi y.Span,vi y.cP.Op,sr eAr7 y.cP.cO,vi y.cP.Var,vi y.cP.Field,vi y.cP.Kind,vi y.cP.Value.Kind,vi y.cP.Value.Num,.str y.cP.Value.Text],cb b1 [vi 0,.sl [] .nil,vi 0,vi 0,vi 0,vi 0,vi 0,.sl [] .nil,vi 0,vi 0,vi 0,vi 0,vi 0,.str (⟨#[]⟩)]] H1| .inr y=>e= .ret∧l=[(4,.v (.ref b1 0)),fi 5 y]∧B8 Eq H0 [cb b2 [vi y8.Op,.sl [] .nil,vi y8.Typ,vi y8.Var,vi y8.cR,vi y8.Span,vi y8.cP.Op,sr eAr7 y8.cP.cO,vi y8.cP.Var,vi y8.cP.Field,vi y8.cP.Kind,vi y8.cP.Value.Kind,vi y8.cP.Value.Num,.str y8.cP.Value.Text],cb b1 [vi 0,.sl [] .nil,vi 0,vi 0,vi 0,vi 0,vi 0,.sl [] .nil,vi 0,vi 0,vi 0,vi 0,vi 0,.str (⟨#[]⟩)]] H1) (by kernel_rfl) ?_ ?_
  ·clear h;have h:=hx;clear hx;cbv;refine A8 hE h (fun _ h=>?_) fun _ h=>?_
   ·cbv;refine A4 hE h (c94 N aA.cP aV) (.refl _) fun r11 h=>?_;cbv;refine A8 hE h (fun _ h=>?_) fun _ h=>?_
    ·cbv;refine A9 hE hO 1 rfl rfl fun H hO=>?_;cbv;cases h;exact⟨_,⟨rfl,rfl,hO⟩,.e2 .z,rfl⟩
    cbv;refine A9 hE hO 0 rfl rfl fun H hO=>?_;cbv;cases h;exact⟨_,⟨rfl,rfl,hO⟩,.e4 .z,rfl⟩
   cbv;cases h;exact⟨_,⟨rfl,rfl,hO⟩,.e4 .z,rfl⟩
  clear hx
  rcases s10 with y12|y24
  ·rintro e l H ⟨rfl,rfl,hO⟩;cbv;replace hO:=hO.cast (L':=[cb b2 [vi y12.Op,.sl (Ar.lst eAr4 ([])) .nil,vi y12.Typ,vi y12.Var,vi y12.cR,vi y12.Span,vi y12.cP.Op,sr eAr7 y12.cP.cO,vi y12.cP.Var,vi y12.cP.Field,vi y12.cP.Kind,vi y12.cP.Value.Kind,vi y12.cP.Value.Num,.str y12.cP.Value.Text],cb b1 [vi 0,.sl [] .nil,vi 0,vi 0,vi 0,vi 0,vi 0,.sl [] .nil,vi 0,vi 0,vi 0,vi 0,vi 0,.str (⟨#[]⟩)]]) (by simp only[ob,cb,sr,←C2]<;>rfl);replace hO:=hO.tl0 (t:=.nil) rfl;obtain⟨s15,hx,h⟩:=bind_some h;refine W3 cf77 hE M4 (γ:=D7) (fun s13 g=>[(1,.v (sr (V.int .i64) aV)),(2,.v (.eref (C0 aA) 0)),(4,.v (.ref b1 0)),(6,.v (.ref b2 0)),fi 9 s13.1]) (fun s13 g H1=>W6 g∧B8 Eq H0 [.tl g,cb b2 [vi s13.2.Op,.sl (Ar.lst eAr4 s13.2.cO) g,vi s13.2.Typ,vi s13.2.Var,vi s13.2.cR,vi s13.2.Span,vi s13.2.cP.Op,sr eAr7 y12.cP.cO,vi s13.2.cP.Var,vi s13.2.cP.Field,vi s13.2.cP.Kind,vi s13.2.cP.Value.Kind,vi s13.2.cP.Value.Num,.str s13.2.cP.Value.Text],cb b1 [vi 0,.sl [] .nil,vi 0,vi 0,vi 0,vi 0,vi 0,.sl [] .nil,vi 0,vi 0,vi 0,vi 0,vi 0,.str (⟨#[]⟩)]] H1) (fun x e l H1=>match(generalizing:=false) x with| .inl y=>∃u1:D7,W6 u1∧e= .exit 0∧l=[(4,.v (.ref b1 0)),(6,.v (.ref b2 0))]∧B8 Eq H0 [.tl u1,cb b2 [vi y.Op,.sl (Ar.lst eAr4 y.cO) u1,vi y.Typ,vi y.Var,vi y.cR,vi y.Span,vi y.cP.Op,sr eAr7 y.cP.cO,vi y.cP.Var,vi y.cP.Field,vi y.cP.Kind,vi y.cP.Value.Kind,vi y.cP.Value.Num,.str y.cP.Value.Text],cb b1 [vi 0,.sl [] .nil,vi 0,vi 0,vi 0,vi 0,vi 0,.sl [] .nil,vi 0,vi 0,vi 0,vi 0,vi 0,.str (⟨#[]⟩)]] H1| .inr y=>∃u1:D7,W6 u1∧e= .ret∧l=[(4,.v (.ref b1 0)),fi 5 y.1]∧B8 Eq H0 [.tl u1,cb b2 [vi y.2.Op,.sl (Ar.lst eAr4 y.2.cO) u1,vi y.2.Typ,vi y.2.Var,vi y.2.cR,vi y.2.Span,vi y.2.cP.Op,sr eAr7 y.2.cP.cO,vi y.2.cP.Var,vi y.2.cP.Field,vi y.2.cP.Kind,vi y.2.cP.Value.Kind,vi y.2.cP.Value.Num,.str y.2.cP.Value.Text],cb b1 [vi 0,.sl [] .nil,vi 0,vi 0,vi 0,vi 0,vi 0,.sl [] .nil,vi 0,vi 0,vi 0,vi 0,vi 0,.str (⟨#[]⟩)]] H1) (by kernel_rfl) ?_ .nil hx ?_ ?_ ?_
   ·rintro s13 t14 H o ⟨ht14,hO⟩ h;clear hx;cbv;refine D4 hE ?_;cbv;refine A8 hE h (fun _ h=>?_) fun _ h=>?_
    ·cbv;refine B9 hE eAr3 h fun x16 h=>?_;cbv;refine A4 hE h (ih x16 aV) (.refl _) fun r17 h=>?_;cbv;refine A8 hE h (fun _ h=>?_) fun _ h=>?_
     ·cbv;refine A9 hE hO 2 rfl rfl fun H hO=>?_;cbv;cases h;exact⟨_,_,rfl,⟨t14,ht14,rfl,rfl,hO⟩,.e2 .z,rfl⟩
     cbv;refine B1 hE hO 1 rfl ?_;cbv;refine Cd (f:=eAr4) hE N0 (by decide) hO 0 rfl ht14 (l:=s13.2.cO) (m:=[r17.1]) (.refl _) (.lstc (.eq (eAr3 r17.1) (.refl _)) (.lst0)) h fun l19 t18 H hO ht18 h=>?_;cbv;refine A9 hE hO 1 rfl rfl fun H hO=>?_;cbv;cases h;exact⟨_,t18,rfl,.e rfl (.e4 .z),rfl,ht18,hO⟩
    cbv;cases h;exact⟨_,_,rfl,⟨t14,ht14,rfl,rfl,hO⟩,.e2 .z,rfl⟩
   ·exact .e rfl (.e4 .z)
   ·exact⟨trivial,hO⟩
   clear hx
   rcases s15 with y20|y22
   ·rintro e l H ⟨t21,ht21,rfl,rfl,hO⟩;cbv;refine B1 hE hO 1 rfl ?_;cbv;refine A9 hE hO 2 rfl rfl fun H hO=>?_;cbv;refine B1 hE hO 2 rfl ?_;cbv;cases h;exact hK hO (.tup (.cons (.agg (.cons (.refl _) (.cons (.ro _ _) (.refl _)))) (.refl _)))
   rintro e l H ⟨t23,ht23,rfl,rfl,hO⟩;cbv;refine B1 hE hO 2 rfl ?_;cbv;cases h;exact hK hO (.tup (.cons (.agg (.cons (.refl _) (.cons (.lit _ (C2)) (.cons (.refl _) (.cons (.refl _) (.cons (.refl _) (.cons (.refl _) (.cons (.refl _) (.cons (.lit _ (C2)) (.refl _)))))))))) (.refl _)))
  rintro e l H ⟨rfl,rfl,hO⟩;cbv;refine B1 hE hO 1 rfl ?_;cbv;cases h;exact hK hO (.tup (.cons (.agg (.cons (.refl _) (.cons (.lit _ (C2)) (.cons (.refl _) (.cons (.refl _) (.cons (.refl _) (.cons (.refl _) (.cons (.refl _) (.cons (.lit _ (C2)) (.refl _)))))))))) (.refl _)))
 rintro e l H ⟨rfl,rfl,hO⟩;cbv;refine B1 hE hO 1 rfl ?_;cbv;cases h;exact hK hO (.tup (.cons (.agg (.cons (.refl _) (.cons (.lit _ (C2)) (.cons (.refl _) (.cons (.refl _) (.cons (.refl _) (.cons (.refl _) (.cons (.refl _) (.cons (.lit _ (C2)) (.refl _)))))))))) (.refl _)))
def cf78 :Cf:=⟨[4,5],[(9,10)],[(16,5)],[],[],[]⟩
theorem c78 (N:Nat):∀n aA aM r,BY N n aA aM=some r→B3 prog 78 [(B6 aA),vi aM] ((B6 r)):=by
 intro n
 induction n with
 |zero=>intro aA aM r h;cases h
 |succ n ih=>
 intro aA aM r h
 unfold BY at h
 refine I8 cf78 func78 call78 ntmps78 ?_;intro E H0 K hE hK hO;cbv;refine C3 hE hO fun b1 H hO=>?_;cbv;refine C3 hE hO fun b2 H hO=>?_;cbv;refine A9 hE hO 0 rfl rfl fun H hO=>?_;cbv;refine A9 hE hO 0 rfl rfl fun H hO=>?_;cbv;refine A4 hE h (c80 N aA) (.refl _) fun r3 h=>?_;cbv;refine A8 hE h (fun _ h=>?_) fun _ h=>?_
 ·cbv;refine XJ cf78 hE M4 (by kernel_rfl) ?_;cbv;refine A9 hE hO 0 rfl rfl fun H hO=>?_;cbv;replace hO:=hO.cast (L':=[cb b2 [vi aA.Op,.sl (Ar.lst eAr4 ([])) .nil,vi aA.Typ,vi aA.Var,vi aM,vi aA.Span,vi aA.cP.Op,sr eAr7 aA.cP.cO,vi aA.cP.Var,vi aA.cP.Field,vi aA.cP.Kind,vi aA.cP.Value.Kind,vi aA.cP.Value.Num,.str aA.cP.Value.Text],cb b1 [vi 0,.sl [] .nil,vi 0,vi 0,vi 0,vi 0,vi 0,.sl [] .nil,vi 0,vi 0,vi 0,vi 0,vi 0,.str (⟨#[]⟩)]]) (by simp only[ob,cb,sr,←C2]<;>rfl);replace hO:=hO.tl0 (t:=.nil) rfl;obtain⟨s6,hx,h⟩:=bind_some h;refine W3 cf78 hE M4 (γ:=D7) (fun s4 g=>[fi 1 s4.1,(2,.v (.eref (C0 aA) 0)),(4,.v (.ref b1 0)),(5,.v (.ref b2 0)),fi 6 s4.2.1]) (fun s4 g H1=>W6 g∧B8 Eq H0 [.tl g,cb b2 [vi s4.2.2.Op,.sl (Ar.lst eAr4 s4.2.2.cO) g,vi s4.2.2.Typ,vi s4.2.2.Var,vi s4.2.2.cR,vi s4.2.2.Span,vi s4.2.2.cP.Op,sr eAr7 aA.cP.cO,vi s4.2.2.cP.Var,vi s4.2.2.cP.Field,vi s4.2.2.cP.Kind,vi s4.2.2.cP.Value.Kind,vi s4.2.2.cP.Value.Num,.str s4.2.2.cP.Value.Text],cb b1 [vi 0,.sl [] .nil,vi 0,vi 0,vi 0,vi 0,vi 0,.sl [] .nil,vi 0,vi 0,vi 0,vi 0,vi 0,.str (⟨#[]⟩)]] H1) (fun x e l H1=>∃u1:D7,W6 u1∧e= .exit 0∧l=[(4,.v (.ref b1 0)),(5,.v (.ref b2 0))]∧B8 Eq H0 [.tl u1,cb b2 [vi x.Op,.sl (Ar.lst eAr4 x.cO) u1,vi x.Typ,vi x.Var,vi x.cR,vi x.Span,vi x.cP.Op,sr eAr7 x.cP.cO,vi x.cP.Var,vi x.cP.Field,vi x.cP.Kind,vi x.cP.Value.Kind,vi x.cP.Value.Num,.str x.cP.Value.Text],cb b1 [vi 0,.sl [] .nil,vi 0,vi 0,vi 0,vi 0,vi 0,.sl [] .nil,vi 0,vi 0,vi 0,vi 0,vi 0,.str (⟨#[]⟩)]] H1) (by kernel_rfl) ?_ .nil hx ?_ ?_ ?_
  ·rintro s4 t5 H o ⟨ht5,hO⟩ h;clear hx;cbv;refine D4 hE ?_;cbv;refine A8 hE h (fun _ h=>?_) fun _ h=>?_
   ·cbv;refine B1 hE hO 1 rfl ?_;cbv;refine B9 hE eAr3 h fun x7 h=>?_;cbv;refine D5 hE (g:=fun r8=>(B6 r8)) h (ih x7 s4.1) (.refl _) fun r8 h=>?_;cbv;refine Cd (f:=eAr4) hE N0 (by decide) hO 0 rfl ht5 (l:=s4.2.2.cO) (m:=[r8]) (.refl _) (.lstc (.eq (eAr3 r8) (.refl _)) (.lst0)) h fun l10 t9 H hO ht9 h=>?_;cbv;refine A9 hE hO 1 rfl rfl fun H hO=>?_;cbv;refine B9 hE eAr3 h fun x11 h=>?_;cbv;refine A4 hE h (c75 N N x11) (.refl _) fun r12 h=>?_;cbv;obtain⟨s14,hx,h⟩:=bind_some h;refine E3 cf78 hE M4 (fun s13=>[fi 1 s13.1,(2,.v (.eref (C0 aA) 0)),(4,.v (.ref b1 0)),(5,.v (.ref b2 0)),fi 6 s4.2.1,(7,.v (sr eAr4 r12)),fi 8 s13.2]) (fun s13 H1=>B8 Eq H0 [.tl t9,cb b2 [vi s4.2.2.Op,.sl (Ar.lst eAr4 l10) t9,vi s4.2.2.Typ,vi s4.2.2.Var,vi s4.2.2.cR,vi s4.2.2.Span,vi s4.2.2.cP.Op,sr eAr7 aA.cP.cO,vi s4.2.2.cP.Var,vi s4.2.2.cP.Field,vi s4.2.2.cP.Kind,vi s4.2.2.cP.Value.Kind,vi s4.2.2.cP.Value.Num,.str s4.2.2.cP.Value.Text],cb b1 [vi 0,.sl [] .nil,vi 0,vi 0,vi 0,vi 0,vi 0,.sl [] .nil,vi 0,vi 0,vi 0,vi 0,vi 0,.str (⟨#[]⟩)]] H1) (fun x e l H1=>e= .exit 2∧l=[fi 1 x,(2,.v (.eref (C0 aA) 0)),(4,.v (.ref b1 0)),(5,.v (.ref b2 0)),fi 6 s4.2.1]∧B8 Eq H0 [.tl t9,cb b2 [vi s4.2.2.Op,.sl (Ar.lst eAr4 l10) t9,vi s4.2.2.Typ,vi s4.2.2.Var,vi s4.2.2.cR,vi s4.2.2.Span,vi s4.2.2.cP.Op,sr eAr7 aA.cP.cO,vi s4.2.2.cP.Var,vi s4.2.2.cP.Field,vi s4.2.2.cP.Kind,vi s4.2.2.cP.Value.Kind,vi s4.2.2.cP.Value.Num,.str s4.2.2.cP.Value.Text],cb b1 [vi 0,.sl [] .nil,vi 0,vi 0,vi 0,vi 0,vi 0,.sl [] .nil,vi 0,vi 0,vi 0,vi 0,vi 0,.str (⟨#[]⟩)]] H1) (by kernel_rfl) ?_ hx ?_ hO ?_
    ·intro s13 H o hO h;clear hx;cbv;refine D4 hE ?_;cbv;refine A8 hE h (fun _ h=>?_) fun _ h=>?_
     ·cbv;refine B9 hE eAr3 h fun x15 h=>?_;cbv;refine A4 hE h (c80 N x15) (.refl _) fun r16 h=>?_;cbv;refine A8 hE h (fun _ h=>?_) fun _ h=>?_
      ·cbv;cases h;exact⟨_,rfl,.e rfl (.e2 (.e4 .z)),rfl,hO⟩
      cbv;refine B9 hE eAr3 h fun x17 h=>?_;cbv;refine A4 hE h (c81 N x17) (.refl _) fun r18 h=>?_;cbv;refine A8 hE h (fun _ h=>?_) fun _ h=>?_
      ·cbv;cases h;exact⟨_,rfl,.e rfl (.e2 (.e4 .z)),rfl,hO⟩
      cbv;cases h;exact⟨_,rfl,.e rfl (.e2 (.e4 .z)),rfl,hO⟩
     cbv;cases h;exact⟨_,_,rfl,⟨rfl,rfl,hO⟩,.e rfl (.e4 .z),rfl⟩
    ·exact .e rfl (.e2 (.e4 .z))
    clear hx;rintro e l H ⟨rfl,rfl,hO⟩;cbv;cases h;exact⟨_,t9,rfl,.e rfl (.e4 .z),rfl,ht9,hO⟩
   cbv;cases h;exact⟨_,_,rfl,⟨t5,ht5,rfl,rfl,hO⟩,.e2 .z,rfl⟩
  ·exact .e rfl (.e4 .z)
  ·exact⟨trivial,hO⟩
  clear hx;rintro e l H ⟨t19,ht19,rfl,rfl,hO⟩;cbv;refine B1 hE hO 1 rfl ?_;cbv;refine A9 hE hO 2 rfl rfl fun H hO=>?_;cbv;refine B1 hE hO 2 rfl ?_;cbv;cases h;exact hK hO (.agg (.cons (.refl _) (.cons (.ro _ _) (.refl _))))
 cbv;refine A4 hE h (c81 N aA) (.refl _) fun r20 h=>?_;cbv;obtain⟨s21,hx,h⟩:=bind_some h;refine U4 cf78 hE M4 (fun e l H1=>e= .normal∧l=[fi 1 s21.1,(2,.v (.eref (C0 aA) 0)),(4,.v (.ref b1 0)),(5,.v (.ref b2 0))]∧B8 Eq H0 [cb b2 [vi s21.2.Op,.sl [] .nil,vi s21.2.Typ,vi s21.2.Var,vi s21.2.cR,vi s21.2.Span,vi s21.2.cP.Op,sr eAr7 s21.2.cP.cO,vi s21.2.cP.Var,vi s21.2.cP.Field,vi s21.2.cP.Kind,vi s21.2.cP.Value.Kind,vi s21.2.cP.Value.Num,.str s21.2.cP.Value.Text],cb b1 [vi 0,.sl [] .nil,vi 0,vi 0,vi 0,vi 0,vi 0,.sl [] .nil,vi 0,vi 0,vi 0,vi 0,vi 0,.str (⟨#[]⟩)]] H1) (by kernel_rfl) ?_ ?_
 ·clear h;have h:=hx;clear hx;cbv;refine A8 hE h (fun _ h=>?_) fun _ h=>?_
  ·cbv;refine A9 hE hO 0 rfl rfl fun H hO=>?_;cbv;cases h;exact⟨_,⟨rfl,rfl,hO⟩,.e4 .z,rfl⟩
  cbv;cases h;exact⟨_,⟨rfl,rfl,hO⟩,.e4 .z,rfl⟩
 clear hx;rintro e l H ⟨rfl,rfl,hO⟩;cbv;replace hO:=hO.cast (L':=[cb b2 [vi s21.2.Op,.sl (Ar.lst eAr4 ([])) .nil,vi s21.2.Typ,vi s21.2.Var,vi s21.2.cR,vi s21.2.Span,vi s21.2.cP.Op,sr eAr7 s21.2.cP.cO,vi s21.2.cP.Var,vi s21.2.cP.Field,vi s21.2.cP.Kind,vi s21.2.cP.Value.Kind,vi s21.2.cP.Value.Num,.str s21.2.cP.Value.Text],cb b1 [vi 0,.sl [] .nil,vi 0,vi 0,vi 0,vi 0,vi 0,.sl [] .nil,vi 0,vi 0,vi 0,vi 0,vi 0,.str (⟨#[]⟩)]]) (by simp only[ob,cb,sr,←C2]<;>rfl);replace hO:=hO.tl0 (t:=.nil) rfl;obtain⟨s24,hx,h⟩:=bind_some h;refine W3 cf78 hE M4 (γ:=D7) (fun s22 g=>[fi 1 s22.1,(2,.v (.eref (C0 aA) 0)),(4,.v (.ref b1 0)),(5,.v (.ref b2 0)),fi 6 s22.2.1]) (fun s22 g H1=>W6 g∧B8 Eq H0 [.tl g,cb b2 [vi s22.2.2.Op,.sl (Ar.lst eAr4 s22.2.2.cO) g,vi s22.2.2.Typ,vi s22.2.2.Var,vi s22.2.2.cR,vi s22.2.2.Span,vi s22.2.2.cP.Op,sr eAr7 s21.2.cP.cO,vi s22.2.2.cP.Var,vi s22.2.2.cP.Field,vi s22.2.2.cP.Kind,vi s22.2.2.cP.Value.Kind,vi s22.2.2.cP.Value.Num,.str s22.2.2.cP.Value.Text],cb b1 [vi 0,.sl [] .nil,vi 0,vi 0,vi 0,vi 0,vi 0,.sl [] .nil,vi 0,vi 0,vi 0,vi 0,vi 0,.str (⟨#[]⟩)]] H1) (fun x e l H1=>∃u1:D7,W6 u1∧e= .exit 0∧l=[(4,.v (.ref b1 0)),(5,.v (.ref b2 0))]∧B8 Eq H0 [.tl u1,cb b2 [vi x.Op,.sl (Ar.lst eAr4 x.cO) u1,vi x.Typ,vi x.Var,vi x.cR,vi x.Span,vi x.cP.Op,sr eAr7 x.cP.cO,vi x.cP.Var,vi x.cP.Field,vi x.cP.Kind,vi x.cP.Value.Kind,vi x.cP.Value.Num,.str x.cP.Value.Text],cb b1 [vi 0,.sl [] .nil,vi 0,vi 0,vi 0,vi 0,vi 0,.sl [] .nil,vi 0,vi 0,vi 0,vi 0,vi 0,.str (⟨#[]⟩)]] H1) (by kernel_rfl) ?_ .nil hx ?_ ?_ ?_
 ·rintro s22 t23 H o ⟨ht23,hO⟩ h;clear hx;cbv;refine D4 hE ?_;cbv;refine A8 hE h (fun _ h=>?_) fun _ h=>?_
  ·cbv;refine B1 hE hO 1 rfl ?_;cbv;refine B9 hE eAr3 h fun x25 h=>?_;cbv;refine D5 hE (g:=fun r26=>(B6 r26)) h (ih x25 s22.1) (.refl _) fun r26 h=>?_;cbv;refine Cd (f:=eAr4) hE N0 (by decide) hO 0 rfl ht23 (l:=s22.2.2.cO) (m:=[r26]) (.refl _) (.lstc (.eq (eAr3 r26) (.refl _)) (.lst0)) h fun l28 t27 H hO ht27 h=>?_;cbv;refine A9 hE hO 1 rfl rfl fun H hO=>?_;cbv;refine B9 hE eAr3 h fun x29 h=>?_;cbv;refine A4 hE h (c75 N N x29) (.refl _) fun r30 h=>?_;cbv;obtain⟨s32,hx,h⟩:=bind_some h;refine E3 cf78 hE M4 (fun s31=>[fi 1 s31.1,(2,.v (.eref (C0 aA) 0)),(4,.v (.ref b1 0)),(5,.v (.ref b2 0)),fi 6 s22.2.1,(7,.v (sr eAr4 r30)),fi 8 s31.2]) (fun s31 H1=>B8 Eq H0 [.tl t27,cb b2 [vi s22.2.2.Op,.sl (Ar.lst eAr4 l28) t27,vi s22.2.2.Typ,vi s22.2.2.Var,vi s22.2.2.cR,vi s22.2.2.Span,vi s22.2.2.cP.Op,sr eAr7 s21.2.cP.cO,vi s22.2.2.cP.Var,vi s22.2.2.cP.Field,vi s22.2.2.cP.Kind,vi s22.2.2.cP.Value.Kind,vi s22.2.2.cP.Value.Num,.str s22.2.2.cP.Value.Text],cb b1 [vi 0,.sl [] .nil,vi 0,vi 0,vi 0,vi 0,vi 0,.sl [] .nil,vi 0,vi 0,vi 0,vi 0,vi 0,.str (⟨#[]⟩)]] H1) (fun x e l H1=>e= .exit 2∧l=[fi 1 x,(2,.v (.eref (C0 aA) 0)),(4,.v (.ref b1 0)),(5,.v (.ref b2 0)),fi 6 s22.2.1]∧B8 Eq H0 [.tl t27,cb b2 [vi s22.2.2.Op,.sl (Ar.lst eAr4 l28) t27,vi s22.2.2.Typ,vi s22.2.2.Var,vi s22.2.2.cR,vi s22.2.2.Span,vi s22.2.2.cP.Op,sr eAr7 s21.2.cP.cO,vi s22.2.2.cP.Var,vi s22.2.2.cP.Field,vi s22.2.2.cP.Kind,vi s22.2.2.cP.Value.Kind,vi s22.2.2.cP.Value.Num,.str s22.2.2.cP.Value.Text],cb b1 [vi 0,.sl [] .nil,vi 0,vi 0,vi 0,vi 0,vi 0,.sl [] .nil,vi 0,vi 0,vi 0,vi 0,vi 0,.str (⟨#[]⟩)]] H1) (by kernel_rfl) ?_ hx ?_ hO ?_
   ·intro s31 H o hO h;clear hx;cbv;refine D4 hE ?_;cbv;refine A8 hE h (fun _ h=>?_) fun _ h=>?_
    ·cbv;refine B9 hE eAr3 h fun x33 h=>?_;cbv;refine A4 hE h (c80 N x33) (.refl _) fun r34 h=>?_;cbv;refine A8 hE h (fun _ h=>?_) fun _ h=>?_
     ·cbv;cases h;exact⟨_,rfl,.e rfl (.e2 (.e4 .z)),rfl,hO⟩
     cbv;refine B9 hE eAr3 h fun x35 h=>?_;cbv;refine A4 hE h (c81 N x35) (.refl _) fun r36 h=>?_;cbv;refine A8 hE h (fun _ h=>?_) fun _ h=>?_
     ·cbv;cases h;exact⟨_,rfl,.e rfl (.e2 (.e4 .z)),rfl,hO⟩
     cbv;cases h;exact⟨_,rfl,.e rfl (.e2 (.e4 .z)),rfl,hO⟩
    cbv;cases h;exact⟨_,_,rfl,⟨rfl,rfl,hO⟩,.e rfl (.e4 .z),rfl⟩
   ·exact .e rfl (.e2 (.e4 .z))
   clear hx;rintro e l H ⟨rfl,rfl,hO⟩;cbv;cases h;exact⟨_,t27,rfl,.e rfl (.e4 .z),rfl,ht27,hO⟩
  cbv;cases h;exact⟨_,_,rfl,⟨t23,ht23,rfl,rfl,hO⟩,.e2 .z,rfl⟩
 ·exact .e rfl (.e4 .z)
 ·exact⟨trivial,hO⟩
 clear hx;rintro e l H ⟨t37,ht37,rfl,rfl,hO⟩;cbv;refine B1 hE hO 1 rfl ?_;cbv;refine A9 hE hO 2 rfl rfl fun H hO=>?_;cbv;refine B1 hE hO 2 rfl ?_;cbv;cases h;exact hK hO (.agg (.cons (.refl _) (.cons (.ro _ _) (.refl _))))
def cf19 :Cf:=⟨[2],[],[],[],[(57,8)],[]⟩
theorem c19 (N aA r) (h:Ca N aA=some r):B3 prog 19 [(B6 aA)] (.tup [(B6 r.1),sr (V.int .i64) r.2.1,vi r.2.2]):=by
 unfold Ca at h
 refine I8 cf19 func19 call19 ntmps19 ?_;intro E H0 K hE hK hO;cbv;refine C3 hE hO fun b1 H hO=>?_;cbv;refine A4 hE h (c73 N aA) (.refl _) fun r2 h=>?_;cbv;refine A8 hE h (fun _ h=>?_) fun _ h=>?_
 ·cbv;refine A9 hE hO 0 rfl rfl fun H hO=>?_;cbv;refine B1 hE hO 0 rfl ?_;cbv;cases h;exact hK hO (.tup (.cons (.agg (.cons (.refl _) (.cons (.lit _ (C2)) (.cons (.refl _) (.cons (.refl _) (.cons (.refl _) (.cons (.refl _) (.cons (.refl _) (.cons (.lit _ (C2)) (.refl _)))))))))) (.cons (.lit _ (C2)) (.refl _))))
 cbv;refine A4 hE h (c75 N N aA) (.refl _) fun r3 h=>?_;cbv;refine A4 hE h (c74 N r3) (.refl _) fun r4 h=>?_;cbv;refine A8 hE h (fun _ h=>?_) fun _ h=>?_
 ·cbv;refine A9 hE hO 0 rfl rfl fun H hO=>?_;cbv;refine B1 hE hO 0 rfl ?_;cbv;cases h;exact hK hO (.tup (.cons (.agg (.cons (.refl _) (.cons (.lit _ (C2)) (.cons (.refl _) (.cons (.refl _) (.cons (.refl _) (.cons (.refl _) (.cons (.refl _) (.cons (.lit _ (C2)) (.refl _)))))))))) (.cons (.lit _ (C2)) (.refl _))))
 cbv;refine A4 hE h (c76 N aA) (.refl _) fun r5 h=>?_;cbv;refine A8 hE h (fun _ h=>?_) fun _ h=>?_
 ·cbv;refine A9 hE hO 0 rfl rfl fun H hO=>?_;cbv;refine B1 hE hO 0 rfl ?_;cbv;cases h;exact hK hO (.tup (.cons (.agg (.cons (.refl _) (.cons (.lit _ (C2)) (.cons (.refl _) (.cons (.refl _) (.cons (.refl _) (.cons (.refl _) (.cons (.refl _) (.cons (.lit _ (C2)) (.refl _)))))))))) (.cons (.lit _ (C2)) (.refl _))))
 cbv;refine Ri hE (f:=(V.int .i64)) (by decide) (z0:=(0:Int)) ((.refl _)) hO h fun l7 q6 H hq6 h hO=>?_;cbv;obtain⟨s10,hx,h⟩:=bind_some h;refine W3 cf19 hE M4 (γ:=OG) (fun s8 g=>[(1,.v (.eref (C0 aA) 0)),(2,.v (.ref b1 0)),(6,.v (sr (V.int .i64) r5.1)),(8,.v (.own g.id g.lo g.n)),fi 9 s8.1]) (fun s8 g H1=>Cr g (Ar.len s8.2)∧B8 Eq H0 [ob g 1 (V.int .i64) s8.2,cb b1 [vi 0,.sl [] .nil,vi 0,vi 0,vi 0,vi 0,vi 0,.sl [] .nil,vi 0,vi 0,vi 0,vi 0,vi 0,.str (⟨#[]⟩)]] H1) (fun x e l H1=>∃u1:OG,Cr u1 (Ar.len x)∧e= .exit 0∧l=[(1,.v (.eref (C0 aA) 0)),(2,.v (.ref b1 0)),(6,.v (sr (V.int .i64) r5.1)),(8,.v (.own u1.id u1.lo u1.n))]∧B8 Eq H0 [ob u1 1 (V.int .i64) x,cb b1 [vi 0,.sl [] .nil,vi 0,vi 0,vi 0,vi 0,vi 0,.sl [] .nil,vi 0,vi 0,vi 0,vi 0,vi 0,.str (⟨#[]⟩)]] H1) (by kernel_rfl) ?_ q6 hx ?_ ?_ ?_
 ·rintro s8 q9 H o ⟨hq9,hO⟩ h;clear hx;cbv;refine Td hE hq9 ?_;cbv;refine A8 hE h (fun _ h=>?_) fun _ h=>?_
  ·cbv;refine Iw hE hO hq9 0 rfl h fun h=>?_;cbv;refine GV hE (f:=(V.int .i64)) (esz:=1) (tz:=1) (off:=0) (u:=(fun x11:Int=>(-1))) (fun _=>⟨.int .i64 (-1),.refl _,rfl,rfl,rfl⟩) (by decide) hO hq9 0 rfl h fun l12 H hq9 h hO=>?_;cbv;cases h;exact⟨_,q9,rfl,.e rfl (.e4 .z),rfl,hq9,hO⟩
  cbv;cases h;exact⟨_,_,rfl,⟨q9,hq9,rfl,rfl,hO⟩,.e4 .z,rfl⟩
 ·exact .e rfl (.e4 .z)
 ·exact⟨hq6,hO⟩
 clear hx;rintro e l H ⟨q13,hq13,rfl,rfl,hO⟩;cbv;obtain⟨s16,hx,h⟩:=bind_some h;refine W3 cf19 hE M4 (γ:=OG) (fun s14 g=>[(1,.v (.eref (C0 aA) 0)),(2,.v (.ref b1 0)),(6,.v (sr (V.int .i64) r5.1)),(8,.v (.own g.id g.lo g.n)),fi 10 s14.1]) (fun s14 g H1=>Cr g (Ar.len s14.2)∧B8 Eq H0 [ob g 1 (V.int .i64) s14.2,cb b1 [vi 0,.sl [] .nil,vi 0,vi 0,vi 0,vi 0,vi 0,.sl [] .nil,vi 0,vi 0,vi 0,vi 0,vi 0,.str (⟨#[]⟩)]] H1) (fun x e l H1=>∃u1:OG,Cr u1 (Ar.len x)∧e= .exit 2∧l=[(1,.v (.eref (C0 aA) 0)),(2,.v (.ref b1 0)),(6,.v (sr (V.int .i64) r5.1)),(8,.v (.own u1.id u1.lo u1.n))]∧B8 Eq H0 [ob u1 1 (V.int .i64) x,cb b1 [vi 0,.sl [] .nil,vi 0,vi 0,vi 0,vi 0,vi 0,.sl [] .nil,vi 0,vi 0,vi 0,vi 0,vi 0,.str (⟨#[]⟩)]] H1) (by kernel_rfl) ?_ q13 hx ?_ ?_ ?_
 ·rintro s14 q15 H o ⟨hq15,hO⟩ h;clear hx;cbv;refine D4 hE ?_;cbv;refine A8 hE h (fun _ h=>?_) fun _ h=>?_
  ·cbv;refine B9 hE (fun _=>rfl) h fun x17 h=>?_;cbv;refine Iw hE hO hq15 0 rfl h fun h=>?_;cbv;refine GV hE (f:=(V.int .i64)) (esz:=1) (tz:=1) (off:=0) (u:=(fun x18:Int=>s14.1)) (fun _=>⟨.int .i64 s14.1,.refl _,rfl,rfl,rfl⟩) (by decide) hO hq15 0 rfl h fun l19 H hq15 h hO=>?_;cbv;cases h;exact⟨_,q15,rfl,.e rfl (.e4 .z),rfl,hq15,hO⟩
  cbv;cases h;exact⟨_,_,rfl,⟨q15,hq15,rfl,rfl,hO⟩,.e4 .z,rfl⟩
 ·exact .e rfl (.e4 .z)
 ·exact⟨hq13,hO⟩
 clear hx;rintro e l H ⟨q20,hq20,rfl,rfl,hO⟩;cbv;refine XO hE hO hq20 0 rfl fun H hO=>?_;cbv;refine A4 hE h (c77 N N aA s16) (.refl _) fun r21 h=>?_;cbv;refine A8 hE h (fun _ h=>?_) fun _ h=>?_
 ·cbv;refine A9 hE hO 0 rfl rfl fun H hO=>?_;cbv;refine B1 hE hO 0 rfl ?_;cbv;cases h;exact hK hO (.tup (.cons (.agg (.cons (.refl _) (.cons (.lit _ (C2)) (.cons (.refl _) (.cons (.refl _) (.cons (.refl _) (.cons (.refl _) (.cons (.refl _) (.cons (.lit _ (C2)) (.refl _)))))))))) (.cons (.lit _ (C2)) (.refl _))))
 cbv;refine A4 hE h (c78 N N r21.1 0) (.refl _) fun r22 h=>?_;cbv;refine A9 hE hO 0 rfl rfl fun H hO=>?_;cbv;refine B1 hE hO 0 rfl ?_;cbv;cases h;exact hK hO (.refl _)
def cf21 :Cf:=⟨[],[(6,10)],[],[],[],[]⟩
theorem c21 (N:Nat):∀n aC aD r,DW N n aC aD=some r→B3 prog 21 [(B6 aC),(B6 aD)] (.bool r):=by
 intro n
 induction n with
 |zero=>intro aC aD r h;cases h
 |succ n ih=>
 intro aC aD r h
 unfold DW at h
 refine I8 cf21 func21 call21 ntmps21 ?_;intro E H0 K hE hK hO;cbv;refine A8 hE h (fun _ h=>?_) fun _ h=>?_
 ·cbv;cases h;exact hK hO (.refl _)
 cbv;refine A4 hE h (c82 N N aC.cP aD.cP) (.refl _) fun r1 h=>?_;cbv;refine D4 hE ?_;cbv;refine D4 hE ?_;cbv;refine A8 hE h (fun _ h=>?_) fun _ h=>?_
 ·cbv;cases h;exact hK hO (.refl _)
 cbv;obtain⟨s3,hx,h⟩:=bind_some h;refine E3 cf21 hE M4 (fun s2=>[(2,.v (.eref (C0 aC) 0)),(3,.v (.eref (C0 aD) 0)),fi 5 s2]) (fun s2 H1=>B8 Eq H0 [] H1) (fun x e l H1=>match(generalizing:=false) x with| .inl y=>e= .exit 0∧l=[]∧B8 Eq H0 [] H1| .inr y=>e= .ret∧l=[(4,.b false)]∧B8 Eq H0 [] H1) (by kernel_rfl) ?_ hx ?_ hO ?_
 ·intro s2 H o hO h;clear hx;cbv;refine D4 hE ?_;cbv;refine A8 hE h (fun _ h=>?_) fun _ h=>?_
  ·cbv;refine B9 hE eAr3 h fun x4 h=>?_;cbv;refine B9 hE eAr3 h fun x5 h=>?_;cbv;refine A4 hE h (ih x4 x5) (.refl _) fun r6 h=>?_;cbv;refine A8 hE h (fun _ h=>?_) fun _ h=>?_
   ·cbv;cases h;exact⟨_,_,rfl,⟨rfl,rfl,hO⟩,.b rfl (.z),rfl⟩
   cbv;cases h;exact⟨_,rfl,.e rfl (.e2 .z),rfl,hO⟩
  cbv;cases h;exact⟨_,_,rfl,⟨rfl,rfl,hO⟩,.z,rfl⟩
 ·exact .e rfl (.e2 .z)
 clear hx
 rcases s3 with y7|y8
 ·rintro e l H ⟨rfl,rfl,hO⟩;cbv;cases h;exact hK hO (.refl _)
 rintro e l H ⟨rfl,rfl,hO⟩;cbv;cases h;exact hK hO (.refl _)
def cf4 :Cf:=⟨[18,3000119,3000125],[(13,20),(23,12)],[(55,9)],[],[],[]⟩
set_option maxHeartbeats 2000000 in
theorem c4 (N aA aF bV r) (h:Ch N aA aF bV=some r):B3 prog 4 [(B6 aA),sr eAr6 aF,.int .u8 bV] (.bool r):=by
 unfold Ch at h
 refine I8 cf4 func4 call4 ntmps4 ?_;intro E H0 K hE hK hO;cbv;refine A4 hE h (c17 N aA aF) (.refl _) fun r1 h=>?_;cbv;refine A8 hE h (fun _ h=>?_) fun _ h=>?_
 ·cbv;refine A4 hE h (c13 N) (.refl _) fun r2 h=>?_;cbv;cases h;exact hK hO (.refl _)
 cbv;refine A4 hE h (c18 N aA aF) (.refl _) fun r3 h=>?_;cbv;refine Us hE (RM hE rfl) ?_;cbv;refine A4 hE h (c19 N (⟨6,[aA],0,0,0,Ar.wr .i64 (Ar.ar .rem .u8 bV 8),(⟨0,[],0,0,0,(⟨0,0,⟨#[]⟩⟩:A5)⟩:A3)⟩:A0)) (.cons (.agg (.cons (.refl _) (.cons (.lit _ (D6 ((eAr3 aA).symm) (C2))) (.cons (.refl _) (.cons (.refl _) (.cons (.refl _) (.cons (.refl _) (.cons (.refl _) (.cons (.lit _ (C2)) (.refl _)))))))))) (.refl _)) fun r4 h=>?_;cbv;refine A8 hE h (fun _ h=>?_) fun _ h=>?_
 ·cbv;cases h;exact hK hO (.refl _)
 cbv;refine A8 hE h (fun _ h=>?_) fun _ h=>?_
 ·cbv;refine A4 hE h (c20 N r4.1) (.refl _) fun r5 h=>?_;cbv;obtain⟨s6,hx,h⟩:=bind_some h;refine U4 cf4 hE M4 (fun e l H1=>match(generalizing:=false) s6 with| .inl y=>e= .normal∧l=[(1,.v (sr eAr6 aF)),(3,.v (.eref (C0 aA) 0)),(7,.v (.eref [sr eAr5 r3.1] 0))]∧B8 Eq H0 [] H1| .inr y=>e= .ret∧l=[(6,.b false)]∧B8 Eq H0 [] H1) (by kernel_rfl) ?_ ?_
  ·clear h;have h:=hx;clear hx;cbv;refine A8 hE h (fun _ h=>?_) fun _ h=>?_
   ·cbv;refine A4 hE h (c18 N r4.1 aF) (.refl _) fun r7 h=>?_;cbv;refine D4 hE ?_;cbv;replace hO:=hO.tl0 (t:=.nil) rfl;obtain⟨s10,hx,h⟩:=bind_some h;refine W3 cf4 hE M4 (γ:=D7) (fun s8 g=>[(1,.v (sr eAr6 aF)),(2,.v (.int .u8 bV)),(3,.v (.eref (C0 aA) 0)),(7,.v (.eref [sr eAr5 r3.1] 0)),(12,.v (sr eAr5 r7.1)),(13,.v (.bool r7.2)),(14,.v (.sl (Ar.lst eAr5 s8.1) g)),(62,.v (sr eAr5 r3.1)),fi 63 (Ar.len r3.1),fi 64 s8.2]) (fun s8 g H1=>W6 g∧B8 Eq H0 [.tl g] H1) (fun x e l H1=>∃u1:D7,W6 u1∧e= .exit 0∧l=[(1,.v (sr eAr6 aF)),(3,.v (.eref (C0 aA) 0)),(7,.v (.eref [sr eAr5 r3.1] 0)),(12,.v (sr eAr5 r7.1)),(13,.v (.bool r7.2)),(14,.v (.sl (Ar.lst eAr5 x) u1))]∧B8 Eq H0 [.tl u1] H1) (by kernel_rfl) ?_ .nil hx ?_ ?_ ?_
    ·rintro s8 t9 H o ⟨ht9,hO⟩ h;clear hx;cbv;refine A8 hE h (fun _ h=>?_) fun _ h=>?_
     ·cbv;refine B9 hE eAs4 h fun x11 h=>?_;cbv;refine D4 hE ?_;cbv;refine B9 hE eAs5 h fun x12 h=>?_;cbv;refine B9 hE eAs5 h fun x13 h=>?_;cbv;refine Us hE (RM hE rfl) ?_;cbv;refine A8 hE h (fun _ h=>?_) fun _ h=>?_
      ·cbv;refine Cd (f:=eAr5) hE JQ (by decide) hO 0 rfl ht9 (l:=s8.1) (m:=[x11]) (.refl _) (.lstc (.eq (eAs4 x11) (.refl _)) (.lst0)) h fun l15 t14 H hO ht14 h=>?_;cbv;cases h;exact⟨_,t14,rfl,.e2 (.e4 (.e4 .z)),rfl,ht14,hO⟩
      cbv;cases h;exact⟨_,t9,rfl,.e2 (.e4 (.e4 .z)),rfl,ht9,hO⟩
     cbv;cases h;exact⟨_,_,rfl,⟨t9,ht9,rfl,rfl,hO⟩,.e2 (.e4 .z),rfl⟩
    ·exact .e2 (.e4 (.v (.slt _ (.lst0)) (.e rfl (.e rfl (.e rfl (.z))))))
    ·exact⟨trivial,hO⟩
    clear hx;rintro e l H ⟨t16,ht16,rfl,rfl,hO⟩;cbv;refine A8 hE h (fun _ h=>?_) fun _ h=>?_
    ·cbv;cases h;exact⟨_,⟨rfl,rfl,hO.tail⟩,.b rfl (.z),rfl⟩
    cbv;refine A4 hE h (c16 N r7.1 s10) (.cons (.refl _) (.cons (.ro _ _) (.refl _))) fun r17 h=>?_;cbv;refine A8 hE h (fun _ h=>?_) fun _ h=>?_
    ·cbv;cases h;exact⟨_,⟨rfl,rfl,hO.tail⟩,.b rfl (.z),rfl⟩
    cbv;cases h;exact⟨_,⟨rfl,rfl,hO.tail⟩,.e rfl (.e2 .z),rfl⟩
   cbv;cases h;exact⟨_,⟨rfl,rfl,hO⟩,.e rfl (.e2 .z),rfl⟩
  clear hx
  rcases s6 with y18|y38
  ·rintro e l H ⟨rfl,rfl,hO⟩;cbv;refine A8 hE h (fun _ h=>?_) fun _ h=>?_
   ·cbv;refine A4 hE h (c13 N) (.refl _) fun r19 h=>?_;cbv;cases h;exact hK hO (.refl _)
   cbv;refine D4 hE ?_;cbv;obtain⟨s21,hx,h⟩:=bind_some h;refine E3 cf4 hE M4 (fun s20=>[(1,.v (sr eAr6 aF)),(3,.v (.eref (C0 aA) 0)),(7,.v (.eref [sr eAr5 r3.1] 0)),(107,.v (sr eAr4 aA.cO)),fi 108 (Ar.len aA.cO),fi 109 s20]) (fun s20 H1=>B8 Eq H0 [] H1) (fun x e l H1=>match(generalizing:=false) x with| .inl y=>e= .exit 2∧l=[]∧B8 Eq H0 [] H1| .inr y=>e= .ret∧l=[(6,.b false)]∧B8 Eq H0 [] H1) (by kernel_rfl) ?_ hx ?_ hO ?_
   ·intro s20 H o hO h;clear hx;cbv;refine A8 hE h (fun _ h=>?_) fun _ h=>?_
    ·cbv;refine B9 hE eAr3 h fun x22 h=>?_;cbv;refine C3 hE hO fun b23 H hO=>?_;cbv;refine A9 hE hO 0 rfl rfl fun H hO=>?_;cbv;refine HF hE (f:=eAr4) N0 h fun l24 t25 h=>?_;cbv;refine Kc (f:=eAr4) hE N0 (by decide) (l:=[]) (m:=l24) (.lst0) (.refl _) h fun l26 h=>?_;cbv;refine HF hE (f:=eAr4) N0 h fun l27 t28 h=>?_;cbv;refine Kc (f:=eAr4) hE N0 (by decide) (l:=l26) (m:=l27) (.refl _) (.refl _) h fun l29 h=>?_;cbv;refine B1 hE hO 0 rfl ?_;cbv;refine A4 hE h (c19 N x22) (.refl _) fun r30 h=>?_;cbv;refine A8 hE h (fun _ h=>?_) fun _ h=>?_
     ·cbv;cases h;exact⟨_,rfl,.e2 (.e4 .z),rfl,hO.tail⟩
     cbv;refine A4 hE h (c20 N r30.1) (.refl _) fun r31 h=>?_;cbv;refine B1 hE hO 0 rfl ?_;cbv;refine A8 hE h (fun _ h=>?_) fun _ h=>?_
     ·cbv;cases h;exact⟨_,rfl,.e2 (.e4 .z),rfl,hO.tail⟩
     cbv;refine A4 hE h (c21 N N r30.1 x22) (.refl _) fun r32 h=>?_;cbv;refine A8 hE h (fun _ h=>?_) fun _ h=>?_
     ·cbv;cases h;exact⟨_,rfl,.e2 (.e4 .z),rfl,hO.tail⟩
     cbv;refine B1 hE hO 0 rfl ?_;cbv;refine A4 hE h (c18 N x22 aF) (.refl _) fun r33 h=>?_;cbv;refine D4 hE ?_;cbv;refine A8 hE h (fun _ h=>?_) fun _ h=>?_
     ·cbv;cases h;exact⟨_,_,rfl,⟨rfl,rfl,hO.tail⟩,.b rfl (.z),rfl⟩
     cbv;refine A4 hE (g:=fun r34=>.bool r34) h (fun r34 hx=>c22 N r33.1 (.func (.func 23) [] [.eref [sr eAr5 r3.1] 0]) (fun y1=>J5 N y1 r3.1) (fun y1 r hx=>B3.value (F:=[]) (C:=[.eref [sr eAr5 r3.1] 0]) (c23 N y1 r3.1 r hx)) r34 hx) (.refl _) fun r34 h=>?_;cbv;refine A8 hE h (fun _ h=>?_) fun _ h=>?_
     ·cbv;cases h;exact⟨_,_,rfl,⟨rfl,rfl,hO.tail⟩,.b rfl (.z),rfl⟩
     cbv;cases h;exact⟨_,rfl,.e2 (.e4 .z),rfl,hO.tail⟩
    cbv;cases h;exact⟨_,_,rfl,⟨rfl,rfl,hO⟩,.z,rfl⟩
   ·exact .e2 (.e4 .z)
   clear hx
   rcases s21 with y35|y37
   ·rintro e l H ⟨rfl,rfl,hO⟩;cbv;refine A4 hE h (c13 N) (.refl _) fun r36 h=>?_;cbv;cases h;exact hK hO (.refl _)
   rintro e l H ⟨rfl,rfl,hO⟩;cbv;cases h;exact hK hO (.refl _)
  rintro e l H ⟨rfl,rfl,hO⟩;cbv;cases h;exact hK hO (.refl _)
 cbv;refine XJ cf4 hE M4 (by kernel_rfl) ?_;cbv;refine A8 hE h (fun _ h=>?_) fun _ h=>?_
 ·cbv;refine A4 hE h (c13 N) (.refl _) fun r39 h=>?_;cbv;cases h;exact hK hO (.refl _)
 cbv;refine D4 hE ?_;cbv;obtain⟨s41,hx,h⟩:=bind_some h;refine E3 cf4 hE M4 (fun s40=>[(1,.v (sr eAr6 aF)),(3,.v (.eref (C0 aA) 0)),(7,.v (.eref [sr eAr5 r3.1] 0)),(107,.v (sr eAr4 aA.cO)),fi 108 (Ar.len aA.cO),fi 109 s40]) (fun s40 H1=>B8 Eq H0 [] H1) (fun x e l H1=>match(generalizing:=false) x with| .inl y=>e= .exit 2∧l=[]∧B8 Eq H0 [] H1| .inr y=>e= .ret∧l=[(6,.b false)]∧B8 Eq H0 [] H1) (by kernel_rfl) ?_ hx ?_ hO ?_
 ·intro s40 H o hO h;clear hx;cbv;refine A8 hE h (fun _ h=>?_) fun _ h=>?_
  ·cbv;refine B9 hE eAr3 h fun x42 h=>?_;cbv;refine C3 hE hO fun b43 H hO=>?_;cbv;refine A9 hE hO 0 rfl rfl fun H hO=>?_;cbv;refine HF hE (f:=eAr4) N0 h fun l44 t45 h=>?_;cbv;refine Kc (f:=eAr4) hE N0 (by decide) (l:=[]) (m:=l44) (.lst0) (.refl _) h fun l46 h=>?_;cbv;refine HF hE (f:=eAr4) N0 h fun l47 t48 h=>?_;cbv;refine Kc (f:=eAr4) hE N0 (by decide) (l:=l46) (m:=l47) (.refl _) (.refl _) h fun l49 h=>?_;cbv;refine B1 hE hO 0 rfl ?_;cbv;refine A4 hE h (c19 N x42) (.refl _) fun r50 h=>?_;cbv;refine A8 hE h (fun _ h=>?_) fun _ h=>?_
   ·cbv;cases h;exact⟨_,rfl,.e2 (.e4 .z),rfl,hO.tail⟩
   cbv;refine A4 hE h (c20 N r50.1) (.refl _) fun r51 h=>?_;cbv;refine B1 hE hO 0 rfl ?_;cbv;refine A8 hE h (fun _ h=>?_) fun _ h=>?_
   ·cbv;cases h;exact⟨_,rfl,.e2 (.e4 .z),rfl,hO.tail⟩
   cbv;refine A4 hE h (c21 N N r50.1 x42) (.refl _) fun r52 h=>?_;cbv;refine A8 hE h (fun _ h=>?_) fun _ h=>?_
   ·cbv;cases h;exact⟨_,rfl,.e2 (.e4 .z),rfl,hO.tail⟩
   cbv;refine B1 hE hO 0 rfl ?_;cbv;refine A4 hE h (c18 N x42 aF) (.refl _) fun r53 h=>?_;cbv;refine D4 hE ?_;cbv;refine A8 hE h (fun _ h=>?_) fun _ h=>?_
   ·cbv;cases h;exact⟨_,_,rfl,⟨rfl,rfl,hO.tail⟩,.b rfl (.z),rfl⟩
   cbv;refine A4 hE (g:=fun r54=>.bool r54) h (fun r54 hx=>c22 N r53.1 (.func (.func 23) [] [.eref [sr eAr5 r3.1] 0]) (fun y1=>J5 N y1 r3.1) (fun y1 r hx=>B3.value (F:=[]) (C:=[.eref [sr eAr5 r3.1] 0]) (c23 N y1 r3.1 r hx)) r54 hx) (.refl _) fun r54 h=>?_;cbv;refine A8 hE h (fun _ h=>?_) fun _ h=>?_
   ·cbv;cases h;exact⟨_,_,rfl,⟨rfl,rfl,hO.tail⟩,.b rfl (.z),rfl⟩
   cbv;cases h;exact⟨_,rfl,.e2 (.e4 .z),rfl,hO.tail⟩
  cbv;cases h;exact⟨_,_,rfl,⟨rfl,rfl,hO⟩,.z,rfl⟩
 ·exact .e2 (.e4 .z)
 clear hx
 rcases s41 with y55|y57
 ·rintro e l H ⟨rfl,rfl,hO⟩;cbv;refine A4 hE h (c13 N) (.refl _) fun r56 h=>?_;cbv;cases h;exact hK hO (.refl _)
 rintro e l H ⟨rfl,rfl,hO⟩;cbv;cases h;exact hK hO (.refl _)
end Go.Ab
namespace Go.Ab
variable [Ar]
def N4 (N:Nat) (aG:List A3) (aT:A3→Option Bool):Option Int:=
 (loopN
  (fun(s1:Int)=>
   (
    if Ar.cmp .lss s1 (Ar.len aG)=true then
     (B7 aG s1).bind fun x3=>
     (aT x3).bind fun r4=>
     if r4=true then
      some (.inr (.inr s1))
     else
      some (.inl (Ar.ar .add .i64 s1 1))
    else
     some (.inr (.inl ()))
    :Option ((Int) ⊕ (Unit ⊕ Int))))
  N 0).bind fun s2=>
 match s2 with
 | .inl y5=>
  some (-1)
 | .inr y6=>
  some y6
def I1 (N:Nat)(aG:List A3)(aT:A3→Option Bool):Option Bool:=
 (N4 N aG aT).bind fun r1=>
 some (Ar.cmp .geq r1 0)
end Go.Ab
namespace Go.Ab
open Go.RowKit Go.Proofs Go.Proofs.Tryz H6
variable [Ar][H6]
set_option maxRecDepth 100000
theorem c122 (N:Nat) (aG:List A3) (aU:V) (aT:A3→Option Bool) (bC:∀y1 q,aT y1=some q→Q7 prog aU [(G0 y1)] (.bool q)) (r:Int) (h:N4 N aG aT=some r):B3 prog 122 [sr eAr7 aG,aU] (vi r):=by
 unfold N4 at h
 refine I8 cf0 func122 call122 ntmps122 ?_;intro E H0 K hE hK hO;cbv;refine D4 hE ?_;cbv;obtain⟨s2,hx,h⟩:=bind_some h;refine E3 cf0 hE M4 (fun s1=>[(0,.v (sr eAr7 aG)),(1,.v (aU)),fi 7 (Ar.len aG),fi 8 s1]) (fun s1 H1=>B8 Eq H0 [] H1) (fun x e l H1=>match(generalizing:=false) x with| .inl y=>e= .exit 0∧l=[]∧B8 Eq H0 [] H1| .inr y=>e= .ret∧l=[fi 4 y]∧B8 Eq H0 [] H1) (by kernel_rfl) ?_ hx ?_ hO ?_
 ·intro s1 H o hO h;clear hx;cbv;refine A8 hE h (fun _ h=>?_) fun _ h=>?_
  ·cbv;refine B9 hE eAs1 h fun x3 h=>?_;cbv;refine Y5 hE (g:=fun r4=>.bool r4) h (fun r4 hx=>bC x3 r4 hx) (.refl _) fun r4 h=>?_;cbv;refine A8 hE h (fun _ h=>?_) fun _ h=>?_
   ·cbv;cases h;exact⟨_,_,rfl,⟨rfl,rfl,hO⟩,.e rfl .z,rfl⟩
   cbv;cases h;exact⟨_,rfl,.e4 .z,rfl,hO⟩
  cbv;cases h;exact⟨_,_,rfl,⟨rfl,rfl,hO⟩,.z,rfl⟩
 ·exact .e4 .z
 clear hx
 rcases s2 with y5|y6
 ·rintro e l H ⟨rfl,rfl,hO⟩;cbv;cases h;exact hK hO (.refl _)
 rintro e l H ⟨rfl,rfl,hO⟩;cbv;cases h;exact hK hO (.refl _)
theorem c55 (N:Nat)(aG:List A3)(aU:V)(aT:A3→Option Bool)(bC:∀y1 q,aT y1=some q→Q7 prog aU [(G0 y1)] (.bool q))(r:Bool)(h:I1 N aG aT=some r):B3 prog 55 [sr eAr7 aG,aU] (.bool r):=by
 unfold I1 at h
 refine I8 cf0 func55 call55 ntmps55 ?_;intro E H0 K hE hK hO;cbv;refine A4 hE h (c122 N aG aU aT bC) (.refl _) fun r1 h=>?_;cbv;cases h;exact hK hO (.refl _)
end Go.Ab
namespace Go.Ab
open Go.RowKit Go.ChangeShapes Go.WideShapes
variable [I5]
def g0 (W:World):Gh:=⟨fun _=>none,fun _=>⟨0,0,0⟩,fun _=>none,fun b o=>∃v,W.cell? ⟨b,o,none⟩=some v,0,W.heap.size⟩
theorem rl0 {W:World}(hg:∀n,VR (g0 W) W (.pointer (some ⟨n,0,none⟩)) (I5.gl n)):Rl (g0 W) (fun _=>none) W:=
 ⟨fun id b h=>(by cases h),fun id id' b h=>(by simp[Gh.at]at h),fun b o h=>h,fun id _=>⟨rfl,rfl,rfl⟩,Nat.le_refl _,hg⟩
def Ds (g:Gh)(w:World)(cs:List Value)(xs:List V):Prop:=
 cs.length=xs.length∧∀i,i<xs.length→(cs.getD i undef).oneCell'=true∧VR g w (cs.getD i undef) (xs.getD i .bad)
theorem Ds.nil (g:Gh)(w:World):Ds g w [] []:=⟨rfl,fun i hi=>by simp at hi⟩
theorem Ds.one {g:Gh}{w:World}{v:Value}{x:V}(h1:v.oneCell'=true)(h:VR g w v x):Ds g w [v] [x]:=by
 refine⟨rfl,fun i hi=>?_⟩
 have:i=0:=by simpa using hi
 subst this;exact⟨h1,h⟩
theorem Ds.append {g:Gh} {w:World} {cs ds:List Value} {xs ys:List V} (h:Ds g w cs xs) (k:Ds g w ds ys):Ds g w (cs++ds) (xs++ys):=by
 refine⟨by simp[h.1,k.1],fun i hi=>?_⟩;have hl:=h.1
 simp only[List.length_append]at hi
 by_cases hx:i<xs.length
 ·have e1:(cs++ds).getD i undef=cs.getD i undef:=by simp[List.getD,List.getElem?_append_left (show i<cs.length by omega)]
  have e2:(xs++ys).getD i .bad=xs.getD i .bad:=by simp[List.getD,List.getElem?_append_left hx]
  rw[e1,e2];exact h.2 i hx
 have e1:(cs++ds).getD i undef=ds.getD (i - xs.length) undef:=by simp[List.getD,List.getElem?_append_right (show cs.length≤i by omega),hl]
 have e2:(xs++ys).getD i .bad=ys.getD (i - xs.length) .bad:=by simp[List.getD,List.getElem?_append_right (show xs.length≤i by omega)]
 rw[e1,e2];exact k.2 _ (by omega)
theorem Ds.join {g:Gh}{w:World}{cs:List Value}{xs ys:List V}{a n m:Nat}(h:Ds g w ((cs.drop a).take n) xs)(k:Ds g w ((cs.drop (a+n)).take m) ys):Ds g w ((cs.drop a).take (n+m)) (xs++ys):=by
 have:=h.append k
 rwa[show(cs.drop (a+n))=(cs.drop a).drop n by rw[List.drop_drop],←List.take_add]at this
theorem Ds.agg {g:Gh} {w:World} {cs:Array Value} {xs:List V} (h:Ds g w cs.toList xs):VR g w (.agg cs) (.agg xs):=by
 refine .agg (by simpa using h.1) (fun i hi=>?_) fun i hi=>?_
 ·have:=(h.2 i hi).1
  simpa[List.getD,Array.getD_eq_getD_getElem?]using this
 have:=(h.2 i hi).2
 simpa[List.getD,Array.getD_eq_getD_getElem?]using this
section
variable {H α:Type}{enc:TypeId×Value→H}{P:Program}{W:World}{base:Nat}{spare:Nat→Bool}{held:Bool}{t e:TypeId}{n:Nat}
def Opens (enc:TypeId×Value→H)(P:Program)(W:World)(base:Nat)(spare:Nat→Bool)(held:Bool)(t:TypeId)(f:α→V)(R:α→DataW H→Prop)(n:Nat):Prop:=
 ∀cs x,DataW.trod enc P W base spare held n t cs=some x→∃a,Ds (g0 W) W cs (f a).cells∧R a x.1
theorem Ka {k:IntKind}(ht:P.underlying t=some (.int k)):Opens enc P W base spare held t (V.int k) (fun a d=>d= .lit (.int k a)) n:=by
 intro cs x h;obtain⟨a,rfl,rfl,_⟩:=DataW.trod_int ht h;exact⟨a,.one rfl (.int _ _),rfl⟩
theorem FJ (ht:P.underlying t=some .bool):Opens enc P W base spare held t V.bool (fun a d=>d= .lit (.bool a)) n:=by
 intro cs x h;obtain⟨a,rfl,rfl⟩:=DataW.trod_bool ht h;exact⟨a,.one rfl (.bool _),rfl⟩
theorem VN (ht:P.underlying t=some .string):Opens enc P W base spare held t V.str (fun a d=>d= .lit (.string a.data.toList)∧a.size≤maxLen) n:=by
 intro cs x h;obtain⟨a,rfl,rfl,hl⟩:=DataW.trod_string ht h;exact⟨a,.one rfl (.str _),rfl,hl⟩
def RL (R:α→DataW H→Prop)(l:List α)(ds:List (DataW H)):Prop:=l.length=ds.length∧∀(i:Nat) a d,l[i]? =some a→ds[i]? =some d→R a d
def RS (R:α→DataW H→Prop)(l:List α)(d:DataW H):Prop:=l.length≤maxLen∧((d= .nil∧l=[])∨∃es sp,d= .slice es sp∧RL R l es)
theorem ED {f:α→V} {R:α→DataW H→Prop} (ht:P.underlying t=some (.slice e)) (hc:0<P.cellsOf e) (he:Opens enc P W base spare held e f R n):
 Opens enc P W base spare held t (fun l:List α=>.sl (l.map f) .ro) (RS R) (n+1):=by
 intro cs x h
 rcases DataW.trod_slice ht h with⟨rfl,rfl⟩|⟨a,len,cap,elems,rest,n',hn,rfl,rfl,hb,hl,hm,hlen,hel,hsp,hns⟩
 ·exact⟨[],.one rfl (.sl0 rfl),Nat.zero_le _,.inl ⟨rfl,rfl⟩⟩
 have hn':n'=n:=by omega
 subst hn'
 rcases Nat.eq_zero_or_pos len with h0|h0
 ·subst h0;have:elems=[]:=List.length_eq_zero_iff.1 hlen;subst this;exact⟨[],.one rfl (.sle (.inl rfl)),Nat.zero_le _,.inr ⟨_,_,rfl,rfl,fun i a d hi=>by simp at hi⟩⟩
 have one:∀i,i<len→∃cs' y b,W.cells? base (a.add (i*P.cellsOf e)) (P.cellsOf e)=some cs'∧elems[i]? =some y∧Ds (g0 W) W cs' (f b).cells∧R b y.1:=by
  intro i hi;have h1:=hel i hi
  have h2:elems[i]? =some (elems[i]'(by omega)):=by simp[hlen,hi]
  rw[h2]at h1
  obtain⟨cs',hcs,hy⟩:=Option.bind_eq_some_iff.1 h1;obtain⟨b,hr,hR⟩:=he cs' _ hy;exact⟨cs',_,b,hcs,h2,hr,hR⟩
 obtain⟨_,_,b0,_⟩:=one 0 h0
 haveI:Inhabited α:=⟨b0⟩
 obtain⟨A,hA⟩:=Deep.choose_lt (α:=α) (p:=fun i b=>∃cs' y,W.cells? base (a.add (i*P.cellsOf e)) (P.cellsOf e)=some cs'∧elems[i]? =some y∧Ds (g0 W) W cs' (f b).cells∧R b y.1)
  (fun i hi=>let⟨cs',y,b,h1,h2,h3,h4⟩:=one i hi;⟨b,cs',y,h1,h2,h3,h4⟩)
 have hspot:a.spot=none:=by
  obtain⟨cs',y,h1,_,_,_⟩:=hA 0 h0;obtain⟨_,hcl,hcell⟩:=World.cells?_some h1;have h2:=hcell 0 hc
  have e0:(a.add (0*P.cellsOf e)).add 0=a:=by simp[Addr.add]
  rw[e0]at h2
  have h3:cs'[0]? =some (cs'[0]'(by omega)):=by simp[hcl,hc]
  rw[h3]at h2
  unfold World.cell? at h2
  split at h2
  ·split at h2
   ·cases h2
   rename_i hs;simpa using hs
  cases h2
 obtain⟨b,o,s⟩:=a
 simp only at hspot
 subst hspot
 let l:=(List.range len).map A
 have hll:l.length=len:=by simp[l]
 have hg:∀i,i<len→(l.map f).getD i .bad=f (A i):=fun i hi=>by simp[l,List.getD,hi]
 have cell:∀i j,i<len→j<P.cellsOf e→∃v,W.cell? ⟨b,o+i*P.cellsOf e+j,none⟩=some v∧v.oneCell'=true∧VR (g0 W) W v ((f (A i)).cells.getD j .bad):=by
  intro i j hi hj;obtain⟨cs',y,h1,_,hr,_⟩:=hA i hi;obtain⟨_,hcl,hcell⟩:=World.cells?_some h1;have h2:=hcell j hj
  rw[W1,W1]at h2
  have h3:cs'[j]? =some (cs'.getD j undef):=by simp[List.getD,hcl,hj]
  rw[h3]at h2
  have:=hr.2 j (by rw[←hr.1,hcl];exact hj);exact⟨_,h2,this.1,this.2⟩
 refine⟨l,.one rfl ?_,by omega,.inr ⟨_,_,rfl,by simp[hll,hlen],fun i a' d hi hd=>?_⟩⟩
 ·have hz:∀i,i<len→((l.map f).getD i .bad).cells.length=P.cellsOf e:=fun i hi=>by
   obtain⟨cs',y,h1,_,hr,_⟩:=hA i hi;obtain⟨_,hcl,_⟩:=World.cells?_some h1;rw[hg i hi,←hr.1,hcl]
  refine .sl (sz:=P.cellsOf e) (fun i j=>(W.cell? ⟨b,o+i*P.cellsOf e+j,none⟩).getD undef) (by simp[hll]) hl hz (fun i j hi hj=>?_) (fun i j hi hj=>?_) (fun i j hi hj=>?_) (fun i j hi hj=>?_) trivial
  ·obtain⟨v,h1,_⟩:=cell i j hi hj;exact⟨v,h1⟩
  ·obtain⟨v,h1,_⟩:=cell i j hi hj;rw[h1];rfl
  ·obtain⟨v,h1,h2,_⟩:=cell i j hi hj;rw[h1];exact h2
  obtain⟨v,h1,h2,h3⟩:=cell i j hi hj;rw[h1,hg i hi];exact h3
 have hi':i<len:=by
  rcases Nat.lt_or_ge i l.length with h|h
  ·omega
  rw[List.getElem?_eq_none h]at hi;cases hi
 obtain⟨cs',y,h1,h2,h3,h4⟩:=hA i hi'
 have e1:a'=A i:=by simp[l,hi']at hi;exact hi.symm
 have e2:d=y.1:=by simp[h2]at hd;exact hd.symm
 rw[e1,e2];exact h4
theorem Ty {fs:Array Field} {xs:List (DataW H×List MemPlace)} {cs:List Value} {n:Nat} (hl:xs.length=fs.size)
 (hf:∀(i:Nat) (f:Field),fs[i]? =some f→DataW.trod enc P W base spare held n f.type ((cs.drop f.offset).take (P.cellsOf f.type))=xs[i]?) (i:Nat) {f:Field} (h:fs[i]? =some f):
 ∃y,xs[i]? =some y∧DataW.trod enc P W base spare held n f.type ((cs.drop f.offset).take (P.cellsOf f.type))=some y:=by
 have hi:i<fs.size:=by
  rcases Nat.lt_or_ge i fs.size with h'|h'
  ·exact h'
  rw[Array.getElem?_eq_none h']at h;cases h
 have h1:xs[i]? =some (xs[i]'(by omega)):=by simp[hl,hi]
 exact⟨_,h1,by rw[hf i f h,h1]⟩
end
end Go.Ab
namespace Go.Ab
noncomputable instance arInst :Ar where
 cmp:=Kn
 cmp_eq:=fun _ _ _=>rfl
 ar:=arI
 ar_eq:=fun _ _ _ _=>rfl
 sh:=shI
 sh_eq:=fun _ _ _ _=>rfl
 neg:=fun k n=>k.wrap (0 - n)
 neg_eq:=fun _ _=>rfl
 wr:=fun k n=>k.wrap n
 wr_eq:=fun _ _=>rfl
 scmp:=Ak3
 scmp_eq:=fun _ _ _=>rfl
 cat:=fun a b=>a++b
 cat_eq:=fun _ _=>rfl
 slen:=fun s=>s.size
 slen_eq:=fun _=>rfl
 sat:=fun s i=>match s[i.toNat]? with|some b=>(b.toNat:Int)|none=>0
 sat_eq:=fun _ _=>rfl
 beq:=fun a b=>a==b
 beq_eq:=fun _ _=>rfl
 nt:=fun a=> !a
 nt_eq:=fun _=>rfl
 an:=fun a b=>a&&b
 an_eq:=fun _ _=>rfl
 or:=fun a b=>a||b
 or_eq:=fun _ _=>rfl
 pk:=fun c a b=>if c then a else b
 pk_eq:=fun _ _ _=>rfl
 mx:=fun a b=>if a<b then b else a
 mx_eq:=fun _ _=>rfl
 mn:=fun a b=>if b<a then b else a
 mn_eq:=fun _ _=>rfl
 ofs:=fun a b=>a+b
 ofs_eq:=fun _ _=>rfl
 ofN:=fun n=>n
 ofN_eq:=fun _=>rfl
 len:=fun l=>l.length
 len_eq:=fun _=>rfl
 lst:=fun f l=>l.map f
 lst_eq:=fun _ _=>rfl
end Go.Ab
namespace Go.Ab
theorem C1 (a b:Int):Ar.cmp .lss a b=decide (a<b):=rfl
theorem DF (a b:Int):Ar.cmp .leq a b=decide (a≤b):=rfl
theorem Bg (a b:Int):Ar.cmp .gtr a b=decide (b<a):=rfl
theorem K2 (a b:Int):Ar.cmp .geq a b=decide (b≤a):=rfl
theorem C4 (a b:Int):Ar.cmp .eql a b=decide (a=b):=rfl
theorem H9 (a b:Int):Ar.cmp .neq a b= !decide (a=b):=rfl
theorem U3 (a:Bool):Ar.nt a= !a:=rfl
theorem L4 (a b:Bool):Ar.an a b=(a&&b):=rfl
theorem M9 (a b:Bool):Ar.or a b=(a||b):=rfl
theorem B5 {α:Type}(l:List α):Ar.len l=(l.length:Int):=rfl
theorem GX (a b:Int):Ar.mx a b=if a<b then b else a:=rfl
theorem Qs (s:ByteArray):Ar.slen s=(s.size:Int):=rfl
theorem CV {n:Int} (h0: -9223372036854775808≤n) (h1:n<9223372036854775808):IntKind.wrap .i64 n=n:=by
 have e:IntKind.wrap .i64 n=(if n % 18446744073709551616≥9223372036854775808 then n % 18446744073709551616 - 18446744073709551616 else n % 18446744073709551616):=by
  unfold IntKind.wrap;simp[IntKind.bits,IntKind.signed]
 rw[e]
 split<;>omega
theorem C5 {a b:Int}(h0: -9223372036854775808≤a+b)(h1:a+b<9223372036854775808):Ar.ar .add .i64 a b=a+b:=CV h0 h1
theorem Rp {S σ R α:Type} (l:List α) (hl:l.length<1000000000000) (step:S→Option (S ⊕ R)) (mk:σ→Int→S) (body:σ→α→Option (σ ⊕ R)) (fin:σ→R)
 (hstep:∀s (i:Nat) x,l[i]? =some x→step (mk s i)=(body s x).bind fun o=>match o with| .inl s'=>some (.inl (mk s' (i+1)))| .inr r=>some (.inr r))
 (hend:∀s,step (mk s l.length)=some (.inr (fin s))):
 ∀(k:Nat) (i:Nat) (s:σ) (N:Nat),i+k=l.length→k<N→loopN step N (mk s i)=(H7 body (l.drop i) s).bind fun o=>match o with| .inl s=>some (fin s)| .inr r=>some r:=by
 intro k
 induction k with
 |zero=>
  intro i s N hi hN;obtain⟨N,rfl⟩:∃M,N=M+1:=⟨N - 1,by omega⟩;have e:l.drop i=[]:=List.drop_eq_nil_of_le (by omega)
  have ei:((i:Nat):Int)=l.length:=by omega
  rw[e,ei];simp only[loopN,hend,H7,Option.bind_some]
 | succ k ih=>
  intro i s N hi hN;obtain⟨N,rfl⟩:∃M,N=M+1:=⟨N - 1,by omega⟩
  have hlt:i<l.length:=by omega
  have hx:l[i]? =some l[i]:=by simp[hlt]
  have e:l.drop i=l[i]::l.drop (i+1):=List.drop_eq_getElem_cons hlt;rw[e];simp only[loopN,hstep s i _ hx,H7]
  cases hb:body s l[i]with
  |none=>rfl
  | some o=>
   cases o with
   |inl s'=>
    simp only[Option.bind_some];have:=ih (i+1) s' N (by omega) (by omega);rw[show((i:Int)+1)=((i+1:Nat):Int) by omega];exact this
   |inr r=>rfl
theorem D9 {α:Type}{l:List α}{i:Nat}:B7 l (i:Int)=l[i]? :=by simp[B7]
theorem Po {β S σ R α:Type} (l:List α) (step:S→Option (List β×(S ⊕ R))) (mk:σ→Int→S) (body:σ→α→Option (List β×(σ ⊕ R))) (fin:σ→R)
 (hstep:∀s (i:Nat) x,l[i]? =some x→step (mk s i)=(body s x).bind fun o=>match o with|(w,.inl s')=>some (w,.inl (mk s' (i+1)))|(w,.inr r)=>some (w,.inr r))
 (hend:∀s,step (mk s l.length)=some ([],.inr (fin s))):
 ∀(k:Nat) (i:Nat) (s:σ) (N:Nat),i+k=l.length→k<N→W0 step N (mk s i)=(Bk body (l.drop i) s).bind fun o=>match o with|(w,.inl s)=>some (w,fin s)|(w,.inr r)=>some (w,r):=by
 intro k
 induction k with
 |zero=>
  intro i s N hi hN;obtain⟨N,rfl⟩:∃M,N=M+1:=⟨N - 1,by omega⟩;have e:l.drop i=[]:=List.drop_eq_nil_of_le (by omega)
  have ei:((i:Nat):Int)=l.length:=by omega
  rw[e,ei];simp only[W0,hend,Bk,Option.bind_some]
 | succ k ih=>
  intro i s N hi hN;obtain⟨N,rfl⟩:∃M,N=M+1:=⟨N - 1,by omega⟩
  have hlt:i<l.length:=by omega
  have hx:l[i]? =some l[i]:=by simp[hlt]
  have e:l.drop i=l[i]::l.drop (i+1):=List.drop_eq_getElem_cons hlt;rw[e];simp only[W0,hstep s i _ hx,Bk]
  cases hb:body s l[i]with
  |none=>rfl
  | some o=>
   obtain⟨w,o⟩:=o
   cases o with
   | inl s'=>
    simp only[Option.bind_some];have:=ih (i+1) s' N (by omega) (by omega);rw[show((i:Int)+1)=((i+1:Nat):Int) by omega,this]
    cases hr:Bk body (l.drop (i+1)) s' with
    |none=>rfl
    |some q=>
     obtain⟨w',o'⟩:=q;cases o'<;>rfl
   |inr r=>rfl
theorem I7 {S σ R α:Type} (l:List α) (hl:l.length<1000000000000) {step:S→Option (S ⊕ R)} (mk:σ→Int→S) (body:σ→α→Option (σ ⊕ R)) (fin:σ→R) (s:σ) {N:Nat} (hN:l.length<N)
 (hstep:∀s (i:Nat) x,l[i]? =some x→(i:Int)<l.length→step (mk s i)=(body s x).bind fun o=>match o with| .inl s'=>some (.inl (mk s' (i+1)))| .inr r=>some (.inr r))
 (hend:∀s,step (mk s l.length)=some (.inr (fin s))):loopN step N (mk s 0)=(H7 body l s).bind fun o=>match o with| .inl s=>some (fin s)| .inr r=>some r:=by
 have:=Rp l hl step mk body fin (fun s i x h=>hstep s i x h (by
  rcases Nat.lt_or_ge i l.length with h'|h'
  ·omega
  rw[List.getElem?_eq_none h']at h;cases h)) hend l.length 0 s N (by omega) hN
 simpa using this
theorem Ti {β S σ R α:Type} (l:List α) {step:S→Option (List β×(S ⊕ R))} (mk:σ→Int→S) (body:σ→α→Option (List β×(σ ⊕ R))) (fin:σ→R) (s:σ) {N:Nat} (hN:l.length<N)
 (hstep:∀s (i:Nat) x,l[i]? =some x→(i:Int)<l.length→step (mk s i)=(body s x).bind fun o=>match o with|(w,.inl s')=>some (w,.inl (mk s' (i+1)))|(w,.inr r)=>some (w,.inr r))
 (hend:∀s,step (mk s l.length)=some ([],.inr (fin s))):W0 step N (mk s 0)=(Bk body l s).bind fun o=>match o with|(w,.inl s)=>some (w,fin s)|(w,.inr r)=>some (w,r):=by
 have:=Po l step mk body fin (fun s i x h=>hstep s i x h (by
  rcases Nat.lt_or_ge i l.length with h'|h'
  ·omega
  rw[List.getElem?_eq_none h']at h;cases h)) hend l.length 0 s N (by omega) hN
 simpa using this
theorem Z0 {α σ R:Type} {step:σ→α→Option (σ ⊕ R)} (I:List α→σ→Prop) (hs:∀x r s,I (x::r) s→∃s',step s x=some (.inl s')∧I r s'):∀{l:List α} {s:σ},I l s→∃s',H7 step l s=some (.inl s')∧I [] s'
 |[],s,h=>⟨s,rfl,h⟩
 |x::l,s,h=>by
  obtain⟨s',h1,h2⟩:=hs x l s h;obtain⟨s2,h3,h4⟩:=Z0 I hs h2;exact⟨s2,by simp only[H7,h1,h3],h4⟩
theorem Ma {α β σ R:Type} {step:σ→α→Option (List β×(σ ⊕ R))} (I:List α→List β→σ→Prop) (hs:∀x r w s,I (x::r) w s→∃w' s',step s x=some (w',.inl s')∧I r (w++w') s'):
 ∀{l:List α} {w:List β} {s:σ},I l w s→∃w' s',Bk step l s=some (w',.inl s')∧I [] (w++w') s'
 |[],w,s,h=>⟨[],s,rfl,by simpa using h⟩
 |x::l,w,s,h=>by
  obtain⟨w1,s1,h1,h2⟩:=hs x l w s h;obtain⟨w2,s2,h3,h4⟩:=Ma I hs h2;exact⟨w1++w2,s2,by simp only[Bk,h1,h3],by rw[←List.append_assoc];exact h4⟩
def V5 {α:Type}(f:α→Int):List α→Int
 |[]=>0
 |x::l=>if f x=0 then V5 f l else f x
theorem Z3 {α:Type} {f:α→Int}:∀{l:List α},V5 f l=0↔∀x∈l,f x=0
 |[]=>by simp[V5]
 |x::l=>by
  unfold V5
  split
  ·rename_i h;rw[Z3];simp[h]
  rename_i h;simp[h]
theorem KU {α:Type} {f:α→Int}:∀{l m:List α},V5 f (l++m)=if V5 f l=0 then V5 f m else V5 f l
 |[],m=>by simp[V5]
 |x::l,m=>by
  simp only[List.cons_append,V5]
  split
  ·rw[KU]
  rename_i h;simp[h]
theorem NO {α:Type} {F:α→Option Int} {f:α→Int}:∀{l:List α},(∀x∈l,F x=some (f x))→
 H7 (fun(_:Unit) x=>(F x).bind fun r=>if Ar.cmp .neq r 0=true then some (Sum.inr r)else some (.inl ())) l ()=some (if V5 f l=0 then .inl ()else .inr (V5 f l))
 |[],_=>rfl
 | x::l,h=>by
  have h1:=NO (l:=l) fun y hy=>h y (by simp[hy]);unfold H7;simp only[h x (by simp),Option.bind_some,H9,V5]
  by_cases hz:f x=0
  ·simp only[hz,decide_true,Bool.not_true,Bool.false_eq_true,if_false,if_true]
   simpa only[H9]using h1
  simp[hz]
noncomputable def Ax {α:Type}(F:α→Option Int)(_:Unit)(a:α):Option (Unit ⊕ (Unit ⊕ Int)):=(F a).bind fun r=>if Ar.cmp .neq r 0=true then some (.inr (.inr r))else some (.inl ())
theorem Y1 {α:Type} {F:α→Option Int} {f:α→Int}:∀{l:List α},(∀x∈l,F x=some (f x))→H7 (Ax F) l ()=some (if V5 f l=0 then .inl ()else .inr (.inr (V5 f l)))
 |[],_=>rfl
 |x::l,h=>by
  have h1:=Y1 (l:=l) fun y hy=>h y (by simp[hy]);unfold H7 Ax;simp only[h x (by simp),Option.bind_some,H9,V5]
  by_cases hz:f x=0
  ·simp only[hz,decide_true,Bool.not_true,Bool.false_eq_true,if_false,if_true];exact h1
  simp[hz]
end Go.Ab
namespace Go.Ab
open Go.RowKit Go.ChangeShapes Go.WideShapes
variable [I5]
section
variable {H α:Type}{enc:TypeId×Value→H}{P:Program}{W:World}{base:Nat}{spare:Nat→Bool}{held:Bool}{t e:TypeId}{n:Nat}
theorem NJ {cs:List Value} {sz:Nat} {f:α→V}:∀(l:List α) (o:Nat),(∀(i:Nat) a,l[i]? =some a→Ds (g0 W) W ((cs.drop (o+i*sz)).take sz) (f a).cells)→Ds (g0 W) W ((cs.drop o).take (l.length*sz)) (l.flatMap fun a=>(f a).cells)
 |[],o,_=>by simp;exact .nil _ _
 | a::l,o,h=>by
  have h0:=h 0 a rfl
  rw[Nat.zero_mul,Nat.add_zero]at h0
  have h1:=NJ l (o+sz) fun i b hi=>by
   have:=h (i+1) b (by simpa using hi)
   rwa[show o+(i+1)*sz=o+sz+i*sz by rw[Nat.add_mul];omega]at this
  have:=h0.join h1;rw[List.length_cons,List.flatMap_cons,show(l.length+1)*sz=sz+l.length*sz by rw[Nat.add_mul];omega];exact this
theorem Rc {f:α→V} {R:α→DataW H→Prop} {m:Nat} (ht:P.underlying t=some (.array m e)) (hct:P.cellsOf t=m*P.cellsOf e) (hm:0<m) (he:∀n,Opens enc P W base spare held e f R n) {cs:List Value} {x:DataW H×List MemPlace}
 (h:DataW.trod enc P W base spare held n t cs=some x):∃l:List α,Ds (g0 W) W cs (l.flatMap fun a=>(f a).cells)∧∃ds,x.1= .agg ds∧RL R l ds:=by
 cases n with
 |zero=>simp[DataW.trod]at h
 | succ n=>
  simp only[DataW.trod,ht]at h
  split at h
  ·rename_i hl;obtain⟨xs,hmm,rfl⟩:=Option.map_eq_some_iff.1 h
   have hxl:xs.length=m:=by simpa using mapM_some_length hmm
   have one:∀i,i<m→∃b,Ds (g0 W) W ((cs.drop (i*P.cellsOf e)).take (P.cellsOf e)) (f b).cells∧∀y,xs[i]? =some y→R b y.1:=by
    intro i hi;have h1:=mapM_some_get hmm i i (by simp[hi])
    have h2:xs[i]? =some (xs[i]'(by omega)):=by simp[hxl,hi]
    rw[h2]at h1
    obtain⟨b,hr,hR⟩:=he n _ _ h1;exact⟨b,hr,fun y hy=>by rw[h2]at hy;cases hy;exact hR⟩
   obtain⟨b0,_⟩:=one 0 hm
   haveI:Inhabited α:=⟨b0⟩
   obtain⟨A,hA⟩:=Deep.choose_lt one
   have hat:∀(i:Nat) a,((List.range m).map A)[i]? =some a→i<m∧a=A i:=fun i a hi=>by
    rcases Nat.lt_or_ge i m with hlt|hge
    ·simp[hlt]at hi;exact⟨hlt,hi.symm⟩
    rw[List.getElem?_eq_none (by simpa using hge)]at hi;cases hi
   refine⟨(List.range m).map A,?_,_,rfl,by simp[hxl],fun i a d hi hd=>?_⟩
   ·have:=NJ (cs:=cs) (sz:=P.cellsOf e) (f:=f) (W:=W) ((List.range m).map A) 0 (fun i a hi=>by
     obtain⟨h1,rfl⟩:=hat i a hi
     simpa using(hA i h1).1)
    simpa[List.take_of_length_le,hl,hct]using this
   obtain⟨h1,rfl⟩:=hat i a hi
   simp only[List.getElem?_map,Option.map_eq_some_iff]at hd
   obtain⟨y,hy,rfl⟩:=hd;exact(hA i h1).2 y hy
  cases h
theorem Rx {g:Nat} {cs:Array Value} {xs:List V} {name:String} (hg:P.globalNamed name=some g) (hv:W.var? P name=some cs) (hr:Ds (g0 W) W cs.toList xs):VR (g0 W) W (.pointer (some ⟨g,0,none⟩)) (.eref xs 0):=by
 have cell:∀j,j<xs.length→W.cell? ⟨g,0+j,none⟩=some (cs.toList.getD j undef):=fun j hj=>by
  have h1:=World.var?_cell hg hv j
  have h2:j<cs.size:=by have:=hr.1;simp at this;omega
  rw[Nat.zero_add,h1];simp[List.getD,h2]
 exact .eref (g:=g0 W) (o:=0) (off:=0) (fun j=>cs.toList.getD j undef) (fun j hj=>(⟨_,cell j hj⟩:∃v,W.cell? ⟨g,0+j,none⟩=some v)) (fun j hj=>cell j hj) (fun j hj=>(hr.2 j hj).1) fun j hj=>(hr.2 j hj).2
end
end Go.Ab
namespace Go.Ab
open Go.RowKit Go.ChangeShapes Go.WideShapes
variable [I5]
section
variable {H:Type}{enc:TypeId×Value→H}{P:Program}{W:World}{base:Nat}{spare:Nat→Bool}{held:Bool}{t e:TypeId}{n:Nat}
end
end Go.Ab
namespace Go.Ab
variable [Ar]
def Ba (N:Nat):Nat→A3→List Bool→Option (List Bool)
 |0,_,_=>none
 | n +1,aB,aF=>
  (BH N aB.Op).bind fun r1=>
  (if Ar.an (Ar.an r1.1 (Ar.cmp .geq aB.Var 0)) (Ar.cmp .lss aB.Var (Ar.len aF))=true then
   (QI (Yl aF aB.Var)).bind fun _=>
   (FC aF aB.Var (fun _=>true)).bind fun l3=>
   some l3
  else
   some aF).bind fun l2=>
  (loopN
   (fun(s1:(Int×(List Bool)))=>
    (
     if Ar.cmp .lss s1.1 (Ar.len aB.cO)=true then
      (B7 aB.cO s1.1).bind fun x3=>
      (Ba N n x3 s1.2).bind fun l4=>
      some (.inl (Ar.ar .add .i64 s1.1 1,l4))
     else
      some (.inr s1.2)
     :Option ((Int×(List Bool)) ⊕ (List Bool))))
   N (0,l2)).bind fun s5=>
  some s5
def M7 (N:Nat) (aB:A3):Option (List Int):=
 (Sh 16 16 (false:Bool)).bind fun l2=>
 (Ba N N aB l2).bind fun l3=>
 (loopN
  (fun(s4:(List Int)×Int)=>
   (
    if Ar.cmp .lss s4.2 (Ar.len l3)=true then
     (QI (Yl l3 s4.2)).bind fun _=>
     (B7 l3 s4.2).bind fun x7=>
     if x7=true then
      (N6 s4.1 ([s4.2])).bind fun l9=>
      some (.inl (l9,Ar.ar .add .i64 s4.2 1))
     else
      some (.inl (s4.1,Ar.ar .add .i64 s4.2 1))
    else
     some (.inr s4.1)
    :Option (((List Int)×Int) ⊕ (((List Int))))))
  N ([],0)).bind fun s6=>
 some s6
def Q6 (N:Nat):Nat→A3→Option Bool
 |0,_=>none
 | n+1,aB=>
  if Ar.or (Ar.cmp .eql aB.Op 3) (Ar.cmp .eql aB.Op 4)=true then
   some true
  else
   (I1 N aB.cO (fun y1=>Q6 N n y1)).bind fun r1=>
   some r1
def W2 (N:Nat) (aG:List Int) (aJ:Int):Option Int:=
 (loopN
  (fun(s1:Int)=>
   (
    if Ar.cmp .lss s1 (Ar.len aG)=true then
     (B7 aG s1).bind fun x3=>
     if Ar.cmp .eql aJ x3=true then
      some (.inr (.inr s1))
     else
      some (.inl (Ar.ar .add .i64 s1 1))
    else
     some (.inr (.inl ()))
    :Option ((Int) ⊕ (Unit ⊕ Int))))
  N 0).bind fun s2=>
 match s2 with
 | .inl y4=>
  some (-1)
 | .inr y5=>
  some y5
def G8 (N:Nat)(aG:List Int)(aJ:Int):Option Bool:=
 (W2 N aG aJ).bind fun r1=>
 some (Ar.cmp .geq r1 0)
def P6 (N:Nat) (aG:List Int) (aT:Int→Option Bool):Option Int:=
 (loopN
  (fun(s1:Int)=>
   (
    if Ar.cmp .lss s1 (Ar.len aG)=true then
     (B7 aG s1).bind fun x3=>
     (aT x3).bind fun r4=>
     if r4=true then
      some (.inr (.inr s1))
     else
      some (.inl (Ar.ar .add .i64 s1 1))
    else
     some (.inr (.inl ()))
    :Option ((Int) ⊕ (Unit ⊕ Int))))
  N 0).bind fun s2=>
 match s2 with
 | .inl y5=>
  some (-1)
 | .inr y6=>
  some y6
def J0 (N:Nat)(aG:List Int)(aT:Int→Option Bool):Option Bool:=
 (P6 N aG aT).bind fun r1=>
 some (Ar.cmp .geq r1 0)
def Ao (N:Nat)(aJ:Int):Option Bool:=
 some (Ar.cmp .neq aJ 1)
def V0 (N:Nat) (aB:A3):Option (A3×Bool):=
 (M7 N aB).bind fun r2=>
 (J0 N r2 (fun y1=>Ao N y1)).bind fun r3=>
 if r3=true then
  some (aB,false)
 else
  (Cb N aB ([0,0])).bind fun r4=>
  some (r4.1,Ar.cmp .eql r4.2 0)
def S6 (N : Nat) (aI:A0) (aN:A0) (aF:List A6):Option Bool:=
 if Ar.or (Ar.or (Ar.or (Ar.cmp .neq aI.Op 0) (Ar.cmp .neq aN.Op 0)) (Ar.cmp .neq aI.Var 0)) (Ar.cmp .gtr (Ar.len aF) 8)=true then
  (E4 N).bind fun r2=>
  some r2
 else
  (Ag N aI aF).bind fun r3=>
  if Ar.nt r3=true then
   (E4 N).bind fun r4=>
   some r4
  else
   (F2 N aI aF).bind fun r5=>
   (F2 N (⟨4,[aI],0,0,0,0,(⟨0,[],0,0,0,(⟨0,0,⟨#[]⟩⟩:A5)⟩:A3)⟩:A0) aF).bind fun r6=>
   if Ar.or (Ar.nt r5.2) (Ar.nt r6.2)=true then
    some false
   else
    (M7 N aI.cP).bind fun r7=>
    (loopN
     (fun(s8:Int)=>
      (
       if Ar.cmp .lss s8 (Ar.len r7)=true then
        (B7 r7 s8).bind fun x10=>
        if Ar.cmp .neq x10 0=true then
         (E4 N).bind fun r11=>
         some (.inr (.inr r11))
        else
         some (.inl (Ar.ar .add .i64 s8 1))
       else
        some (.inr (.inl ()))
       :Option ((Int) ⊕ (Unit ⊕ Bool))))
     N 0).bind fun s9=>
    match s9 with
    | .inl y12 =>
     (Q6 N N aI.cP).bind fun r13=>
     if Ar.nt r13 =true then
      (QI (Ar.cmp .geq (Ar.len r5.1) 0)).bind fun _=>
      if Ar.cmp .neq (Ar.len r6.1) (Ar.ar .sub .i64 (Ar.sh .shl .i64 1 (Ar.len r5.1)) 1)=true then
       some false
      else
       (Ag N (⟨1,[aI,{aN with Var:=1}],0,0,0,0,(⟨0,[],0,0,0,(⟨0,0,⟨#[]⟩⟩:A5)⟩:A3)⟩:A0) aF).bind fun r14=>
       if Ar.nt r14=true then
        (E4 N).bind fun r15=>
        some r15
       else
        (M7 N aN.cP).bind fun r16=>
        (G8 N r16 0).bind fun r17=>
        if r17=true then
         (E4 N).bind fun r18=>
         some r18
        else
         (F2 N (⟨1,[aI,{aN with Var:=1}],0,0,0,0,(⟨0,[],0,0,0,(⟨0,0,⟨#[]⟩⟩:A5)⟩:A3)⟩:A0) aF).bind fun r19=>
         (V0 N aN.cP).bind fun r20=>
         if Ar.or (Ar.nt r19.2) (Ar.nt r20.2)=true then
          if r19.2=true then
           (E4 N).bind fun r21=>
           some r21
          else
           some false
         else
          (F2 N ({aN with Var:=0,cP:=r20.1}) aF).bind fun r22=>
          (loopN
           (fun (s23:Int×Int)=>
            (
             if Ar.cmp .lss s23.2 (Ar.len r5.1)=true then
              (B7 r5.1 s23.2).bind fun x25=>
              (loopN
               (fun(s26:Int×Int)=>
                (
                 if Ar.cmp .lss s26.2 (Ar.len r22.1)=true then
                  (B7 r22.1 s26.2).bind fun x28=>
                  (B7 x25.cQ 0).bind fun x29=>
                  (B7 x28.cQ 0).bind fun x30=>
                  (R6 N x29.Ref x30.Ref).bind fun r31=>
                  if Ar.cmp .lss r31 0=true then
                   some (.inl (Ar.ar .add .i64 s26.1 1,Ar.ar .add .i64 s26.2 1))
                  else
                   some (.inl (s26.1,Ar.ar .add .i64 s26.2 1))
                 else
                  some (.inr s26.1)
                 :Option ((Int×Int) ⊕ (Int))))
               N (s23.1,0)).bind fun s27=>
              some (.inl (s27,Ar.ar .add .i64 s23.2 1))
             else
              some (.inr s23.1)
             :Option ((Int×Int) ⊕ (Int))))
           N (0,0)).bind fun s24=>
          if Ar.an r22.2 (Ar.cmp .eql s24 (Ar.len r19.1))=true then
           (E4 N).bind fun r32=>
           some r32
          else
           some false
     else
      (Ag N (⟨1,[aI,{aN with Var:=1}],0,0,0,0,(⟨0,[],0,0,0,(⟨0,0,⟨#[]⟩⟩:A5)⟩:A3)⟩:A0) aF).bind fun r33=>
      if Ar.nt r33=true then
       (E4 N).bind fun r34=>
       some r34
      else
       (M7 N aN.cP).bind fun r35=>
       (G8 N r35 0).bind fun r36=>
       if r36=true then
        (E4 N).bind fun r37=>
        some r37
       else
        (F2 N (⟨1,[aI,{aN with Var:=1}],0,0,0,0,(⟨0,[],0,0,0,(⟨0,0,⟨#[]⟩⟩:A5)⟩:A3)⟩:A0) aF).bind fun r38=>
        (V0 N aN.cP).bind fun r39=>
        if Ar.or (Ar.nt r38.2) (Ar.nt r39.2)=true then
         if r38.2=true then
          (E4 N).bind fun r40=>
          some r40
         else
          some false
        else
         (F2 N ({aN with Var:=0,cP:=r39.1}) aF).bind fun r41=>
         (loopN
          (fun (s42:Int×Int)=>
           (
            if Ar.cmp .lss s42.2 (Ar.len r5.1)=true then
             (B7 r5.1 s42.2).bind fun x44=>
             (loopN
              (fun(s45:Int×Int)=>
               (
                if Ar.cmp .lss s45.2 (Ar.len r41.1)=true then
                 (B7 r41.1 s45.2).bind fun x47=>
                 (B7 x44.cQ 0).bind fun x48=>
                 (B7 x47.cQ 0).bind fun x49=>
                 (R6 N x48.Ref x49.Ref).bind fun r50=>
                 if Ar.cmp .lss r50 0=true then
                  some (.inl (Ar.ar .add .i64 s45.1 1,Ar.ar .add .i64 s45.2 1))
                 else
                  some (.inl (s45.1,Ar.ar .add .i64 s45.2 1))
                else
                 some (.inr s45.1)
                :Option ((Int×Int) ⊕ (Int))))
              N (s42.1,0)).bind fun s46=>
             some (.inl (s46,Ar.ar .add .i64 s42.2 1))
            else
             some (.inr s42.1)
            :Option ((Int×Int) ⊕ (Int))))
          N (0,0)).bind fun s43=>
         if Ar.an r41.2 (Ar.cmp .eql s43 (Ar.len r38.1))=true then
          (E4 N).bind fun r51=>
          some r51
         else
          some false
    | .inr y52=>
     some y52
end Go.Ab
