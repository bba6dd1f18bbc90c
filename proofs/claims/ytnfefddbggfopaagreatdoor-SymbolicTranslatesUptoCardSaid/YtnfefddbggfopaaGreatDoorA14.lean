/- . -/
import Derived.Test.YtnfefddbggfopaaGreatDoorA13
set_option linter.all false
open Go.Ab.Ar (ar lst mx nt_eq)
namespace Go.Ab
open Go.RowKit Go.Proofs Go.Proofs.Tryz L7
variable [Ar][L7]
set_option maxRecDepth 100000
def GK (N:Nat):∀n,AH7 N n∧Ba8 N n∧Ba7 N n∧Ba6 N n∧Ba5 N n∧Ba4 N n∧Ba3 N n:=by
 intro n
 induction n with
 |zero=>exact⟨(by intro aA r h;unfold L3 at h;cases h),(by intro aA r h;unfold Ah at h;cases h),(by intro bU bV r h;unfold S7 at h;cases h),(by intro aA r h;unfold BN at h;cases h),(by intro aH r h;unfold W3 at h;cases h),(by intro aH aU r h;unfold T3 at h;cases h),(by intro aH r h;unfold AK at h;cases h)⟩
 |succ n ih=>
  obtain⟨ih150,ih184,ih185,ih186,ih213,ih216,ih217⟩:=ih;exact⟨k150 N n ih184 ih185 ih186,k184 N n ih213,k185 N n ih216,k186 N n ih217,k213 N n ih150,k216 N n ih150,k217 N n ih150⟩
def c150 (N n aA r)(h:L3 N n aA=some r):Fg prog 150 [(C9 aA)] (fun v=>Jm prog v (r.map fun(x:(C4×A6))=>[(K1 x.1),(C2 x.2)])):=(GK N n).1 aA r h
def c187 (N:Nat) (aC:List C4) (aY:V) (aS:C4→Option Bool) (bH:∀y1 q,aS y1=some q→AM prog aY [(K1 y1)] (.bool q)) (r:Int) (h:U7 N aC aS=some r):C3 prog 187 [sr eBg9 aC,aY] (vi r):=by
 refine N2 A8 func187 call187 ntmps187 ?_;intro E H0 K hE hK hO;cbv;apply G9 hE;cbv;obtain⟨s2,hx,h⟩:=A7 h;refine H5 A8 hE J6 (fun s1=>[(0,.v (sr eBg9 aC)),(1,.v (aY)),fi 7 (Ar.len aC),fi 8 s1]) (fun s1 H1=>B6 Eq H0 [] H1) (fun x e l H1=>match(generalizing:=false) x with| .inl y=>e= .exit 0∧l=[]∧B6 Eq H0 [] H1| .inr y=>e= .ret∧l=[fi 4 y]∧B6 Eq H0 [] H1) (by kernel_rfl) ?_ hx ?_ hO ?_
 ·intro s1 H o hO h
  repeat' (cbv;first|apply B7 hE h<;>intro _ h|refine DI hE (g:=fun r4=>.bool r4) h (fun r4 hx=>bH x3 r4 hx) .z fun r4 h=>?_|refine D8 hE eBi6 h fun x3 h=>?_|(cases h;exact⟨_,_,rfl,⟨rfl,rfl,hO⟩,.e rfl .z,rfl⟩)|(cases h;exact⟨_,rfl,.e4 .z,rfl,hO⟩)|(cases h;exact⟨_,_,rfl,⟨rfl,rfl,hO⟩,.z,rfl⟩))
 ·exact .e4 .z
 clear hx
 rcases s2 with y5|y6
 ·rintro e l H ⟨rfl,rfl,hO⟩;cbv;cases h;exact hK hO .z
 rintro e l H ⟨rfl,rfl,hO⟩;cbv;cases h;exact hK hO .z
def c151 (N:Nat)(aC:List C4)(aY:V)(aS:C4→Option Bool)(bH:∀y1 q,aS y1=some q→AM prog aY [(K1 y1)] (.bool q))(r:Bool)(h:F3 N aC aS=some r):C3 prog 151 [sr eBg9 aC,aY] (.bool r):=by
 refine N2 A8 func151 call151 ntmps151 ?_;intro E H0 K hE hK hO;cbv;refine A9 hE h (c187 N aC aY aS bH) .z fun r1 h=>?_;cbv;cases h;exact hK hO .z
def cf189:=cfB [] [(6,8)]
def c189 (N aT aW r) (h:S9 N aT aW=some r):C3 prog 189 [sr (V.int .i64) aT,sr (V.int .i64) aW] (.bool r):=by
 refine N2 cf189 func189 call189 ntmps189 ?_;intro E H0 K hE hK hO
 repeat' (cbv;first|apply B7 hE h<;>intro _ h|apply G9 hE|(cases h;exact hK hO .z))
 cbv;obtain⟨s2,hx,h⟩:=A7 h;refine H5 cf189 hE J6 (fun s1=>[(0,.v (sr (V.int .i64) aT)),(1,.v (sr (V.int .i64) aW)),fi 12 (Ar.len aT),fi 13 s1]) (fun s1 H1=>B6 Eq H0 [] H1) (fun x e l H1=>match(generalizing:=false) x with| .inl y=>e= .exit 0∧l=[]∧B6 Eq H0 [] H1| .inr y=>e= .ret∧l=[(4,.b false)]∧B6 Eq H0 [] H1) (by kernel_rfl) ?_ hx ?_ hO ?_
 ·intro s1 H o hO h
  repeat' (cbv;first|apply B7 hE h<;>intro _ h|refine D8 hE (fun _=>rfl) h fun _ h=>?_|(cases h;exact⟨_,_,rfl,⟨rfl,rfl,hO⟩,.b rfl (.z),rfl⟩)|(cases h;exact⟨_,rfl,.e4 .z,rfl,hO⟩)|(cases h;exact⟨_,_,rfl,⟨rfl,rfl,hO⟩,.z,rfl⟩))
 ·exact .e4 .z
 clear hx
 rcases s2 with y5|y6
 ·rintro e l H ⟨rfl,rfl,hO⟩;cbv;cases h;exact hK hO .z
 rintro e l H ⟨rfl,rfl,hO⟩;cbv;cases h;exact hK hO .z
def cf190:=cfA [8]
def c190 (N:Nat) (aT:List B1) (aW:List B1) (bX:V) (bO:B1→B1→Option Bool) (cO:∀y1 y2 q,bO y1 y2=some q→AM prog bX [(U9 y1),(U9 y2)] (.bool q)) (r:Bool) (h:O1 N aT aW bO=some r):C3 prog 190 [sr eBh2 aT,sr eBh2 aW,bX] (.bool r):=by
 refine N2 cf190 func190 call190 ntmps190 ?_;intro E H0 K hE hK hO
 repeat' (cbv;first|apply B7 hE h<;>intro _ h|apply G9 hE|(cases h;exact hK hO .z))
 cbv;obtain⟨s2,hx,h⟩:=A7 h;refine H5 cf190 hE J6 (fun s1=>[(1,.v (sr eBh2 aW)),(2,.v (bX)),(15,.v (sr eBh2 aT)),fi 16 (Ar.len aT),fi 17 s1]) (fun s1 H1=>B6 Eq H0 [] H1) (fun x e l H1=>match(generalizing:=false) x with| .inl y=>e= .exit 0∧l=[]∧B6 Eq H0 [] H1| .inr y=>e= .ret∧l=[(6,.b false)]∧B6 Eq H0 [] H1) (by kernel_rfl) ?_ hx ?_ hO ?_
 ·intro s1 H o hO h;cbv;apply B7 hE h<;>intro _ h
  ·cbv;refine D8 hE eBi0 h fun x3 h=>?_
   repeat' (cbv;first|apply B7 hE h<;>intro _ h|refine DI hE (g:=fun r6=>.bool r6) h (fun r6 hx=>cO x3 x5 r6 hx) .z fun r6 h=>?_|refine D8 hE eBi0 h fun x5 h=>?_|apply D0 hE hO 0 rfl|refine B9 hE hO 0 rfl rfl fun H hO=>?_|refine E5 hE hO fun _ H hO=>?_|(cases h;exact⟨_,_,rfl,⟨rfl,rfl,hO.tail⟩,.b rfl (.z),rfl⟩)|(cases h;exact⟨_,rfl,.e rfl (.e4 .z),rfl,hO.tail⟩))
  cbv;cases h;exact⟨_,_,rfl,⟨rfl,rfl,hO⟩,.z,rfl⟩
 ·exact .e rfl (.e4 .z)
 clear hx
 rcases s2 with y7|y8
 ·rintro e l H ⟨rfl,rfl,hO⟩;cbv;cases h;exact hK hO .z
 rintro e l H ⟨rfl,rfl,hO⟩;cbv;cases h;exact hK hO .z
def cf191:=cfB [] [(6,8)]
def c191 (N aT aW r) (h:W0 N aT aW=some r):C3 prog 191 [sr eBi1 aT,sr eBi1 aW] (.bool r):=by
 refine N2 cf191 func191 call191 ntmps191 ?_;intro E H0 K hE hK hO
 repeat' (cbv;first|apply B7 hE h<;>intro _ h|apply G9 hE|(cases h;exact hK hO .z))
 cbv;obtain⟨s2,hx,h⟩:=A7 h;refine H5 cf191 hE J6 (fun s1=>[(0,.v (sr eBi1 aT)),(1,.v (sr eBi1 aW)),fi 12 (Ar.len aT),fi 13 s1]) (fun s1 H1=>B6 Eq H0 [] H1) (fun x e l H1=>match(generalizing:=false) x with| .inl y=>e= .exit 0∧l=[]∧B6 Eq H0 [] H1| .inr y=>e= .ret∧l=[(4,.b false)]∧B6 Eq H0 [] H1) (by kernel_rfl) ?_ hx ?_ hO ?_
 ·intro s1 H o hO h
  repeat' (cbv;first|apply B7 hE h<;>intro _ h|refine D8 hE eBj6 h fun _ h=>?_|(cases h;exact⟨_,_,rfl,⟨rfl,rfl,hO⟩,.b rfl (.z),rfl⟩)|(cases h;exact⟨_,rfl,.e4 .z,rfl,hO⟩)|(cases h;exact⟨_,_,rfl,⟨rfl,rfl,hO⟩,.z,rfl⟩))
 ·exact .e4 .z
 clear hx
 rcases s2 with y5|y6
 ·rintro e l H ⟨rfl,rfl,hO⟩;cbv;cases h;exact hK hO .z
 rintro e l H ⟨rfl,rfl,hO⟩;cbv;cases h;exact hK hO .z
def c153 (N aD aE r)(h:Bx N aD aE=some r):C3 prog 153 [(K1 aD),(K1 aE)] (.bool r):=by
 refine N2 A8 func153 call153 ntmps153 ?_;intro E H0 K hE hK hO
 repeat' (cbv;first|apply B7 hE h<;>intro _ h|refine A9 hE h (c188 _ _ _ _) .z fun _ h=>?_|refine A9 hE h (c189 _ _ _) .z fun _ h=>?_|refine A9 hE (g:=fun r4=>.bool r4) h (fun r4 hx=>c190 N aD.dD aE.dD (.func (.func 188) [] []) (fun y1 y2=>BM N N y1 y2) (fun y1 y2 r hx=>C3.value (F:=[]) (C:=[]) (c188 N N y1 y2 r hx)) r4 hx) .z fun r4 h=>?_|refine A9 hE h (c191 _ _ _) .z fun _ h=>?_|(cases h;exact hK hO .z))
def c152 (N aQ aH r)(h:I7 N aQ aH=some r):C3 prog 152 [(K1 aQ),.eref (U3 aH) 0] (.bool r):=by
 refine N2 A8 func152 call152 ntmps152 ?_;intro E H0 K hE hK hO
 repeat' (cbv;first|apply B7 hE h<;>intro _ h|refine A9 hE h (c153 _ _ _) .z fun _ h=>?_|(cases h;exact hK hO .z))
def cf106:Cf:=⟨[2,3,4,5,6,7],[(13,5),(18,3)],[(16,9)],[1000013],[(40,7)],[(18,2,[2])]⟩
def c106 (N aA r) (h:O5 N aA=some r):C3 prog 106 [(C9 aA)] (.tup [sr eBg9 r.1,sr eBg8 r.2.1,vi r.2.2]):=by
 refine N2 cf106 func106 call106 ntmps106 ?_;intro E H0 K hE hK hO;cbv;refine E5 hE hO fun b1 H hO=>?_;cbv;refine E5 hE hO fun b2 H hO=>?_;cbv;refine E5 hE hO fun b3 H hO=>?_;cbv;refine E5 hE hO fun b4 H hO=>?_;cbv;refine E5 hE hO fun b5 H hO=>?_;cbv;refine Ap hE h (c150 N N aA) .z fun r6 v7 hv7 h=>?_;cbv;replace hO:=hO.tl0 (t:=.nil) rfl;replace hO:=hO.tl0 (t:=.nil) rfl;obtain⟨o14,hx,h⟩:=A7 h;replace hO:=hO.cast (L':=[.tl .nil,.tl .nil,cb b5 [.sl (lst eBg8 ([])) .nil],cb b4 [.sl (lst eBg9 ([])) .nil],cb b3 [vi 0],cb b2 [.sl [] .nil],cb b1 [.sl [] .nil]]) (by simp only[ob,cb,sr,←B5]<;>rfl);refine DG cf106 hE J6 (ι:=Nat) (enc:=fun(x:(C4×A6))=>[(K1 x.1),(C2 x.2)]) (fun(s9:(List A0)×(List C4)) F H=>∃g:E7×E7,(K6 g.1∧K6 g.2)∧B6 Eq F [.tl g.1,.tl g.2,cb b5 [.sl (lst eBg8 s9.1) g.2],cb b4 [.sl (lst eBg9 s9.2) g.1],cb b3 [vi 0],cb b2 [.sl [] .nil],cb b1 [.sl [] .nil]] H) (fun(r:((List A0)×(List C4)×Int)) e F H=>∃g:E7×E7,(e= .ret∧K6 g.1∧K6 g.2)∧B6 Eq F [.tl g.1,.tl g.2,cb b5 [.sl (lst eBg8 r.1) g.2],cb b4 [.sl (lst eBg9 r.2.1) g.1],cb b3 [vi r.2.2],cb b2 [.sl [] .nil],cb b1 [.sl [] .nil]] H) (fun i s9 y8=>[(2,.v (.ref b1 0)),(3,.v (.ref b2 0)),(4,.v (.ref b3 0)),(5,.v (.ref b4 0)),(6,.v (.ref b5 0)),(7,.v (.ref i 0)),(8,.v (.eref (M5 y8.2) 0))]) (fun i s9 y8 F H=>∃g:E7×E7,(K6 g.1∧K6 g.2)∧B6 Eq F [cb i (U3 y8.1),.tl g.1,.tl g.2,cb b5 [.sl (lst eBg8 s9.1) g.2],cb b4 [.sl (lst eBg9 s9.2) g.1],cb b3 [vi 0],cb b2 [.sl [] .nil],cb b1 [.sl [] .nil]] H) (fun _=>G5.ex fun _=>B6.stable E0 _) (fun _ _=>G5.ex fun _=>B6.stable E0 _) (fun _ _ _=>G5.ex fun _=>B6.stable E0 _) hv7 hx (⟨⟨.nil,.nil⟩,⟨trivial,trivial⟩,hO⟩) (by decide) (fun _=>rfl) (by kernel_rfl) (by kernel_rfl) ?_ ?_ ?_ ?_
 ·rintro E i11 y8 s9 F10 H hE ⟨⟨t12,t13⟩,⟨ht12,ht13⟩,hO⟩;clear hx h;cbv;refine E5 hE hO fun b15 H hO=>?_;cbv;refine B9 hE hO 0 rfl rfl fun H hO=>?_;cbv;exact⟨b15,⟨⟨t12,t13⟩,⟨ht12,ht13⟩,hO⟩,.e rfl (.e2 (.e4 .z)),rfl⟩
 ·rintro E i11 b15 y8 s9 F10 H o hE hF h ⟨⟨t12,t13⟩,⟨ht12,ht13⟩,hO⟩;cbv;refine B9 hE hO 0 rfl rfl fun H hO=>?_;cbv;obtain⟨s16,hx,h⟩:=A7 h;refine L5 cf106 hE J6 (fun e l H1=>match(generalizing:=false) s16 with| .inl y=>∃u1:E7,K6 u1∧e= .normal∧l=[(2,.v (.ref b1 0)),(3,.v (.ref b2 0)),(4,.v (.ref b3 0)),(5,.v (.ref b4 0)),(7,.v (.ref b15 0))]∧B6 Eq F10 [cb b15 (U3 y.1),.tl t12,.tl u1,cb b5 [.sl (lst eBg8 y.2) u1],cb b4 [.sl (lst eBg9 s9.2) t12],cb b3 [vi 0],cb b2 [.sl [] .nil],cb b1 [.sl [] .nil]] H1| .inr y=>e= .ret∧l=[(2,.v (.ref b1 0)),(3,.v (.ref b2 0)),(4,.v (.ref b3 0))]∧B6 Eq F10 [cb b15 (U3 y.1),.tl t12,.tl t13,cb b5 [.sl (lst eBg8 s9.1) t13],cb b4 [.sl (lst eBg9 s9.2) t12],cb b3 [vi y.2],cb b2 [.sl [] .nil],cb b1 [.sl [] .nil]] H1) (by kernel_rfl) ?_ ?_
  ·clear h;have h:=hx
   repeat' (cbv;first|apply B7 hE h<;>intro _ h|apply G9 hE|refine A9 hE h (c107 _ _ _) (.cons (.ro _ _) .z) fun _ h=>?_|refine A9 hE h (c112 _ _) .z fun _ h=>?_|apply D0 hE hO 3 rfl|apply D0 hE hO 0 rfl|refine B9 hE hO 0 rfl rfl fun H hO=>?_|refine B9 hE hO 7 rfl rfl fun H hO=>?_|refine B9 hE hO 6 rfl rfl fun H hO=>?_|refine B9 hE hO 5 rfl rfl fun H hO=>?_|refine XV hE hO 3 rfl rfl fun H hO=>?_|(cases h;exact⟨_,⟨rfl,rfl,hO⟩,.e rfl (.e2 .z),rfl⟩)|(cases h;exact⟨_,⟨t19,ht19,rfl,rfl,hO⟩,.e rfl (.e4 .z),rfl⟩)|(cases h;exact⟨_,⟨t13,ht13,rfl,rfl,hO⟩,.e rfl (.e4 .z),rfl⟩)|refine N1 (f:=eBg8) hE N3 (by decide) hO 2 rfl ht13 (l:=s9.1) (m:=[y8.2.p]) .z (.lstc (.eq (eBh0 y8.2.p) .z) (.lst0)) h fun _ t19 H hO ht19 h=>?_|refine HN hE (by first|exact Wh _|exact Yl _|trivial|rfl) ?_)
  clear hx
  rcases s16 with y21|y26
  ·rintro e l H ⟨t22,ht22,rfl,rfl,hO⟩
   repeat' (cbv;first|apply B7 hE h<;>intro _ h|apply G9 hE|refine A9 hE (g:=fun r23=>.bool r23) h (fun r23 hx=>c151 N s9.2 (.func (.func 152) [] [.eref (U3 y21.1) 0]) (fun y1=>I7 N y1 y21.1) (fun y1 r hx=>C3.value (F:=[]) (C:=[.eref (U3 y21.1) 0]) (c152 N y1 y21.1 r hx)) r23 hx) (.cons (.ro _ _) .z) fun r23 h=>?_|apply D0 hE hO 4 rfl|apply D0 hE hO 3 rfl|refine B9 hE hO 3 rfl rfl fun H hO=>?_|refine B9 hE hO 6 rfl rfl fun H hO=>?_|refine B9 hE hO 5 rfl rfl fun H hO=>?_|refine B9 hE hO 4 rfl rfl fun H hO=>?_|(cases h;exact⟨_,rfl,⟨⟨t12,t22⟩,⟨ht12,ht22⟩,hO⟩⟩)|(cases h;exact⟨_,rfl,rfl,⟨⟨t24,t22⟩,⟨rfl,⟨ht24,ht22⟩⟩,hO⟩⟩)|(cases h;exact⟨_,rfl,⟨⟨t24,t22⟩,⟨ht24,ht22⟩,hO⟩⟩)|refine AT7 hE hO 0 rfl fun H hO=>?_|refine N1 (f:=eBg9) hE Gv (by decide) hO 0 rfl ht12 (l:=s9.2) (m:=[y21.1]) .z (.lstc (.eq (eBi6 y21.1) .z) (.lst0)) h fun _ t24 H hO ht24 h=>?_)
  rintro e l H ⟨rfl,rfl,hO⟩;cbv;cases h;exact⟨_,rfl,rfl,⟨⟨t12,t13⟩,⟨rfl,⟨ht12,ht13⟩⟩,hO.tail⟩⟩
 ·rintro d27 s31 H rfl hd ⟨⟨t32,t33⟩,⟨ht32,ht33⟩,hO⟩;have hO:B6 Eq H0 [.tl t32,.tl t33,cb b5 [.sl (lst eBg8 s31.1) t33],cb b4 [.sl (lst eBg9 s31.2) t32],cb b3 [vi 0],cb b2 [.sl [] .nil],cb b1 [.sl [] .nil],.blk d27 DB] H:=B6.dblk hd hO;clear hd
  repeat' (cbv;first|apply D0 hE hW 3 rfl|apply D0 hE hW 2 rfl|apply D0 hE hO 6 rfl|apply D0 hE hO 5 rfl|apply D0 hE hO 4 rfl|refine B9 hE hO 5 rfl rfl fun H hO=>?_|refine B9 hE hO 4 rfl rfl fun H hO=>?_|(cases h;exact hK hO (.tup (.cons (.ro _ _) (.cons (.ro _ _) .z))))|refine SJ hE hO 6 rfl fun _ hT hW=>?_|apply HN hE trivial|refine SN hE hO 6 rfl hT fun H hO=>?_|refine Er hE hO 7 rfl fun H hO=>?_)
 rintro d27 y34 e H rfl hd hX
 rcases hX with⟨⟨t35,t36⟩,⟨rfl,ht35,ht36⟩,hO⟩
 have hO:B6 Eq H0 [.tl t35,.tl t36,cb b5 [.sl (lst eBg8 y34.1) t36],cb b4 [.sl (lst eBg9 y34.2.1) t35],cb b3 [vi y34.2.2],cb b2 [.sl [] .nil],cb b1 [.sl [] .nil],.blk d27 DB] H:=B6.dblk hd hO;clear hd;cbv;refine Er hE hO 7 rfl fun H hO=>?_;cbv;apply D0 hE hO 6 rfl;cbv;apply D0 hE hO 5 rfl;cbv;apply D0 hE hO 4 rfl;cbv;cases h;exact hK hO (.tup (.cons (.lit _ (B5)) (.cons (.lit _ (B5)) .z)))
def c70 (N aA r) (h:P8 N aA=some r):C3 prog 70 [(C9 aA)] (.tup [sr eBg8 r.1,vi r.2]):=by
 refine N2 A8 func70 call70 ntmps70 ?_;intro E H0 K hE hK hO;cbv;refine A9 hE h (c105 N aA) .z fun r1 h=>?_;cbv;apply B7 hE h<;>intro _ h
 ·cbv;cases h;exact hK hO (.tup (.cons (.lit _ (B5)) .z))
 cbv;replace hO:=hO.tl0 (t:=.full) rfl;obtain⟨s4,hx,h⟩:=A7 h;refine J9 A8 hE J6 (γ:=E7) (fun s2 g=>[(5,.v (.sl (lst eBg8 s2.1) g)),fi 6 s2.2]) (fun s2 g H1=>K6 g∧B6 Eq H0 [.tl g] H1) (fun x e l H1=>match(generalizing:=false) x with| .inl y=>∃u1:E7,K6 u1∧e= .exit 0∧l=[(5,.v (.sl (lst eBg8 y) u1))]∧B6 Eq H0 [.tl u1] H1| .inr y=>∃u1:E7,K6 u1∧e= .ret∧l=[(2,.v (.sl [] .nil)),fi 3 y]∧B6 Eq H0 [.tl u1] H1) (by kernel_rfl) ?_ .full hx ?_ ?_ ?_
 ·rintro s2 t3 H o ⟨ht3,hO⟩ h
  repeat' (cbv;first|apply B7 hE h<;>intro _ h|apply G9 hE|refine A9 hE h (c106 _ _) .z fun r6 h=>?_|refine D8 hE eBh0 h fun _ h=>?_|(cases h;exact⟨_,_,rfl,⟨t3,ht3,rfl,rfl,hO⟩,.e2 .z,rfl⟩)|(cases h;exact⟨_,_,rfl,⟨t3,ht3,rfl,rfl,hO⟩,.e rfl .z,rfl⟩))
  cbv;obtain⟨s9,hx,h⟩:=A7 h;refine J9 A8 hE J6 (γ:=E7) (fun s7 g=>[(5,.v (.sl (lst eBg8 s7.1) g)),fi 6 s2.2,(37,.v (sr eBg8 r6.2.1)),fi 38 (Ar.len r6.2.1),fi 39 s7.2]) (fun s7 g H1=>K6 g∧B6 Eq H0 [.tl g] H1) (fun x e l H1=>∃u1:E7,K6 u1∧e= .exit 2∧l=[(5,.v (.sl (lst eBg8 x) u1)),fi 6 s2.2]∧B6 Eq H0 [.tl u1] H1) (by kernel_rfl) ?_ t3 hx ?_ ?_ ?_
  ·rintro s7 t8 H o ⟨ht8,hO⟩ h
   repeat' (cbv;first|apply B7 hE h<;>intro _ h|refine A9 hE h (c107 _ _ _) (.cons (.ro _ _) .z) fun _ h=>?_|refine D8 hE eBh0 h fun x10 h=>?_|(cases h;exact⟨_,t12,rfl,.e rfl (.e4 .z),rfl,ht12,hO⟩)|(cases h;exact⟨_,t8,rfl,.e rfl (.e4 .z),rfl,ht8,hO⟩)|(cases h;exact⟨_,_,rfl,⟨t8,ht8,rfl,rfl,hO⟩,.e2 .z,rfl⟩)|refine N1 (f:=eBg8) hE N3 (by decide) hO 0 rfl ht8 (l:=s7.1) (m:=[x10]) .z (.lstc (.eq (eBh0 x10) .z) (.lst0)) h fun _ t12 H hO ht12 h=>?_)
  ·exact .e rfl (.e4 .z)
  ·exact⟨ht3,hO⟩
  clear hx;rintro e l H ⟨t14,ht14,rfl,rfl,hO⟩;cbv;apply G9 hE;cbv;apply B7 hE h<;>intro _ h
  ·cbv;cases h;exact⟨_,_,rfl,⟨t14,ht14,rfl,rfl,hO⟩,.e2 .z,rfl⟩
  cbv;cases h;exact⟨_,t14,rfl,.e2 .z,rfl,ht14,hO⟩
 ·exact .v (.slt _ (.lstc (.eq (eBh0 aA) .z) (.lst0))) (.e rfl .z)
 ·exact⟨trivial,hO⟩
 clear hx
 rcases s4 with y15|y17
 ·rintro e l H ⟨t16,ht16,rfl,rfl,hO⟩;cbv;cases h;exact hK hO (.tup (.cons (.ro _ _) .z))
 rintro e l H ⟨t18,ht18,rfl,rfl,hO⟩;cbv;cases h;exact hK hO (.tup (.cons (.lit _ (B5)) .z))
def c71 (N aA r)(h:FX N aA=some r):C3 prog 71 [(C9 aA)] (.tup [vi r.1,vi r.2.1,vi r.2.2]):=by
 refine N2 A8 func71 call71 ntmps71 ?_;intro E H0 K hE hK hO
 repeat' (cbv;first|apply B7 hE h<;>intro _ h|refine A9 hE h (c105 _ _) .z fun _ h=>?_|refine A9 hE h (c108 _ _) .z fun _ h=>?_|(cases h;exact hK hO .z))
def c157 (N aG aH r)(h:EX N aG aH=some r):C3 prog 157 [(C9 aG),.eref (E1 aH) 0] (.bool r):=by
 refine N2 A8 func157 call157 ntmps157 ?_;intro E H0 K hE hK hO;cbv;refine A9 hE h (c155 N N aG aH) .z fun r1 h=>?_;cbv;cases h;exact hK hO .z
def c111 (N aF aA r)(h:EY N aF aA=some r):C3 prog 111 [sr eBg8 aF,(C9 aA)] (vi r):=by
 refine N2 A8 func111 call111 ntmps111 ?_;intro E H0 K hE hK hO;cbv;refine A9 hE (g:=fun r1=>vi r1) h (fun r1 hx=>c74 N aF (.func (.func 157) [] [.eref (E1 aA) 0]) (fun y1=>EX N y1 aA) (fun y1 r hx=>C3.value (F:=[]) (C:=[.eref (E1 aA) 0]) (c157 N y1 aA r hx)) r1 hx) .z fun r1 h=>?_;cbv;cases h;exact hK hO .z
def cfo106:Cf:=⟨[2,3,4,5,6,7,5000002,5000005],[(13,5),(3000018,0),(3000018,1)],[(16,9)],[1000013,2000018],[(40,7)],[]⟩
set_option maxHeartbeats 2000000 in
def o106 (N aA r) (h:Bd N aA=some r):Al8 prog 106 [(C9 aA)] 17 (lst eBg9 r.1) (fun o=>.tup [o,sr eBg8 r.2.1,vi r.2.2]):=by
 intro H0;refine TC (T:=TT) (F:=H0) (mk:=fun o=>.tup [o,sr eBg8 r.2.1,vi r.2.2]) (GS.tup [.bad,sr eBg8 r.2.1,vi r.2.2] 0 (by simp)) cfo106 J6 func106 (by rfl) (by kernel_rfl) call106 ntmps106 (by rfl) (by rfl) ?_;intro E K hE hK hN;have hO:B6 Eq H0 [] H0:=.start E0 rfl;cbv;refine XY hE (f0:=eBg9) hO fun q2 b1 H hq2 hO=>?_;cbv;refine E5 hE hO fun b3 H hO=>?_;cbv;refine E5 hE hO fun b4 H hO=>?_;cbv;refine XY hE (f0:=eBg9) hO fun q6 b5 H hq6 hO=>?_;cbv;refine E5 hE hO fun b7 H hO=>?_;cbv;refine Ap hE h (c150 N N aA) .z fun r8 v9 hv9 h=>?_;cbv;replace hO:=hO.tl0 (t:=.nil) rfl;obtain⟨o16,hx,h⟩:=A7 h;replace hO:=hO.cast (L':=[.tl .nil,cb b7 [.sl (lst eBg8 ([])) .nil],cb b5 [.own q6.id q6.lo q6.n],ob q6 17 eBg9 ([]),cb b4 [vi 0],cb b3 [.sl [] .nil],cb b1 [.own q2.id q2.lo q2.n],ob q2 17 eBg9 ([])]) (by simp only[ob,cb,sr,←B5]<;>rfl);refine DG cfo106 hE J6 (ι:=Nat) (enc:=fun(x:(C4×A6))=>[(K1 x.1),(C2 x.2)]) (fun(s11:(List A0)×(List C4)) F H=>∃g:E7×OG,(K6 g.1∧Bz g.2 (Ar.len s11.2))∧B6 Eq F [.tl g.1,cb b7 [.sl (lst eBg8 s11.1) g.1],cb b5 [.own g.2.id g.2.lo g.2.n],.blk g.2.id (.arr 17 (g.2.pre++lst eBg9 s11.2++g.2.rest)),cb b4 [vi 0],cb b3 [.sl [] .nil],cb b1 [.own q2.id q2.lo q2.n],ob q2 17 eBg9 ([])] H) (fun(r:((List A0)×(List C4)×Int×(List C4))) e F H=>∃g:E7×OG,(e= .ret∧K6 g.1∧Bz g.2 (Ar.len r.2.1))∧B6 Eq F [.tl g.1,cb b7 [.sl (lst eBg8 r.1) g.1],cb b5 [.own g.2.id g.2.lo g.2.n],.blk g.2.id (.arr 17 (g.2.pre++lst eBg9 r.2.1++g.2.rest)),cb b4 [vi r.2.2.1],cb b3 [.sl [] .nil],cb b1 [.sl [] .nil],ob q2 17 eBg9 ([])] H) (fun i s11 y10=>[(2,.v (.ref b1 0)),(3,.v (.ref b3 0)),(4,.v (.ref b4 0)),(5,.v (.ref b5 0)),(6,.v (.ref b7 0)),(7,.v (.ref i 0)),(8,.v (.eref (M5 y10.2) 0))]) (fun i s11 y10 F H=>∃g:E7×OG,(K6 g.1∧Bz g.2 (Ar.len s11.2))∧B6 Eq F [cb i (U3 y10.1),.tl g.1,cb b7 [.sl (lst eBg8 s11.1) g.1],cb b5 [.own g.2.id g.2.lo g.2.n],.blk g.2.id (.arr 17 (g.2.pre++lst eBg9 s11.2++g.2.rest)),cb b4 [vi 0],cb b3 [.sl [] .nil],cb b1 [.own q2.id q2.lo q2.n],ob q2 17 eBg9 ([])] H) (fun _=>G5.ex fun _=>B6.stable E0 _) (fun _ _=>G5.ex fun _=>B6.stable E0 _) (fun _ _ _=>G5.ex fun _=>B6.stable E0 _) hv9 hx (⟨⟨.nil,q6⟩,⟨trivial,hq6⟩,hO⟩) (by decide) (fun _=>rfl) (by kernel_rfl) (by kernel_rfl) ?_ ?_ ?_ ?_
 ·rintro E i13 y10 s11 F12 H hE ⟨⟨t14,q15⟩,⟨ht14,hq15⟩,hO⟩;clear hx h;cbv;refine E5 hE hO fun b17 H hO=>?_;cbv;refine B9 hE hO 0 rfl rfl fun H hO=>?_;cbv;exact⟨b17,⟨⟨t14,q15⟩,⟨ht14,hq15⟩,hO⟩,.e rfl (.e2 (.e4 .z)),rfl⟩
 ·rintro E i13 b17 y10 s11 F12 H o hE hF h ⟨⟨t14,q15⟩,⟨ht14,hq15⟩,hO⟩;cbv;refine B9 hE hO 0 rfl rfl fun H hO=>?_;cbv;obtain⟨s18,hx,h⟩:=A7 h;refine L5 cfo106 hE J6 (fun e l H1=>match(generalizing:=false) s18 with| .inl y=>∃u1:E7,K6 u1∧e= .normal∧l=[(2,.v (.ref b1 0)),(3,.v (.ref b3 0)),(4,.v (.ref b4 0)),(5,.v (.ref b5 0)),(7,.v (.ref b17 0))]∧B6 Eq F12 [cb b17 (U3 y.1),.tl u1,cb b7 [.sl (lst eBg8 y.2) u1],cb b5 [.own q15.id q15.lo q15.n],ob q15 17 eBg9 s11.2,cb b4 [vi 0],cb b3 [.sl [] .nil],cb b1 [.own q2.id q2.lo q2.n],ob q2 17 eBg9 ([])] H1| .inr y=>e= .ret∧l=[(2,.v (.ref b1 0)),(3,.v (.ref b3 0)),(4,.v (.ref b4 0))]∧B6 Eq F12 [cb b17 (U3 y.1),.tl t14,cb b7 [.sl (lst eBg8 s11.1) t14],cb b5 [.own q15.id q15.lo q15.n],ob q15 17 eBg9 s11.2,cb b4 [vi y.2.1],cb b3 [.sl [] .nil],cb b1 [.sl [] .nil],ob q2 17 eBg9 ([])] H1) (by kernel_rfl) ?_ ?_
  ·clear h;have h:=hx
   repeat' (cbv;first|apply B7 hE h<;>intro _ h|apply G9 hE|refine A9 hE h (c107 _ _ _) (.cons (.ro _ _) .z) fun _ h=>?_|refine A9 hE h (c112 _ _) .z fun _ h=>?_|apply D0 hE hO 2 rfl|apply D0 hE hO 0 rfl|refine B9 hE hO 0 rfl rfl fun H hO=>?_|refine B9 hE hO 7 rfl rfl fun H hO=>?_|refine B9 hE hO 6 rfl rfl fun H hO=>?_|refine B9 hE hO 5 rfl rfl fun H hO=>?_|refine XV hE hO 2 rfl rfl fun H hO=>?_|(cases h;exact⟨_,⟨rfl,rfl,hO⟩,.e rfl (.e2 .z),rfl⟩)|(cases h;exact⟨_,⟨t21,ht21,rfl,rfl,hO⟩,.e rfl (.e4 .z),rfl⟩)|(cases h;exact⟨_,⟨t14,ht14,rfl,rfl,hO⟩,.e rfl (.e4 .z),rfl⟩)|refine N1 (f:=eBg8) hE N3 (by decide) hO 1 rfl ht14 (l:=s11.1) (m:=[y10.2.p]) .z (.lstc (.eq (eBh0 y10.2.p) .z) (.lst0)) h fun _ t21 H hO ht21 h=>?_|refine HN hE (by first|exact Wh _|exact Yl _|trivial|rfl) ?_)
  clear hx
  rcases s18 with y23|y28
  ·rintro e l H ⟨t24,ht24,rfl,rfl,hO⟩
   repeat' (cbv;first|apply B7 hE h<;>intro _ h|refine AM8 hE (g:=fun r25=>.bool r25) h (fun r25 hx=>c151 N s11.2 (.func (.func 152) [] [.eref (U3 y23.1) 0]) (fun y1=>I7 N y1 y23.1) (fun y1 r hx=>C3.value (F:=[]) (C:=[.eref (U3 y23.1) 0]) (c152 N y1 y23.1 r hx)) r25 hx) (fun _=>.bool _) (AD4 hE hO hq15 3 rfl (.le .z (.nil))) fun r25 h=>?_|apply D0 hE hO 3 rfl|apply D0 hE hO 2 rfl|refine B9 hE hO 2 rfl rfl fun H hO=>?_|refine B9 hE hO 6 rfl rfl fun H hO=>?_|refine B9 hE hO 5 rfl rfl fun H hO=>?_|refine B9 hE hO 4 rfl rfl fun H hO=>?_|(cases h;exact⟨_,rfl,⟨⟨t24,q15⟩,⟨ht24,hq15⟩,hO⟩⟩)|(cases h;exact⟨_,rfl,rfl,⟨⟨t24,q26⟩,⟨rfl,⟨ht24,hq26⟩⟩,hO⟩⟩)|(cases h;exact⟨_,rfl,⟨⟨t24,q26⟩,⟨ht24,hq26⟩,hO⟩⟩)|refine AT7 hE hO 0 rfl fun H hO=>?_|refine DX (f:=eBg9) hE Gv (by decide) hO hq15 3 rfl (m:=[y23.1]) (Ct (f:=eBg9) hE Gv (.lstc (.eq (eBi6 y23.1) .z) (.lst0))) h fun _ q26 H hq26 hO h=>?_|apply KB hE hq26)
  rintro e l H ⟨rfl,rfl,hO⟩;cbv;cases h;exact⟨_,rfl,rfl,⟨⟨t14,q15⟩,⟨rfl,⟨ht14,hq15⟩⟩,hO.tail⟩⟩
 ·rintro d29 s33 H rfl hd ⟨⟨t34,q35⟩,⟨ht34,hq35⟩,hO⟩;have hO:B6 Eq H0 [.tl t34,cb b7 [.sl (lst eBg8 s33.1) t34],cb b5 [.own q35.id q35.lo q35.n],ob q35 17 eBg9 s33.2,cb b4 [vi 0],cb b3 [.sl [] .nil],cb b1 [.own q2.id q2.lo q2.n],ob q2 17 eBg9 ([]),.blk d29 DB] H:=B6.dblk hd hO;clear hd;cbv;replace hO:=hO.cast (L':=[.tl t34,cb b7 [.sl (lst eBg8 s33.1) t34],cb b5 [.own q35.id q35.lo q35.n],ob q35 17 eBg9 s33.2,cb b4 [vi 0],cb b3 [.sl (lst eBg8 ([])) .nil],cb b1 [.own q2.id q2.lo q2.n],ob q2 17 eBg9 ([]),.blk d29 DB]) (by simp only[ob,cb,sr,←B5]<;>rfl);replace hO:=hO.tl0 (t:=.nil) rfl;obtain⟨s36,hx,h⟩:=A7 h;refine L5 cfo106 hE J6 (fun e l H1=>e= .normal∧l=[(2,.v (.ref b1 0)),(3,.v (.ref b3 0)),(4,.v (.ref b4 0))]∧B6 Eq H0 [.tl .nil,.tl t34,cb b7 [.sl (lst eBg8 s33.1) t34],cb b5 [.own q35.id q35.lo q35.n],ob q35 17 eBg9 s33.2,cb b4 [vi 0],cb b3 [.sl (lst eBg8 s36) t34],cb b1 [.own q35.id q35.lo q35.n],ob q2 17 eBg9 ([]),.blk d29 DB] H1) (by kernel_rfl) ?_ ?_
  ·clear h;have h:=hx;cbv
   repeat' first|refine And.intro ?_ ?_|(refine D0 hE hO 3 rfl ?_;cbv)|(refine D0 hE hO 2 rfl ?_;cbv)|(refine B9 hE hO 7 rfl rfl fun H hO=>?_;cbv)|(refine B9 hE hO 6 rfl rfl fun H hO=>?_;cbv)|(refine B9 hE hO 5 rfl rfl fun H hO=>?_;cbv)|(have h:=O8 h;subst h;exact⟨_,⟨rfl,rfl,hO⟩,.e rfl (.e2 .z),rfl⟩)
  clear hx;rintro e l H ⟨rfl,rfl,hO⟩;cbv;refine Er hE hO 9 rfl fun H hO=>?_;cbv;apply D0 hE hO 7 rfl;cbv;apply D0 hE hO 6 rfl;cbv;apply D0 hE hO 5 rfl;cbv;cases h;exact hK q35 _ 4 _ _ (AN hE hq35) rfl hO (.tup (.r (.cons (.ro _ _) .z)))
 rintro d29 y277 e H rfl hd hX
 rcases hX with⟨⟨t278,q279⟩,⟨rfl,ht278,hq279⟩,hO⟩
 have hO:B6 Eq H0 [.tl t278,cb b7 [.sl (lst eBg8 y277.1) t278],cb b5 [.own q279.id q279.lo q279.n],ob q279 17 eBg9 y277.2.1,cb b4 [vi y277.2.2.1],cb b3 [.sl [] .nil],cb b1 [.sl [] .nil],ob q2 17 eBg9 ([]),.blk d29 DB] H:=B6.dblk hd hO;clear hd;cbv;refine Er hE hO 8 rfl fun H hO=>?_;cbv;apply D0 hE hO 6 rfl;cbv;apply D0 hE hO 5 rfl;cbv;apply D0 hE hO 4 rfl;cbv;cases h;exact hN (by rw[Ar.lst_eq];rfl) _ _ _ hO (.tup (.r (.cons (.lit _ (B5)) .z)))
def cfo110:Cf:=⟨[6000002],[],[],[],[],[]⟩
def o110 (N aA r)(h:Ai N aA=some r):Al8 prog 110 [(C9 aA)] 17 (lst eBg9 r.1) (fun o=>.tup [o,sr eBg8 r.2.1,vi r.2.2]):=by
 intro H0;refine TC (T:=TT) (F:=H0) (mk:=fun o=>.tup [o,sr eBg8 r.2.1,vi r.2.2]) (GS.tup [.bad,sr eBg8 r.2.1,vi r.2.2] 0 (by simp)) cfo110 J6 func110 (by rfl) (by kernel_rfl) call110 ntmps110 (by rfl) (by rfl) ?_;intro E K hE hK hN;have hO:B6 Eq H0 [] H0:=.start E0 rfl;cbv;refine KA hE (f:=eBg9) hO fun q1 H hq1 hO=>?_;cbv;refine A9 hE h (c112 N aA) .z fun r2 h=>?_;cbv;apply B7 hE h<;>intro _ h
 ·cbv;refine KA hE (f:=eBg9) hO fun q3 H hq3 hO=>?_;cbv;cases h;exact hK q3 _ 0 _ _ (AN hE hq3) rfl hO (.tup (.r (.cons (.lit _ (B5)) .z)))
 cbv;refine Wa hE (f:=eBg9) (g:=fun l4=>l4.1) (mk:=fun l4 o=>.tup [o,sr eBg8 l4.2.1,vi l4.2.2]) h (o106 N aA) .z hO fun l4 q5 H hq5 hO h=>?_;cbv;cases h;exact hK q5 _ 0 _ _ (AN hE hq5) rfl hO (.tup .z)
def cf109:Cf:=⟨[4],[(10,10)],[],[],[(55,5)],[]⟩
def c109 (N aH r) (h:FE N aH=some r):JY prog 109 (fun yv=>[yv,.eref [sr eBg8 aH] 0]) (List.map (fun(x:(Int×(List C4)))=>[vi x.1,sr eBg9 x.2]) r) rbN:=by
 obtain⟨⟨w0,u0⟩,h1,hr⟩:=A7 h;clear h;have hr:=O8 hr;subst hr;have h:=h1;clear h1;refine V1 cf109 J6 func109 (by rfl) (by kernel_rfl) call109 ntmps109 (by rfl) (fun _=>rfl) ?_;intro yv I D hI hD hy tl F E H K hE hO hK hKD
 have hO:B6 (I (List.map (fun(x:(Int×(List C4)))=>[vi x.1,sr eBg9 x.2]) (w0++[])++tl)) F [] H:=by rw[L4];exact hO
 cbv;apply G9 hE;cbv;obtain⟨w2,w3,s6,hx,h,he⟩:=U1 h
 rw[he,G1]at hO
 clear he;refine MY cf109 hE J6 (γ:=Unit) (fun s1 g=>[(0,.v (yv)),(1,.v (.eref [sr eBg8 aH] 0)),(10,.v (sr eBg8 aH)),fi 11 (Ar.len aH),fi 12 s1]) (fun s1 g w H1=>B6 (I (List.map (fun(x:(Int×(List C4)))=>[vi x.1,sr eBg9 x.2]) w++tl)) F [] H1) (fun x e l w H1=>e= .exit 0∧l=[]∧B6 (I (List.map (fun(x:(Int×(List C4)))=>[vi x.1,sr eBg9 x.2]) w++tl)) F [] H1) (fun e l H1=>(e= .ret∧l=[]∧B6 D F [] H1)) (by kernel_rfl) ?_ (w':=w3++[]) () hx ?_ ?_ ?_ ?_
 ·rintro s1 _ w4 w5 H o hO h
  skip
  repeat' (cbv;first|apply B7 hE h<;>intro _ h|refine Wa hE (f:=eBg9) (g:=fun l9=>l9.1) (mk:=fun l9 o=>.tup [o,sr eBg8 l9.2.1,vi l9.2.2]) h (o110 N x7) .z hO fun l9 q10 H hq10 hO h=>?_|refine D8 hE eBh0 h fun x7 h=>?_|apply D0 hE hO 0 rfl|refine B9 hE hO 0 rfl rfl fun H hO=>?_|refine E5 hE hO fun b8 H hO=>?_|apply KB hE hq10)
  ·cbv;obtain⟨w13,w14,s17,hx,h,he⟩:=U1 h
   rw[he,G1]at hO
   clear he;refine MY cf109 hE J6 (γ:=OG) (fun s11 g=>[(0,.v (yv)),(1,.v (.eref [sr eBg8 aH] 0)),fi 3 s1,(5,.v (.own g.id g.lo g.n)),(6,.v (sr eBg8 l9.2.1)),(10,.v (sr eBg8 aH)),fi 11 (Ar.len aH),fi 12 s1,fi 24 (Ar.len l9.1),fi 25 s11.1]) (fun s11 g w H1=>Bz g (Ar.len s11.2)∧B6 (I (List.map (fun(x:(Int×(List C4)))=>[vi x.1,sr eBg9 x.2]) w++tl)) F [ob g 17 eBg9 s11.2,cb b8 (E1 x7)] H1) (fun x e l w H1=>∃u1:OG,Bz u1 (Ar.len x)∧e= .exit 2∧l=[(0,.v (yv)),(1,.v (.eref [sr eBg8 aH] 0)),fi 3 s1,(5,.v (.own u1.id u1.lo u1.n)),(10,.v (sr eBg8 aH)),fi 11 (Ar.len aH),fi 12 s1]∧B6 (I (List.map (fun(x:(Int×(List C4)))=>[vi x.1,sr eBg9 x.2]) w++tl)) F [ob u1 17 eBg9 x,cb b8 (E1 x7)] H1) (fun e l H1=>False) (by kernel_rfl) ?_ (w':=w14++w5) q10 hx ?_ ?_ ?_ ?_
   ·rintro s11 q12 w15 w16 H o ⟨hq12,hO⟩ h
    skip
    repeat' (cbv;first|apply B7 hE h<;>intro _ h|refine D8 hE eBh0 h fun _ h=>?_|refine K7 hE (g:=fun r23=>vi r23) h (c111 _ _ _) .z fun r23 h=>?_|refine BF hE hO hq12 0 rfl h fun h=>?_|(refine BE hE (f:=eBg9) (esz:=17) (tz:=1) (off:=0) (u:=(fun x18:C4=>{x18 with dE:=s1})) (fun x18=>⟨.int .i64 s1,.refl _,rfl,rfl,(by rw[eBi6,eBi6];rfl)⟩) (by decide) hO hq12 0 rfl h fun _ H hq12 h hO=>?_)|refine DH hE eBi6 hO hq12 0 rfl h fun _ h=>?_|(refine BE hE (f:=eBg9) (esz:=17) (tz:=1) (off:=1) (u:=(fun x24:C4=>{x24 with To:=r23})) (fun x24=>⟨.int .i64 r23,.refl _,rfl,rfl,(by rw[eBi6,eBi6];rfl)⟩) (by decide) hO hq12 0 rfl h fun _ H hq12 h hO=>?_))
    ·cbv;obtain⟨hw,rfl⟩:=F9 h
     rw[←hw]at hO
     exact⟨_,q12,rfl,.e2 (.e4 (.e4 .z)),rfl,⟨hq12,hO⟩⟩
    ·cbv;obtain⟨hw,rfl⟩:=F9 h
     rw[←hw]at hO
     exact⟨_,q12,rfl,.e2 (.e4 (.e4 .z)),rfl,⟨hq12,hO⟩⟩
    cbv;obtain⟨hw,rfl⟩:=F9 h
    rw[←hw]at hO
    exact .inl ⟨_,_,rfl,⟨q12,hq12,rfl,rfl,hO⟩,.e rfl (.e2 (.e4 .z)),rfl⟩
   ·exact .e2 (.e4 (.e4 .z))
   ·exact⟨hq10,hO⟩
   ·rintro e l H ⟨t26,ht26,rfl,rfl,hO⟩;cbv;refine NR hE hO ht26 0 rfl fun H hO=>?_;cbv;obtain⟨w27,h,he⟩:=Z4 h
    rw[he,G1]at hO
    clear he;have hO:B6 (I ([vi s1,sr eBg9 s17]::(List.map (fun(x:(Int×(List C4)))=>[vi x.1,sr eBg9 x.2]) (w27++w5)++tl))) F [cb b8 (E1 x7)] _:=hO;refine DF hE hI hD hy hO .z (fun H hO=>?_) (fun H hO=>?_)
    ·cbv;apply Ms hE (nt_eq _);cbv;obtain⟨hw,rfl⟩:=F9 h
     rw[←hw]at hO
     exact⟨_,(),rfl,.e rfl (.e4 .z),rfl,hO.tail⟩
    clear h;cbv;apply Mr hE (nt_eq _);cbv;exact .inr ⟨_,⟨rfl,rfl,hO.tail⟩,.z,rfl⟩
   rintro e l H hX;exact hX.elim
  cbv;obtain⟨hw,rfl⟩:=F9 h
  rw[←hw]at hO
  exact .inl ⟨_,_,rfl,⟨rfl,rfl,hO⟩,.z,rfl⟩
 ·exact .e rfl (.e4 .z)
 ·exact hO
 ·rintro e l H ⟨rfl,rfl,hO⟩;cbv;obtain⟨hw,_⟩:=F9 h
  rw[←hw]at hO
  exact hK _ _ _ hO trivial
 rintro e l H hX;obtain⟨rfl,rfl,hO⟩:=hX;clear h;cbv;exact hKD _ _ _ hO trivial
def c72 (N aF r)(h:Da N aF=some r):Fg prog 72 [sr eBg8 aF] (fun v=>Jm prog v (r.map fun(x:(Int×(List C4)))=>[vi x.1,sr eBg9 x.2])):=by
 refine Y0 A8 J6 func72 (by rfl) (by kernel_rfl) call72 ntmps72 (by rfl) (by rfl) ?_;intro E H0 K hE hK;have hO:B6 Eq H0 [] H0:=.start E0 rfl;cbv;exact hK _ _ _ hO (X8 call109 (c109 N aF r h))
def cf113:=cfC [] [] [(8,5),(51,17)]
def c113 (N:Nat):∀n aA r,M4 N n aA=some r→C3 prog 113 [(C9 aA)] (sr eBi5 r):=by
 intro n
 induction n with
 |zero=>intro aA r h;cases h
 |succ n ih=>
 intro aA r h
 unfold M4 at h
 refine N2 cf113 func113 call113 ntmps113 ?_;intro E H0 K hE hK hO;cbv;obtain⟨s1,hx,h⟩:=A7 h;refine L5 cf113 hE J6 (fun e l H1=>e= .normal∧l=[(1,.v (.eref (E1 aA) 0)),(3,.v (.sl [] .nil)),fi 7 aA.Op,(8,.v (.bool s1))]∧B6 Eq H0 [] H1) (by kernel_rfl) ?_ ?_
 ·clear h;have h:=hx;cbv;apply B7 hE h<;>intro _ h
  ·cbv;cases h;exact⟨_,⟨rfl,rfl,hO⟩,.e4 .z,rfl⟩
  cbv;cases h;exact⟨_,⟨rfl,rfl,hO⟩,.e4 .z,rfl⟩
 clear hx;rintro e l H ⟨rfl,rfl,hO⟩;cbv;apply B7 hE h<;>intro _ h
 ·cbv;refine D8 hE eBh0 h fun x2 h=>?_;cbv;refine A9 hE h (ih x2) .z fun r3 h=>?_;cbv;cases h;exact hK hO .z
 repeat' (cbv;first|apply B7 hE h<;>intro _ h|apply G9 hE|refine A9 hE h (ih _) .z fun r15 h=>?_|refine D8 hE eBh0 h fun _ h=>?_|(cases h;exact hK hO (.ro _ _))|refine N1 (f:=eBi5) hE JD (by decide) (hO.tl0 (t:=.nil) rfl) 0 rfl trivial (l:=[]) (m:=[(⟨aA.cY,aA.Typ,aA.Var,aA.cU⟩:U4)]) (.lst0) (.lstc (.eq (eBk2 (⟨aA.cY,aA.Typ,aA.Var,aA.cU⟩:U4)) .z) (.lst0)) h fun l13 _ H hO ht12 h=>?_|refine N1 (f:=eBi5) hE JD (by decide) hO 0 rfl ht12 (l:=l13) (m:=r15) .z .z h fun _ _ H hO _ h=>?_)
 ·cbv;replace hO:=hO.tl0 (t:=.nil) rfl;obtain⟨s6,hx,h⟩:=A7 h;refine J9 cf113 hE J6 (γ:=E7) (fun s4 g=>[(3,.v (.sl (lst eBi5 s4.1) g)),(19,.v (sr eBg8 aA.cT)),fi 20 (Ar.len aA.cT),fi 21 s4.2]) (fun s4 g H1=>K6 g∧B6 Eq H0 [.tl g] H1) (fun x e l H1=>∃u1:E7,K6 u1∧e= .exit 1∧l=[(3,.v (.sl (lst eBi5 x) u1))]∧B6 Eq H0 [.tl u1] H1) (by kernel_rfl) ?_ .nil hx ?_ ?_ ?_
  ·rintro s4 t5 H o ⟨ht5,hO⟩ h;cbv;apply B7 hE h<;>intro _ h
   ·cbv;refine D8 hE eBh0 h fun x7 h=>?_;cbv;refine A9 hE h (ih x7) .z fun r8 h=>?_;cbv;refine N1 (f:=eBi5) hE JD (by decide) hO 0 rfl ht5 (l:=s4.1) (m:=r8) .z .z h fun l10 t9 H hO ht9 h=>?_;cbv;cases h;exact⟨_,t9,rfl,.e4 .z,rfl,ht9,hO⟩
   cbv;cases h;exact⟨_,_,rfl,⟨t5,ht5,rfl,rfl,hO⟩,.e rfl .z,rfl⟩
  ·exact .v (.slt _ (.lst0)) (.e rfl (.e2 .z))
  ·exact⟨trivial,hO⟩
  clear hx;rintro e l H ⟨t11,ht11,rfl,rfl,hO⟩;cbv;cases h;exact hK hO (.ro _ _)
 cbv;obtain⟨s18,hx,h⟩:=A7 h;refine L5 cf113 hE J6 (fun e l H1=>e= .normal∧l=[(1,.v (.eref (E1 aA) 0)),(3,.v (.sl [] .nil)),(51,.v (.bool s18))]∧B6 Eq H0 [] H1) (by kernel_rfl) ?_ ?_
 ·clear h;have h:=hx;cbv;apply B7 hE h<;>intro _ h
  ·cbv;cases h;exact⟨_,⟨rfl,rfl,hO⟩,.e rfl (.e2 .z),rfl⟩
  cbv;cases h;exact⟨_,⟨rfl,rfl,hO⟩,.e rfl (.e2 .z),rfl⟩
 clear hx;rintro e l H ⟨rfl,rfl,hO⟩;cbv;apply B7 hE h<;>intro _ h
 ·cbv;refine D8 hE eBh0 h fun x19 h=>?_;cbv;refine A9 hE h (ih x19) .z fun r20 h=>?_;cbv;cases h;exact hK hO .z
 cbv;cases h;exact hK hO (.lit _ (B5))
def c73 (N aA r)(h:Z6 N aA=some r):C3 prog 73 [(C9 aA)] (.tup [sr eBi5 r.1,vi r.2]):=by
 refine N2 A8 func73 call73 ntmps73 ?_;intro E H0 K hE hK hO;cbv;refine A9 hE h (c112 N aA) .z fun r1 h=>?_;cbv;apply B7 hE h<;>intro _ h
 ·cbv;cases h;exact hK hO (.tup (.cons (.lit _ (B5)) .z))
 cbv;refine A9 hE h (c113 N N aA) .z fun r2 h=>?_;cbv;cases h;exact hK hO .z
def cf41:Cf:=⟨[2,3,4,7],[(17,3),(3000014,0),(3000014,1),(3000014,2),(3000014,3),(3000014,6),(3000014,7),(3000014,8),(3000014,10),(3000014,12)],[],[2000014],[],[(17,2,[2])]⟩
set_option maxHeartbeats 2000000 in
def c41 (N aA r) (h:FF N aA=some r):C3 prog 41 [(C9 aA)] (.tup [(IH r.1),sr eBg8 r.2.1,vi r.2.2]):=by
 refine N2 cf41 func41 call41 ntmps41 ?_;intro E H0 K hE hK hO;cbv;refine E5 hE hO fun b1 H hO=>?_;cbv;refine E5 hE hO fun b2 H hO=>?_;cbv;refine E5 hE hO fun b3 H hO=>?_
 repeat' (cbv;first|apply B7 hE h<;>intro _ h|refine A9 hE h (c70 _ _) .z fun r4 h=>?_|refine A9 hE h (c71 _ _) .z fun r6 h=>?_|refine Ap hE h (c72 _ _) .z fun _ _ hv8 h=>?_|apply D0 hE hO 2 rfl|apply D0 hE hO 1 rfl|apply D0 hE hO 0 rfl|apply D0 hE hO 3 rfl|refine B9 hE hO 2 rfl rfl fun H hO=>?_|refine B9 hE hO 1 rfl rfl fun H hO=>?_|refine B9 hE hO 0 rfl rfl fun H hO=>?_|refine B9 hE hO 3 rfl rfl fun H hO=>?_|refine E5 hE hO fun b5 H hO=>?_|(cases h;exact hK hO (.tup (.cons (.agg (.r (.r (.cons (.lit _ (B5)) (.cons (.lit _ (B5)) .z))))) (.cons (.lit _ (B5)) .z)))))
 cbv;replace hO:=hO.cast (L':=[cb b5 [vi r6.1,vi r6.2.1,.sl (lst eBi3 ([])) .nil,.sl (lst eBg9 ([])) .nil],cb b3 [vi 0],cb b2 [.sl [] .nil],cb b1 [vi 0,vi 0,.sl [] .nil,.sl [] .nil]]) (by simp only[ob,cb,sr,←B5]<;>rfl);replace hO:=hO.tl0 (t:=.nil) rfl;replace hO:=hO.tl0 (t:=.nil) rfl;obtain⟨o15,hx,h⟩:=A7 h;refine DG cf41 hE J6 (ι:=Unit) (enc:=fun(x:(Int×(List C4)))=>[vi x.1,sr eBg9 x.2]) (fun(s10:E2) F H=>∃g:E7×E7,(K6 g.1∧K6 g.2)∧B6 Eq F [.tl g.1,.tl g.2,cb b5 [vi s10.Vars,vi s10.dL,.sl (lst eBi3 s10.cZ) g.2,.sl (lst eBg9 s10.dC) g.1],cb b3 [vi 0],cb b2 [.sl [] .nil],cb b1 [vi 0,vi 0,.sl [] .nil,.sl [] .nil]] H) (fun(r:(E2×Int)) e F H=>∃g:E7×E7,(e= .ret∧K6 g.1∧K6 g.2)∧B6 Eq F [.tl g.1,.tl g.2,cb b5 [vi r.1.Vars,vi r.1.dL,.sl (lst eBi3 r.1.cZ) g.2,.sl (lst eBg9 r.1.dC) g.1],cb b3 [vi r.2],cb b2 [.sl [] .nil],cb b1 [vi 0,vi 0,.sl [] .nil,.sl [] .nil]] H) (fun i s10 y9=>[(2,.v (.ref b1 0)),(3,.v (.ref b2 0)),(4,.v (.ref b3 0)),(5,.v (.eref [sr eBg8 r4.1] 0)),(7,.v (.ref b5 0)),fi 8 y9.1,(9,.v (sr eBg9 y9.2))]) (fun i s10 y9 F H=>∃g:E7×E7,(K6 g.1∧K6 g.2)∧B6 Eq F [.tl g.1,.tl g.2,cb b5 [vi s10.Vars,vi s10.dL,.sl (lst eBi3 s10.cZ) g.2,.sl (lst eBg9 s10.dC) g.1],cb b3 [vi 0],cb b2 [.sl [] .nil],cb b1 [vi 0,vi 0,.sl [] .nil,.sl [] .nil]] H) (fun _=>G5.ex fun _=>B6.stable E0 _) (fun _ _=>G5.ex fun _=>B6.stable E0 _) (fun _ _ _=>G5.ex fun _=>B6.stable E0 _) hv8 hx (⟨⟨.nil,.nil⟩,⟨trivial,trivial⟩,hO⟩) (by decide) (fun _=>rfl) (by kernel_rfl) (by kernel_rfl) ?_ ?_ ?_ ?_
 ·rintro E i12 y9 s10 F11 H hE ⟨⟨t13,t14⟩,⟨ht13,ht14⟩,hO⟩;clear hx h;cbv;exact⟨(),⟨⟨t13,t14⟩,⟨ht13,ht14⟩,hO⟩,.e rfl (.e2 (.e4 .z)),rfl⟩
 ·rintro E i12 _ y9 s10 F11 H o hE hF h ⟨⟨t13,t14⟩,⟨ht13,ht14⟩,hO⟩
  repeat' (cbv;first|apply B7 hE h<;>intro _ h|refine A9 hE h (c73 _ _) .z fun r17 h=>?_|refine D8 hE eBh0 h fun _ h=>?_|refine B9 hE hO 5 rfl rfl fun H hO=>?_|refine B9 hE hO 4 rfl rfl fun H hO=>?_|refine B9 hE hO 3 rfl rfl fun H hO=>?_|(cases h;exact⟨_,rfl,rfl,⟨⟨t13,t14⟩,⟨rfl,⟨ht13,ht14⟩⟩,hO⟩⟩))
  cbv;obtain⟨s18,hx,h⟩:=A7 h;refine L5 cf41 hE J6 (fun e l H1=>∃u1:E7,K6 u1∧∃u2:E7,K6 u2∧e= .normal∧l=[]∧B6 Eq F11 [.tl u1,.tl u2,cb b5 [vi s18.Vars,vi s18.dL,.sl (lst eBi3 s18.cZ) u2,.sl (lst eBg9 s18.dC) u1],cb b3 [vi 0],cb b2 [.sl [] .nil],cb b1 [vi 0,vi 0,.sl [] .nil,.sl [] .nil]] H1) (by kernel_rfl) ?_ ?_
  ·clear h;have h:=hx;cbv;obtain⟨l220,el220,h⟩:=A7 h;obtain⟨l380,el380,h⟩:=A7 h
   repeat' first|refine And.intro ?_ ?_|(refine D0 hE hO 2 rfl ?_;cbv)|(refine N1 (f:=eBi3) hE Ut (by decide) hO 1 rfl ht14 (l:=s10.cZ) (m:=[(⟨r17.1⟩:FK)]) .z (.lstc (.eq (eBk3 (⟨r17.1⟩:FK)) .z) (.lst0)) (Le el220) fun l220 t219 H hO ht219 hh=>?_;obtain rfl:=O8 hh;cbv)|(refine N1 (f:=eBg9) hE Gv (by decide) hO 0 rfl ht13 (l:=s10.dC) (m:=y9.2) .z .z (Le el380) fun l380 t379 H hO ht379 hh=>?_;obtain rfl:=O8 hh;cbv)|(refine B9 hE hO 2 rfl rfl fun H hO=>?_;cbv)|(have h:=O8 h;subst h;exact⟨_,⟨t379,ht379,t219,ht219,rfl,rfl,hO⟩,.z,rfl⟩)
  clear hx;rintro e l H ⟨t619,ht619,t620,ht620,rfl,rfl,hO⟩;cbv;cases h;exact⟨_,rfl,⟨⟨t619,t620⟩,⟨ht619,ht620⟩,hO⟩⟩
 ·rintro d621 s625 H rfl hd ⟨⟨t626,t627⟩,⟨ht626,ht627⟩,hO⟩;have hO:B6 Eq H0 [.tl t626,.tl t627,cb b5 [vi s625.Vars,vi s625.dL,.sl (lst eBi3 s625.cZ) t627,.sl (lst eBg9 s625.dC) t626],cb b3 [vi 0],cb b2 [.sl [] .nil],cb b1 [vi 0,vi 0,.sl [] .nil,.sl [] .nil],.blk d621 DB] H:=B6.dblk hd hO;clear hd
  repeat' (cbv;first|apply B7 hE h<;>intro _ h|apply G9 hE|apply D0 hE hO 2 rfl|apply D0 hE hO 5 rfl|apply D0 hE hO 4 rfl|apply D0 hE hO 3 rfl|apply D0 hE hW 2 rfl|refine B9 hE hO 5 rfl rfl fun H hO=>?_|refine B9 hE hO 4 rfl rfl fun H hO=>?_|refine B9 hE hO 3 rfl rfl fun H hO=>?_|(cases h;exact hK hO (.tup (.cons (.agg (.r (.r (.cons (.lit _ (B5)) (.cons (.lit _ (B5)) .z))))) (.cons (.lit _ (B5)) .z))))|(cases h;exact hK hO (.tup (.cons (.agg (.r (.r (.cons (.ro _ _) (.cons (.ro _ _) .z))))) .z)))|refine Er hE hO 6 rfl fun H hO=>?_|refine SJ hE hO 5 rfl fun _ hT hW=>?_|apply HN hE trivial|refine SN hE hO 5 rfl hT fun H hO=>?_)
 rintro d621 y628 e H rfl hd hX
 rcases hX with⟨⟨t629,t630⟩,⟨rfl,ht629,ht630⟩,hO⟩
 have hO:B6 Eq H0 [.tl t629,.tl t630,cb b5 [vi y628.1.Vars,vi y628.1.dL,.sl (lst eBi3 y628.1.cZ) t630,.sl (lst eBg9 y628.1.dC) t629],cb b3 [vi y628.2],cb b2 [.sl [] .nil],cb b1 [vi 0,vi 0,.sl [] .nil,.sl [] .nil],.blk d621 DB] H:=B6.dblk hd hO;clear hd;cbv;refine Er hE hO 6 rfl fun H hO=>?_;cbv;apply D0 hE hO 5 rfl;cbv;apply D0 hE hO 4 rfl;cbv;apply D0 hE hO 3 rfl;cbv;cases h;exact hK hO (.tup (.cons (.agg (.r (.r (.cons (.lit _ (B5)) (.cons (.lit _ (B5)) .z))))) (.cons (.lit _ (B5)) .z)))
def cf21:=cfA [2]
def c21 (N aA r)(h:DM N aA=some r):C3 prog 21 [(C9 aA)] (.tup [(IH r.1),vi r.2]):=by
 refine N2 cf21 func21 call21 ntmps21 ?_;intro E H0 K hE hK hO;cbv;refine E5 hE hO fun b1 H hO=>?_;cbv;refine A9 hE h (c41 N aA) .z fun r2 h=>?_;cbv;refine B9 hE hO 0 rfl rfl fun H hO=>?_;cbv;apply D0 hE hO 0 rfl;cbv;cases h;exact hK hO .z
def c42 (N:Nat)(aC:List A0)(aY:V)(aS:A0→Option Bool)(bH:∀y1 q,aS y1=some q→AM prog aY [(C9 y1)] (.bool q))(r:Bool)(h:O9 N aC aS=some r):C3 prog 42 [sr eBg8 aC,aY] (.bool r):=by
 refine N2 A8 func42 call42 ntmps42 ?_;intro E H0 K hE hK hO;cbv;refine A9 hE h (c74 N aC aY aS bH) .z fun r1 h=>?_;cbv;cases h;exact hK hO .z
def cf22:=cfC [] [] [(5,4)]
def K22 (N n:Nat):Prop:=∀(aA:A0) (r:Bool),Y1 N n aA=some r→C3 prog 22 [(C9 aA)] (.bool r)
def K43 (N n:Nat):Prop:=∀(aD:A0) (r:Bool),Ay N n aD=some r→C3 prog 43 [(C9 aD)] (.bool r)
def k22 (N n:Nat) (ih43:K43 N n):K22 N (n+1):=by
 intro aA r h
 unfold Y1 at h
 refine N2 cf22 func22 call22 ntmps22 ?_;intro E H0 K hE hK hO;cbv;obtain⟨s1,hx,h⟩:=A7 h;refine L5 cf22 hE J6 (fun e l H1=>e= .normal∧l=[(1,.v (.eref (E1 aA) 0)),(5,.v (.bool s1))]∧B6 Eq H0 [] H1) (by kernel_rfl) ?_ ?_
 ·clear h;have h:=hx
  repeat' (cbv;first|apply B7 hE h<;>intro _ h|(cases h;exact⟨_,⟨rfl,rfl,hO⟩,.e2 .z,rfl⟩))
 clear hx;rintro e l H ⟨rfl,rfl,hO⟩
 repeat' (cbv;first|apply B7 hE h<;>intro _ h|refine A9 hE (g:=fun r2=>.bool r2) h (fun r2 hx=>c42 N aA.cT (.func (.func 43) [] []) (fun y1=>Ay N n y1) (fun y1 r hx=>C3.value (F:=[]) (C:=[]) (ih43 y1 r hx)) r2 hx) .z fun r2 h=>?_|(cases h;exact hK hO .z))
def k43 (N n:Nat)(ih22:K22 N n):K43 N (n+1):=by
 intro aD r h
 unfold Ay at h
 refine N2 A8 func43 call43 ntmps43 ?_;intro E H0 K hE hK hO;cbv;refine A9 hE h (ih22 aD) .z fun r1 h=>?_;cbv;cases h;exact hK hO .z
def AX3 (N:Nat):∀n,K22 N n∧K43 N n:=by
 intro n
 induction n with
 |zero=>exact⟨(by intro aA r h;unfold Y1 at h;cases h),(by intro aD r h;unfold Ay at h;cases h)⟩
 |succ n ih=>
  obtain⟨ih22,ih43⟩:=ih;exact⟨k22 N n ih43,k43 N n ih22⟩
def c22 (N n aA r)(h:Y1 N n aA=some r):C3 prog 22 [(C9 aA)] (.bool r):=(AX3 N n).1 aA r h
def cf117:=cfB [] [(7,9)]
def c117 (N bE aB r)(h:DK N bE aB=some r):C3 prog 117 [(Oy bE),(U9 aB)] (.tup [vi r.1,vi r.2]):=by
 refine N2 cf117 func117 call117 ntmps117 ?_;intro E H0 K hE hK hO
 repeat' (cbv;first|apply B7 hE h<;>intro _ h|apply G9 hE|refine A9 hE h (c163 _ _ _) .z fun _ h=>?_|refine D8 hE eBj0 h fun _ h=>?_|refine D8 hE eBi7 h fun _ h=>?_|refine D8 hE eBi9 h fun _ h=>?_|(cases h;exact hK hO .z))
def cf118:=cfC [] [] [(15,8),(22,13)]
def c118 (N aI aX r) (h:Gb N aI aX=some r):C3 prog 118 [vi aI,sr (V.int .i64) aX] (vi r):=by
 refine N2 cf118 func118 call118 ntmps118 ?_;intro E H0 K hE hK hO;cbv;apply G9 hE;cbv;obtain⟨s2,hx,h⟩:=A7 h;refine H5 cf118 hE J6 (fun s1=>[fi 0 aI,(1,.v (sr (V.int .i64) aX)),(8,.v (sr (V.int .i64) aX)),fi 9 (Ar.len aX),fi 10 s1]) (fun s1 H1=>B6 Eq H0 [] H1) (fun x e l H1=>match(generalizing:=false) x with| .inl y=>e= .exit 0∧l=[]∧B6 Eq H0 [] H1| .inr y=>e= .ret∧l=[fi 4 9]∧B6 Eq H0 [] H1) (by kernel_rfl) ?_ hx ?_ hO ?_
 ·intro s1 H o hO h;cbv;apply B7 hE h<;>intro _ h
  ·cbv;refine D8 hE (fun _=>rfl) h fun x3 h=>?_;cbv;obtain⟨s4,hx,h⟩:=A7 h;refine L5 cf118 hE J6 (fun e l H1=>e= .normal∧l=[fi 0 aI,(1,.v (sr (V.int .i64) aX)),fi 6 x3,(7,.b true),(8,.v (sr (V.int .i64) aX)),fi 9 (Ar.len aX),fi 10 s1,fi 14 aI,(15,.v (.bool s4))]∧B6 Eq H0 [] H1) (by kernel_rfl) ?_ ?_
   ·clear h;have h:=hx
    repeat' (cbv;first|apply B7 hE h<;>intro _ h|(cases h;exact⟨_,⟨rfl,rfl,hO⟩,.e rfl (.e2 (.b rfl (.e rfl (.e rfl (.e rfl (.e rfl (.e rfl (.z)))))))),rfl⟩))
   clear hx;rintro e l H ⟨rfl,rfl,hO⟩
   repeat' (cbv;first|apply B7 hE h<;>intro _ h|(cases h;exact⟨_,_,rfl,⟨rfl,rfl,hO⟩,.e rfl .z,rfl⟩)|(cases h;exact⟨_,rfl,.e rfl (.e4 .z),rfl,hO⟩))
   cbv;obtain⟨s5,hx,h⟩:=A7 h;refine L5 cf118 hE J6 (fun e l H1=>e= .normal∧l=[fi 0 aI,(1,.v (sr (V.int .i64) aX)),fi 6 x3,(7,.b true),(8,.v (sr (V.int .i64) aX)),fi 9 (Ar.len aX),fi 10 s1,fi 14 aI,(22,.v (.bool s5))]∧B6 Eq H0 [] H1) (by kernel_rfl) ?_ ?_
   ·clear h;have h:=hx
    repeat' (cbv;first|apply B7 hE h<;>intro _ h|(cases h;exact⟨_,⟨rfl,rfl,hO⟩,.e rfl (.e2 (.b rfl (.e rfl (.e rfl (.e rfl (.e rfl (.e rfl (.z)))))))),rfl⟩))
   clear hx;rintro e l H ⟨rfl,rfl,hO⟩
   repeat' (cbv;first|apply B7 hE h<;>intro _ h|refine D8 hE (fun _=>rfl) h fun _ h=>?_|(cases h;exact⟨_,_,rfl,⟨rfl,rfl,hO⟩,.e rfl .z,rfl⟩)|(cases h;exact⟨_,rfl,.e rfl (.e4 .z),rfl,hO⟩))
  cbv;cases h;exact⟨_,_,rfl,⟨rfl,rfl,hO⟩,.z,rfl⟩
 ·exact .e rfl (.e4 .z)
 clear hx
 rcases s2 with y7|y8
 ·rintro e l H ⟨rfl,rfl,hO⟩;cbv;cases h;exact hK hO .z
 rintro e l H ⟨rfl,rfl,hO⟩;cbv;cases h;exact hK hO .z
def c76 (N:Nat):∀n bE aB r,Ag N n bE aB=some r→C3 prog 76 [(Oy bE),(U9 aB)] (.tup [vi r.1,vi r.2]):=by
 intro n
 induction n with
 |zero=>intro bE aB r h;cases h
 |succ n ih=>
 intro bE aB r h
 unfold Ag at h
 refine N2 A8 func76 call76 ntmps76 ?_;intro E H0 K hE hK hO
 repeat' (cbv;first|apply B7 hE h<;>intro _ h|apply G9 hE|refine A9 hE h (c117 _ _ _) .z fun _ h=>?_|(cases h;exact hK hO .z))
 cbv;replace hO:=hO.tl0 (t:=.nil) rfl;obtain⟨s4,hx,h⟩:=A7 h;refine J9 A8 hE J6 (γ:=E7) (fun s2 g=>[(2,.v (.eref (Pt bE) 0)),(3,.v (.eref (Aq aB) 0)),(6,.v (.sl (lst (V.int .i64) s2.1) g)),(22,.v (sr eBh2 aB.cT)),fi 23 (Ar.len aB.cT),fi 24 s2.2]) (fun s2 g H1=>K6 g∧B6 Eq H0 [.tl g] H1) (fun x e l H1=>match(generalizing:=false) x with| .inl y=>∃u1:E7,K6 u1∧e= .exit 0∧l=[(3,.v (.eref (Aq aB) 0)),(6,.v (.sl (lst (V.int .i64) y) u1))]∧B6 Eq H0 [.tl u1] H1| .inr y=>∃u1:E7,K6 u1∧e= .ret∧l=[fi 4 0,fi 5 y]∧B6 Eq H0 [.tl u1] H1) (by kernel_rfl) ?_ .nil hx ?_ ?_ ?_
 ·rintro s2 t3 H o ⟨ht3,hO⟩ h
  repeat' (cbv;first|apply B7 hE h<;>intro _ h|refine A9 hE h (ih _ _) .z fun r6 h=>?_|refine D8 hE eBi0 h fun _ h=>?_|(cases h;exact⟨_,_,rfl,⟨t3,ht3,rfl,rfl,hO⟩,.e2 .z,rfl⟩)|(cases h;exact⟨_,t7,rfl,.e2 (.e4 .z),rfl,ht7,hO⟩)|refine N1 (f:=(V.int .i64)) hE (fun _=>rfl) (by decide) hO 0 rfl ht3 (l:=s2.1) (m:=[r6.1]) .z (.lstc .z (.lst0)) h fun _ t7 H hO ht7 h=>?_)
 ·exact .e2 (.v (.slt _ (.lst0)) (.e rfl (.e rfl (.e rfl (.z)))))
 ·exact⟨trivial,hO⟩
 clear hx
 rcases s4 with y9|y12
 ·rintro e l H ⟨t10,ht10,rfl,rfl,hO⟩
  repeat' (cbv;first|apply B7 hE h<;>intro _ h|refine A9 hE h (c118 _ _ _) (.r (.cons (.ro _ _) .z)) fun _ h=>?_|(cases h;exact hK hO .z))
 rintro e l H ⟨t13,ht13,rfl,rfl,hO⟩;cbv;cases h;exact hK hO .z
def c44 (N aJ aR aB r) (h:Nd N aJ aR aB=some r):C3 prog 44 [sr eBh4 aJ,sr eBh6 aR,(U9 aB)] (.tup [vi r.1,vi r.2]):=by
 refine N2 A8 func44 call44 ntmps44 ?_;intro E H0 K hE hK hO
 repeat' (cbv;first|apply B7 hE h<;>intro _ h|apply G9 hE|refine A9 hE h (c20 _ _) .z fun _ h=>?_|(cases h;exact hK hO .z))
 cbv;obtain⟨s3,hx,h⟩:=A7 h;refine H5 A8 hE J6 (fun s2=>[(0,.v (sr eBh4 aJ)),(1,.v (sr eBh6 aR)),(5,.v (.eref (Aq aB) 0)),(20,.v (sr eBh6 aR)),fi 21 (Ar.len aR),fi 22 s2]) (fun s2 H1=>B6 Eq H0 [] H1) (fun x e l H1=>match(generalizing:=false) x with| .inl y=>e= .exit 0∧l=[(0,.v (sr eBh4 aJ)),(1,.v (sr eBh6 aR)),(5,.v (.eref (Aq aB) 0))]∧B6 Eq H0 [] H1| .inr y=>e= .ret∧l=[fi 6 0,fi 7 6]∧B6 Eq H0 [] H1) (by kernel_rfl) ?_ hx ?_ hO ?_
 ·intro s2 H o hO h
  repeat' (cbv;first|apply B7 hE h<;>intro _ h|apply G9 hE|refine D8 hE eBj0 h fun _ h=>?_|(cases h;exact⟨_,_,rfl,⟨rfl,rfl,hO⟩,.e2 .z,rfl⟩)|(cases h;exact⟨_,rfl,.e2 (.e4 .z),rfl,hO⟩)|(cases h;exact⟨_,_,rfl,⟨rfl,rfl,hO⟩,.e rfl (.e2 .z),rfl⟩))
 ·exact .e2 (.e4 .z)
 clear hx
 rcases s3 with y5|y8
 ·rintro e l H ⟨rfl,rfl,hO⟩
  repeat' (cbv;first|apply B7 hE h<;>intro _ h|refine A9 hE h (c75 _ _) .z fun _ h=>?_|refine A9 hE h (c76 _ _ _ _) .z fun _ h=>?_|(cases h;exact hK hO .z))
 rintro e l H ⟨rfl,rfl,hO⟩;cbv;cases h;exact hK hO .z
def c120 (N aG aQ r)(h:TI N aG aQ=some r):C3 prog 120 [.int .u64 aG,.int .u64 aQ] (.tup [.int .u64 r.1,.int .u64 r.2]):=by
 refine N2 A8 func120 call120 ntmps120 ?_;intro E H0 K hE hK hO
 repeat' (cbv;first|(cases h;exact hK hO .z)|apply Ai1 hE (YY hE rfl))
def c77 (N aG aQ r)(h:Ze N aG aQ=some r):C3 prog 77 [.int .u64 aG,.int .u64 aQ] (.tup [.int .u64 r.1,.int .u64 r.2]):=by
 refine N2 A8 func77 call77 ntmps77 ?_;intro E H0 K hE hK hO;cbv;refine A9 hE h (c120 N aG aQ) .z fun r1 h=>?_;cbv;cases h;exact hK hO .z
def cf45:Cf:=⟨[],[(3000009,0),(3000009,1),(3000009,2),(3000009,4),(3000009,5),(3000009,8),(3000009,9)],[(10,3),(26,6)],[2000009],[],[]⟩
set_option maxHeartbeats 2000000 in
def c45 (N aG bZ r) (h:D3 N aG bZ=some r):C3 prog 45 [sr eBh6 aG,vi bZ] (sr eBh6 r):=by
 refine AL (T:=TT) cf45 J6 func45 (by rfl) (by kernel_rfl) call45 ntmps45 (by rfl) (by rfl) ?_;intro E H0 K hE hK hF;have hO:B6 Eq H0 [] H0:=.start E0 rfl;cbv;obtain⟨s1,hx,h⟩:=A7 h;refine L5 cf45 hE J6 (fun e l H1=>e= .normal∧l=[(0,.v (sr eBh6 aG)),fi 1 bZ]∧B6 Eq H0 [] H1) (by kernel_rfl) ?_ ?_
 ·clear h;have h:=hx;cbv;apply B7 hE h<;>intro _ h
  ·cbv;cases h
  cbv;cases h;exact⟨_,⟨rfl,rfl,hO⟩,.e2 .z,rfl⟩
 clear hx;rintro e l H ⟨rfl,rfl,hO⟩
 repeat' (cbv;first|apply G9 hE|refine A9 hE h (c77 _ _ _) .z fun r2 h=>?_)
 cbv;obtain⟨s3,hx,h⟩:=A7 h;refine L5 cf45 hE J6 (fun e l H1=>e= .normal∧l=[(0,.v (sr eBh6 aG)),(6,.v (.int .u64 r2.2))]∧B6 Eq H0 [] H1) (by kernel_rfl) ?_ ?_
 ·clear h;have h:=hx;cbv;apply B7 hE h<;>intro _ h
  ·cbv;cases h
  cbv;cases h;exact⟨_,⟨rfl,rfl,hO⟩,.e2 .z,rfl⟩
 clear hx;rintro e l H ⟨rfl,rfl,hO⟩;cbv;refine SL hE (f:=eBh6) (by decide) (z0:=((⟨⟨#[]⟩,0⟩:B3):B3)) ((.eq (eBj0 _) .z)) hO h fun l5 q4 H hq4 h hO=>?_;cbv;refine AM6 (f:=eBh6) hE hO hq4 0 rfl (m:=aG) (Ct (f:=eBh6) hE Oz .z) h fun p6 H hq4 hO h=>?_;cbv;obtain⟨s9,hx,h⟩:=A7 h;refine J9 cf45 hE J6 (γ:=OG) (fun s7 g=>[(7,.v (.own g.id g.lo g.n)),fi 8 s7.1]) (fun s7 g H1=>Bz g (Ar.len s7.2)∧B6 Eq H0 [ob g 2 eBh6 s7.2] H1) (fun x e l H1=>∃u1:OG,Bz u1 (Ar.len x)∧e= .exit 0∧l=[(7,.v (.own u1.id u1.lo u1.n))]∧B6 Eq H0 [ob u1 2 eBh6 x] H1) (by kernel_rfl) ?_ q4 hx ?_ ?_ ?_
 ·rintro s7 q8 H o ⟨hq8,hO⟩ h;cbv;apply KB hE hq8;cbv;apply B7 hE h<;>intro _ h
  ·cbv;obtain⟨s10,hx,h⟩:=A7 h;refine L5 cf45 hE J6 (fun e l H1=>∃u1:OG,Bz u1 (Ar.len s10.2)∧e= .normal∧l=[(7,.v (.own u1.id u1.lo u1.n)),fi 8 s10.1]∧B6 Eq H0 [ob u1 2 eBh6 s10.2] H1) (by kernel_rfl) ?_ ?_
   ·clear h;have h:=hx;cbv;obtain⟨l132,el132,h⟩:=A7 h;obtain⟨l252,el252,h⟩:=A7 h;obtain⟨p291,ep291,h⟩:=A7 h
    repeat' first|refine And.intro ?_ ?_|(refine Aq4 hE hO hq8 0 rfl (Le el132) fun l132 q131 hq131 hh=>?_;obtain rfl:=O8 hh;cbv)|(refine Aq3 hE hO hq8 0 rfl (Le el252) fun l252 q251 hq251 hh=>?_;obtain rfl:=O8 hh;cbv)|(refine XX (f:=eBh6) hE hO hq8 0 rfl hq131 (m:=l252) (hq251) (Le ep291) fun p291 H hq8 hO hh=>?_;obtain rfl:=O8 hh;cbv)|(have h:=O8 h;subst h;exact⟨_,⟨q8,hq8,rfl,rfl,hO⟩,.e2 .z,rfl⟩)
   clear hx;rintro e l H ⟨q451,hq451,rfl,rfl,hO⟩;cbv;cases h;exact⟨_,q451,rfl,.e2 .z,rfl,hq451,hO⟩
  cbv;cases h;exact⟨_,_,rfl,⟨q8,hq8,rfl,rfl,hO⟩,.e rfl .z,rfl⟩
 ·exact .e2 .z
 ·exact⟨hq4,hO⟩
 clear hx;rintro e l H ⟨q452,hq452,rfl,rfl,hO⟩;cbv;cases h;exact hF q452 _ _ 0 _ _ hO rfl (AN hE hq452) .z
def c61 (N r)(h:Cm N=some r):C3 prog 61 [] (sr eBg7 r):=by
 refine N2 A8 func61 call61 ntmps61 ?_;intro E H0 K hE hK hO;cbv;cases h;exact hK hO (.lit _ (F2 ((eBh1 (⟨(-1099511627776),1099511627776⟩:A3)).symm) (B5)))
def cf78:Cf:=⟨[6,10],[(3,9),(5,12)],[(37,8),(62,12)],[],[],[(3,6,[6]),(5,6,[6])]⟩
def c78 (N:Nat):∀n aB aM aL r,Q4 N n aB aM aL=some r→C3 prog 78 [(U9 aB),vi aM,vi aL] (.tup [(Dh r.1),.bool r.2]):=by
 intro n
 induction n with
 |zero=>intro aB aM aL r h;cases h
 |succ n ih=>
 intro aB aM aL r h
 unfold Q4 at h
 refine N2 cf78 func78 call78 ntmps78 ?_;intro E H0 K hE hK hO;cbv;refine E5 hE hO fun b1 H hO=>?_;cbv;apply B7 hE h<;>intro _ h
 ·cbv;refine SJ hE hO 0 rfl fun H1 hT hW=>?_;cbv;apply HN hE trivial;cbv;refine SN hE hO 0 rfl hT fun H hO=>?_;cbv;apply D0 hE hO 0 rfl;cbv;cases h;exact hK hO .z
 cbv;apply B7 hE h<;>intro _ h
 ·cbv;refine SJ hE hO 0 rfl fun H1 hT hW=>?_;cbv;apply HN hE trivial;cbv;refine SN hE hO 0 rfl hT fun H hO=>?_;cbv;apply D0 hE hO 0 rfl;cbv;cases h;exact hK hO .z
 cbv;obtain⟨s2,hx,h⟩:=A7 h;refine L5 cf78 hE J6 (fun e l H1=>e= .normal∧l=[fi 1 aM,fi 2 aL,(3,.v (.eref (Aq aB) 0)),(6,.v (.ref b1 0)),(37,.v (.bool s2))]∧B6 Eq H0 [cb b1 [vi 0,vi 0]] H1) (by kernel_rfl) ?_ ?_
 ·clear h;have h:=hx;cbv;apply B7 hE h<;>intro _ h
  ·cbv;cases h;exact⟨_,⟨rfl,rfl,hO⟩,.e rfl (.e4 .z),rfl⟩
  cbv;cases h;exact⟨_,⟨rfl,rfl,hO⟩,.e rfl (.e4 .z),rfl⟩
 clear hx;rintro e l H ⟨rfl,rfl,hO⟩;cbv;apply B7 hE h<;>intro _ h
 ·cbv;refine D8 hE eBi0 h fun x3 h=>?_;cbv;refine A9 hE h (ih x3 aM aL) .z fun r4 h=>?_;cbv;refine D8 hE eBi0 h fun x5 h=>?_;cbv;refine A9 hE h (ih x5 aM aL) .z fun r6 h=>?_;cbv;refine E5 hE hO fun b7 H hO=>?_;cbv;refine B9 hE hO 0 rfl rfl fun H hO=>?_;cbv;obtain⟨s8,hx,h⟩:=A7 h;refine L5 cf78 hE J6 (fun e l H1=>e= .normal∧l=[(6,.v (.ref b1 0)),(8,.v (.eref (FG r4.1) 0)),(9,.v (.bool r4.2)),(10,.v (.ref b7 0)),(11,.v (.bool r6.2))]∧B6 Eq H0 [cb b7 (FG s8),cb b1 [vi 0,vi 0]] H1) (by kernel_rfl) ?_ ?_
  ·clear h;have h:=hx;cbv;apply B7 hE h<;>intro _ h
   ·cbv;apply D0 hE hO 0 rfl;cbv;apply D0 hE hO 0 rfl;cbv;refine B9 hE hO 0 rfl rfl fun H hO=>?_;cbv;cases h;exact⟨_,⟨rfl,rfl,hO⟩,.e rfl (.e4 .z),rfl⟩
   cbv;cases h;exact⟨_,⟨rfl,rfl,hO⟩,.e rfl (.e4 .z),rfl⟩
  clear hx;rintro e l H ⟨rfl,rfl,hO⟩;cbv;apply D0 hE hO 0 rfl;cbv;apply D0 hE hO 0 rfl;cbv;refine B9 hE hO 1 rfl rfl fun H hO=>?_;cbv;apply D0 hE hO 1 rfl;cbv;cases h;exact hK hO .z
 cbv;refine B9 hE hO 0 rfl rfl fun H hO=>?_;cbv;apply D0 hE hO 0 rfl;cbv;cases h;exact hK hO .z
def c126 (N aF r)(h:BG N aF=some r):C3 prog 126 [sr eBg7 aF] (.tup [sr eBg7 r.1,vi r.2]):=by
 refine N2 A8 func126 call126 ntmps126 ?_;intro E H0 K hE hK hO;cbv;apply G9 hE;cbv;apply B7 hE h<;>intro _ h
 ·cbv;cases h;exact hK hO (.tup (.cons (.lit _ (B5)) .z))
 cbv;cases h;exact hK hO .z
def c146 (N aG r)(h:DJ N aG=some r):C3 prog 146 [(Ae aG)] (vi r):=by
 refine N2 A8 func146 call146 ntmps146 ?_;intro E H0 K hE hK hO
 repeat' (cbv;first|apply B7 hE h<;>intro _ h|(cases h;exact hK hO .z))
def cf99:=cfB [4] [(9,12)]
def c99 (N aF r) (h:Y9 N aF=some r):C3 prog 99 [sr eBg7 aF] (vi r):=by
 refine N2 cf99 func99 call99 ntmps99 ?_;intro E H0 K hE hK hO
 repeat' (cbv;first|apply B7 hE h<;>intro _ h|apply G9 hE|(cases h;exact hK hO .z))
 cbv;obtain⟨s2,hx,h⟩:=A7 h;refine H5 cf99 hE J6 (fun s1=>[(0,.v (sr eBg7 aF)),(9,.v (sr eBg7 aF)),fi 10 (Ar.len aF),fi 11 s1]) (fun s1 H1=>B6 Eq H0 [] H1) (fun x e l H1=>match(generalizing:=false) x with| .inl y=>e= .exit 0∧l=[]∧B6 Eq H0 [] H1| .inr y=>e= .ret∧l=[fi 2 y]∧B6 Eq H0 [] H1) (by kernel_rfl) ?_ hx ?_ hO ?_
 ·intro s1 H o hO h
  repeat' (cbv;first|apply B7 hE h<;>intro _ h|refine A9 hE h (c146 _ _) .z fun _ h=>?_|refine D8 hE eBh1 h fun _ h=>?_|apply D0 hE hO 0 rfl|refine B9 hE hO 0 rfl rfl fun H hO=>?_|refine E5 hE hO fun _ H hO=>?_|(cases h;exact⟨_,_,rfl,⟨rfl,rfl,hO.tail⟩,.e rfl .z,rfl⟩)|(cases h;exact⟨_,rfl,.e4 .z,rfl,hO.tail⟩)|(cases h;exact⟨_,_,rfl,⟨rfl,rfl,hO⟩,.z,rfl⟩))
 ·exact .e4 .z
 clear hx
 rcases s2 with y7|y8
 ·rintro e l H ⟨rfl,rfl,hO⟩;cbv;cases h;exact hK hO .z
 rintro e l H ⟨rfl,rfl,hO⟩;cbv;cases h;exact hK hO .z
def c166 (N aD aE r)(h:Ju N aD aE=some r):C3 prog 166 [sr eBg7 aD,sr eBg7 aE] (vi r):=by
 refine N2 A8 func166 call166 ntmps166 ?_;intro E H0 K hE hK hO
 repeat' (cbv;first|apply B7 hE h<;>intro _ h|refine A9 hE h (c99 _ _) .z fun _ h=>?_|(cases h;exact hK hO .z))
def c147 (N:Nat) (aG:List A3) (bQ:Int) (cL:V) (cE:A3→Int→Option Int) (cR:∀y1 y2 q,cE y1 y2=some q→AM prog cL [(Ae y1),vi y2] (vi q)) (r:(Int×Bool)) (h:O4 N aG bQ cE=some r):C3 prog 147 [sr eBg7 aG,vi bQ,cL] (.tup [vi r.1,.bool r.2]):=by
 refine N2 A8 func147 call147 ntmps147 ?_;intro E H0 K hE hK hO;cbv;apply G9 hE;cbv;obtain⟨s2,hx,h⟩:=A7 h;refine H5 A8 hE J6 (fun s1=>[(0,.v (sr eBg7 aG)),fi 1 bQ,(2,.v (cL)),fi 8 (Ar.len aG),fi 9 s1.1,fi 10 s1.2]) (fun s1 H1=>B6 Eq H0 [] H1) (fun x e l H1=>e= .exit 0∧l=[(0,.v (sr eBg7 aG)),fi 1 bQ,(2,.v (cL)),fi 8 (Ar.len aG),fi 9 x]∧B6 Eq H0 [] H1) (by kernel_rfl) ?_ hx ?_ hO ?_
 ·intro s1 H o hO h
  repeat' (cbv;first|apply B7 hE h<;>intro _ h|refine DI hE (g:=fun r4=>vi r4) h (fun r4 hx=>cR x3 bQ r4 hx) .z fun r4 h=>?_|refine D8 hE eBh1 h fun x3 h=>?_|(cases h;exact⟨_,rfl,.e2 (.e4 .z),rfl,hO⟩)|(cases h;exact⟨_,_,rfl,⟨rfl,rfl,hO⟩,.e rfl (.e4 .z),rfl⟩)|apply Ai1 hE (YY hE rfl))
 ·exact .e2 (.e4 .z)
 clear hx;rintro e l H ⟨rfl,rfl,hO⟩
 repeat' (cbv;first|apply B7 hE h<;>intro _ h|refine DI hE (g:=fun r6=>vi r6) h (fun r6 hx=>cR x5 bQ r6 hx) .z fun r6 h=>?_|refine D8 hE eBh1 h fun x5 h=>?_|(cases h;exact hK hO .z))
def c148 (N aG aK r)(h:BH N aG aK=some r):C3 prog 148 [(Ae aG),vi aK] (vi r):=by
 refine N2 A8 func148 call148 ntmps148 ?_;intro E H0 K hE hK hO
 repeat' (cbv;first|apply B7 hE h<;>intro _ h|(cases h;exact hK hO .z))
def c100 (N aF aK r)(h:Bb N aF aK=some r):C3 prog 100 [sr eBg7 aF,vi aK] (.bool r):=by
 refine N2 A8 func100 call100 ntmps100 ?_;intro E H0 K hE hK hO;cbv;refine A9 hE (g:=fun r1=>.tup [vi r1.1,.bool r1.2]) h (fun r1 hx=>c147 N aF aK (.func (.func 148) [] []) (fun y1 y2=>BH N y1 y2) (fun y1 y2 r hx=>C3.value (F:=[]) (C:=[]) (c148 N y1 y2 r hx)) r1 hx) .z fun r1 h=>?_;cbv;cases h;exact hK hO .z
def cf222:=cfA [22]
def c222 (N aC aK r) (h:R7 N aC aK=some r):PB prog 222 [.sl [] .nil,vi aK] 2 (lst eBg7 r):=by
 obtain⟨h1,h2,hr⟩:=OW (f:=eBg7) h;rw[hr];clear hr h;intro H0
 have hneg:∀b,Ar.cmp .lss aK 0=b→b=false:=fun b h=>by rw[Ar.cmp_eq]at h;subst h;simp[Ij];omega
 have hsub:ar .sub .i64 aK (ar .sub .i64 0 0)=aK:=by rw[Ar.ar_eq,Ar.ar_eq];simp only[arI];rw[show(0:Int)-0=0 from rfl,wrap_small 0 (by omega) (by omega),Ik];exact wrap_small _ (by omega) (by omega)
 have hgt:∀b,Ar.cmp .gtr (ar .sub .i64 aK (ar .sub .i64 0 0)) 0=b→(b=false→aK=0):=fun b h=>by rw[hsub,Ar.cmp_eq]at h;subst h;simp[Ij];omega
 have hbn:aK.toNat*16≤140737488355328:=by have:=MZ (a:=aK.toNat) (b:=0) (by_:=16) (by omega) (by decide);simpa using this
 have hl0:(0:Int)=(([]:List V).length:Nat):=rfl;refine Dr (T:=TT) cf222 J6 func222 (by rfl) (by kernel_rfl) call222 ntmps222 (by rfl) (by rfl) ?_;intro E K hE hK hN;cbv;refine PV hE (fun hc=>absurd (hneg _ hc) (by decide)) (fun hc=>?_);cbv;refine VS hE hl0 ?_;cbv;refine PV hE (fun hc2=>?_) (fun hc2=>?_)
 ·cbv;refine Ru hE ?_;cbv;refine OK hE aK hsub (.inl rfl) h1 hbn fun t m row j ht hm hrow=>?_;obtain⟨RL,hRL,hR0⟩:∃RL:Int,RL=(row.length:Nat)∧0≤RL:=⟨_,rfl,by omega⟩;cbv;refine VS hE hl0 ?_;cbv;refine Y7 hE (E4 _ _ _) hRL 0 0 rfl rfl (S0 _) (S0 _) hR0 fun l' n' q1 q2=>?_;cbv
  have e1:0=l':=by omega
  have e2:0=n':=by omega
  subst e1 e2;exact hK ⟨t,0,0,[],row⟩ [] _ ⟨rfl,rfl⟩ ((B6.start E0 rfl).push ht rfl)
 cbv;exact hN rfl [] H0 (.start E0 rfl)
def c198 (N aO r) (h:Q8 N aO=some r):C3 prog 198 [sr eBh3 aO] (sr eBg7 r):=by
 refine AL (T:=TT) A8 J6 func198 (by rfl) (by kernel_rfl) call198 ntmps198 (by rfl) (by rfl) ?_;intro E H0 K hE hK hF;have hO:B6 Eq H0 [] H0:=.start E0 rfl;cbv;apply G9 hE;cbv;obtain⟨s2,hx,h⟩:=A7 h;refine H5 A8 hE J6 (fun s1=>[(0,.v (sr eBh3 aO)),fi 3 s1.1,(9,.v (sr eBh3 aO)),fi 10 (Ar.len aO),fi 11 s1.2]) (fun s1 H1=>B6 Eq H0 [] H1) (fun x e l H1=>e= .exit 0∧l=[(0,.v (sr eBh3 aO)),fi 3 x]∧B6 Eq H0 [] H1) (by kernel_rfl) ?_ hx ?_ hO ?_
 ·intro s1 H o hO h
  repeat' (cbv;first|apply B7 hE h<;>intro _ h|apply G9 hE|refine D8 hE eBh5 h fun _ h=>?_|(cases h;done)|(cases h;exact⟨_,rfl,.e rfl (.e4 .z),rfl,hO⟩)|(cases h;exact⟨_,_,rfl,⟨rfl,rfl,hO⟩,.e2 .z,rfl⟩))
 ·exact .e rfl (.e4 .z)
 clear hx;rintro e l H ⟨rfl,rfl,hO⟩;cbv;refine Hh hE (f:=eBg7) h (c222 N [] s2) (.r (.r .nil)) hO fun l4 q5 H hq5 hO h=>?_;cbv;apply G9 hE;cbv;obtain⟨s8,hx,h⟩:=A7 h;refine J9 A8 hE J6 (γ:=OG) (fun s6 g=>[(6,.v (.own g.id g.lo g.n)),(25,.v (sr eBh3 aO)),fi 26 (Ar.len aO),fi 27 s6.1]) (fun s6 g H1=>Bz g (Ar.len s6.2)∧B6 Eq H0 [ob g 2 eBg7 s6.2] H1) (fun x e l H1=>∃u1:OG,Bz u1 (Ar.len x)∧e= .exit 2∧l=[(6,.v (.own u1.id u1.lo u1.n))]∧B6 Eq H0 [ob u1 2 eBg7 x] H1) (by kernel_rfl) ?_ q5 hx ?_ ?_ ?_
 ·rintro s6 q7 H o ⟨hq7,hO⟩ h;cbv;apply B7 hE h<;>intro _ h
  ·cbv;refine D8 hE eBh5 h fun x9 h=>?_;cbv;refine DX (f:=eBg7) hE G8 (by decide) hO hq7 0 rfl (m:=x9) (Ct (f:=eBg7) hE G8 .z) h fun l11 q10 H hq10 hO h=>?_;cbv;cases h;exact⟨_,q10,rfl,.e4 .z,rfl,hq10,hO⟩
  cbv;cases h;exact⟨_,_,rfl,⟨q7,hq7,rfl,rfl,hO⟩,.e rfl .z,rfl⟩
 ·exact .e4 .z
 ·exact⟨hq5,hO⟩
 clear hx;rintro e l H ⟨q12,hq12,rfl,rfl,hO⟩;cbv;cases h;exact hF q12 _ _ 0 _ _ hO rfl (AN hE hq12) .z
def c199 (N aC r)(h:CL N aC=some r):AI2 prog 199 aC r:=Ae1 Go.Proofs.Tryz.laysNm189 call199 h
def c200 (N aC r)(h:BA N aC=some r):Qp prog 200 [] 1 (lst (V.int .i64) aC) (lst (V.int .i64) r):=TB Go.Proofs.Tryz.laysNm220 call200 h
def cf201:=cfB [] [(2,12),(3,12)]
def c201 (N aF aG r) (h:Dz N aF aG=some r):Qp prog 201 [(Ae aG)] 2 (lst eBg7 aF) (lst eBg7 r):=by
 intro H0 q0 hq0 hk0;refine Dr (T:=TT) (F:=upd H0 q0.id none) cf201 J6 func201 (by rfl) (by kernel_rfl) call201 ntmps201 (by rfl) (by rfl) ?_;intro E K hE hK hN;have hO:B6 Eq (upd H0 q0.id none) [ob q0 2 eBg7 aF] H0:=B6.startO hk0;have hq0:Bz q0 (Ar.len aF):=AM4 hq0;cbv;apply KB hE hq0;cbv;apply B7 hE h<;>intro _ h
 ·cbv;refine BF hE hO hq0 0 rfl h fun h=>?_;cbv;refine DH hE eBh1 hO hq0 0 rfl h fun x1 h=>?_
  repeat' (cbv;first|apply B7 hE h<;>intro _ h|(cases h;exact hK q0 _ _ (AN hE hq0) (hO))|(cases h;exact hK q5 _ _ (AN hE hq5) (hO))|refine BF hE hO hq0 0 rfl h fun h=>?_|refine DH hE eBh1 hO hq0 0 rfl h fun x2 h=>?_|(refine BE hE (f:=eBg7) (esz:=2) (tz:=1) (off:=1) (u:=(fun x3:A3=>{x3 with cV:=mx x2.cV aG.cV})) (fun x3=>⟨.int .i64 (mx x2.cV aG.cV),.refl _,rfl,rfl,(by rw[eBh1,eBh1];rfl)⟩) (by decide) hO hq0 0 rfl h fun _ H hq0 h hO=>?_)|refine DX (f:=eBg7) hE G8 (by decide) hO hq0 0 rfl (m:=[aG]) (Ct (f:=eBg7) hE G8 (.lstc (.eq (eBh1 aG) .z) (.lst0))) h fun _ q5 H hq5 hO h=>?_)
 cbv;refine DX (f:=eBg7) hE G8 (by decide) hO hq0 0 rfl (m:=[aG]) (Ct (f:=eBg7) hE G8 (.lstc (.eq (eBh1 aG) .z) (.lst0))) h fun l8 q7 H hq7 hO h=>?_;cbv;cases h;exact hK q7 _ _ (AN hE hq7) (hO)
def cf167:=cfB [6000007,6000010] [(13,13),(14,12)]
def c167 (N:Nat) (aD:List A3) (aE:List A3) (bS:V) (bM:Bool→Bool→Option Bool) (cP:∀y1 y2 q,bM y1 y2=some q→AM prog bS [.bool y1,.bool y2] (.bool q)) (r:(List A3)) (h:EO N aD aE bM=some r):C3 prog 167 [sr eBg7 aD,sr eBg7 aE,bS] (sr eBg7 r):=by
 refine AL (T:=TT) cf167 J6 func167 (by rfl) (by kernel_rfl) call167 ntmps167 (by rfl) (by rfl) ?_;intro E H0 K hE hK hF;have hO:B6 Eq H0 [] H0:=.start E0 rfl;cbv;refine KA hE (f:=(V.int .i64)) hO fun q1 H hq1 hO=>?_;cbv;refine A9 hE h (c198 N ([aD,aE])) (.cons (.lit _ (F2 ((eBh5 aD).symm) (F2 ((eBh5 aE).symm) (B5)))) .z) fun r2 h=>?_;cbv;apply G9 hE;cbv;obtain⟨s5,hx,h⟩:=A7 h;refine J9 cf167 hE J6 (γ:=OG) (fun s3 g=>[(0,.v (sr eBg7 aD)),(1,.v (sr eBg7 aE)),(2,.v (bS)),(7,.v (.own g.id g.lo g.n)),(15,.v (sr eBg7 r2)),fi 16 (Ar.len r2),fi 17 s3.1]) (fun s3 g H1=>Bz g (Ar.len s3.2)∧B6 Eq H0 [ob g 1 (V.int .i64) s3.2] H1) (fun x e l H1=>∃u1:OG,Bz u1 (Ar.len x)∧e= .exit 0∧l=[(0,.v (sr eBg7 aD)),(1,.v (sr eBg7 aE)),(2,.v (bS)),(7,.v (.own u1.id u1.lo u1.n))]∧B6 Eq H0 [ob u1 1 (V.int .i64) x] H1) (by kernel_rfl) ?_ q1 hx ?_ ?_ ?_
 ·rintro s3 q4 H o ⟨hq4,hO⟩ h;cbv;apply B7 hE h<;>intro _ h
  ·cbv;refine D8 hE eBh1 h fun x6 h=>?_;cbv;refine DX (f:=(V.int .i64)) hE (fun _=>rfl) (by decide) hO hq4 0 rfl (m:=[x6.Low,ar .add .i64 x6.cV 1]) (Ct (f:=(V.int .i64)) hE (fun _=>rfl) (.lstc .z (.lstc .z (.lst0)))) h fun l8 q7 H hq7 hO h=>?_;cbv;cases h;exact⟨_,q7,rfl,.e rfl (.e2 (.e4 .z)),rfl,hq7,hO⟩
  cbv;cases h;exact⟨_,_,rfl,⟨q4,hq4,rfl,rfl,hO⟩,.e4 .z,rfl⟩
 ·exact .e rfl (.e2 (.e4 .z))
 ·exact⟨hq1,hO⟩
 clear hx;rintro e l H ⟨q9,hq9,rfl,rfl,hO⟩;cbv;refine AM7 hE hO hq9 0 rfl h (c199 N s5) fun l10 H hq9 hO h=>?_;cbv;refine OQ hE (f:=(V.int .i64)) hO hq9 0 rfl h (c200 N l10) .z fun l11 q12 H hq12 hO h=>?_;cbv;refine KA hE (f:=eBg7) hO fun q13 H hq13 hO=>?_;cbv;obtain⟨s16,hx,h⟩:=A7 h;refine J9 cf167 hE J6 (γ:=OG) (fun s14 g=>[(0,.v (sr eBg7 aD)),(1,.v (sr eBg7 aE)),(2,.v (bS)),(7,.v (.own q12.id q12.lo q12.n)),(10,.v (.own g.id g.lo g.n)),fi 11 s14.1]) (fun s14 g H1=>Bz g (Ar.len s14.2)∧B6 Eq H0 [ob g 2 eBg7 s14.2,ob q12 1 (V.int .i64) l11] H1) (fun x e l H1=>∃u1:OG,Bz u1 (Ar.len x)∧e= .exit 2∧l=[(10,.v (.own u1.id u1.lo u1.n))]∧B6 Eq H0 [ob u1 2 eBg7 x,ob q12 1 (V.int .i64) l11] H1) (by kernel_rfl) ?_ q13 hx ?_ ?_ ?_
 ·rintro s14 q15 H o ⟨hq15,hO⟩ h;cbv;apply KB hE hq12;cbv;apply B7 hE h<;>intro _ h
  ·cbv;refine BF hE hO hq12 1 rfl h fun h=>?_;cbv;refine DH hE (fun _=>rfl) hO hq12 1 rfl h fun x17 h=>?_;cbv;refine K7 hE (g:=fun r18=>.bool r18) h (c100 N aD x17) .z fun r18 h=>?_;cbv;refine BF hE hO hq12 1 rfl h fun h=>?_;cbv;refine DH hE (fun _=>rfl) hO hq12 1 rfl h fun x19 h=>?_;cbv;refine K7 hE (g:=fun r20=>.bool r20) h (c100 N aE x19) .z fun r20 h=>?_;cbv;refine DI hE (g:=fun r21=>.bool r21) h (fun r21 hx=>cP r18 r20 r21 hx) .z fun r21 h=>?_;cbv;apply B7 hE h<;>intro _ h
   ·cbv;refine BF hE hO hq12 1 rfl h fun h=>?_;cbv;refine DH hE (fun _=>rfl) hO hq12 1 rfl h fun x22 h=>?_;cbv;refine BF hE hO hq12 1 rfl h fun h=>?_;cbv;refine DH hE (fun _=>rfl) hO hq12 1 rfl h fun x23 h=>?_;cbv;refine OQ hE (f:=eBg7) hO hq15 0 rfl h (c201 N s14.2 (⟨x22,ar .sub .i64 x23 1⟩:A3)) .z fun l24 q25 H hq25 hO h=>?_;cbv;cases h;exact⟨_,q25,rfl,.e2 (.e4 .z),rfl,hq25,hO⟩
   cbv;cases h;exact⟨_,q15,rfl,.e2 (.e4 .z),rfl,hq15,hO⟩
  cbv;cases h;exact⟨_,_,rfl,⟨q15,hq15,rfl,rfl,hO⟩,.e rfl .z,rfl⟩
 ·exact .e2 (.e4 .z)
 ·exact⟨hq13,hO⟩
 clear hx;rintro e l H ⟨q26,hq26,rfl,rfl,hO⟩;cbv;cases h;exact hF q26 _ _ 0 _ _ hO rfl (AN hE hq26) .z
def c122 (N:Nat)(aD:List A3)(aE:List A3)(bS:V)(bM:Bool→Bool→Option Bool)(cP:∀y1 y2 q,bM y1 y2=some q→AM prog bS [.bool y1,.bool y2] (.bool q))(r:((List A3)×Int))(h:AB N aD aE bM=some r):C3 prog 122 [sr eBg7 aD,sr eBg7 aE,bS] (.tup [sr eBg7 r.1,vi r.2]):=by
 refine N2 A8 func122 call122 ntmps122 ?_;intro E H0 K hE hK hO;cbv;refine A9 hE h (c166 N aD aE) .z fun r1 h=>?_;cbv;apply B7 hE h<;>intro _ h
 ·cbv;cases h;exact hK hO (.tup (.cons (.lit _ (B5)) .z))
 cbv;refine A9 hE h (c167 N aD aE bS bM cP) .z fun r2 h=>?_;cbv;refine A9 hE h (c126 N r2) .z fun r3 h=>?_;cbv;cases h;exact hK hO .z
def c123 (N aG aQ r)(h:Bc N aG aQ=some r):C3 prog 123 [.bool aG,.bool aQ] (.bool r):=by
 refine N2 A8 func123 call123 ntmps123 ?_;intro E H0 K hE hK hO;cbv;cases h;exact hK hO .z
def c80 (N aD aE r)(h:X5 N aD aE=some r):C3 prog 80 [sr eBg7 aD,sr eBg7 aE] (.tup [sr eBg7 r.1,vi r.2]):=by
 refine N2 A8 func80 call80 ntmps80 ?_;intro E H0 K hE hK hO;cbv;refine A9 hE (g:=fun r1=>.tup [sr eBg7 r1.1,vi r1.2]) h (fun r1 hx=>c122 N aD aE (.func (.func 123) [] []) (fun y1 y2=>Bc N y1 y2) (fun y1 y2 r hx=>C3.value (F:=[]) (C:=[]) (c123 N y1 y2 r hx)) r1 hx) .z fun r1 h=>?_;cbv;cases h;exact hK hO .z
def c164 (N bA bB r)(h:AY N bA bB=some r):C3 prog 164 [vi bA,vi bB] (sr eBg7 r):=by
 refine N2 A8 func164 call164 ntmps164 ?_;intro E H0 K hE hK hO;cbv;apply B7 hE h<;>intro _ h
 ·cbv;cases h;exact hK hO (.lit _ (B5))
 cbv;cases h;exact hK hO (.lit _ (F2 ((eBh1 (⟨mx bA (-1099511627776),Ar.mn bB 1099511627776⟩:A3)).symm) (B5)))
def c165 (N aD aE r)(h:CX N aD aE=some r):C3 prog 165 [vi aD,vi aE] (vi r):=by
 refine N2 A8 func165 call165 ntmps165 ?_;intro E H0 K hE hK hO
 repeat' (cbv;first|apply B7 hE h<;>intro _ h|(cases h;exact hK hO .z)|refine MX hE h fun h=>?_)
def c121 (N aD r)(h:AF N aD=some r):C3 prog 121 [(Dh aD)] (sr eBg7 r):=by
 refine N2 A8 func121 call121 ntmps121 ?_;intro E H0 K hE hK hO
 repeat' (cbv;first|apply B7 hE h<;>intro _ h|refine A9 hE h (c165 _ _ _) .z fun _ h=>?_|refine A9 hE h (c164 _ _ _) .z fun _ h=>?_|refine A9 hE h (c61 _) .z fun _ h=>?_|(cases h;exact hK hO .z)|(cases h;exact hK hO (.lit _ (B5))))
def cf79:=cfB [8] [(8,13)]
def c79 (N aI aD aE r)(h:X3 N aI aD aE=some r):C3 prog 79 [vi aI,(Dh aD),(Dh aE)] (.tup [sr eBg7 r.1,vi r.2]):=by
 refine N2 cf79 func79 call79 ntmps79 ?_;intro E H0 K hE hK hO
 repeat' (cbv;first|apply B7 hE h<;>intro _ h|refine A9 hE h (c121 _ _) .z fun _ h=>?_|apply D0 hE hO 0 rfl|refine B9 hE hO 0 rfl rfl fun H hO=>?_|refine K7 hE (g:=fun r4=>sr eBg7 r4) h (c121 _ _) .z fun r4 h=>?_|refine K7 hE (g:=fun r5=>sr eBg7 r5) h (c121 _ _) .z fun r5 h=>?_|refine K7 hE (g:=fun r6=>.tup [sr eBg7 r6.1,vi r6.2]) h (c80 _ _ _) .z fun r6 h=>?_|refine E5 hE hO fun _ H hO=>?_|(cases h;exact hK hO .z))
def c124 (N aG aQ r)(h:Dm N aG aQ=some r):C3 prog 124 [.bool aG,.bool aQ] (.bool r):=by
 refine N2 A8 func124 call124 ntmps124 ?_;intro E H0 K hE hK hO;cbv;cases h;exact hK hO .z
def c81 (N aD aE r)(h:BI N aD aE=some r):C3 prog 81 [sr eBg7 aD,sr eBg7 aE] (.tup [sr eBg7 r.1,vi r.2]):=by
 refine N2 A8 func81 call81 ntmps81 ?_;intro E H0 K hE hK hO;cbv;refine A9 hE (g:=fun r1=>.tup [sr eBg7 r1.1,vi r1.2]) h (fun r1 hx=>c122 N aD aE (.func (.func 124) [] []) (fun y1 y2=>Dm N y1 y2) (fun y1 y2 r hx=>C3.value (F:=[]) (C:=[]) (c124 N y1 y2 r hx)) r1 hx) .z fun r1 h=>?_;cbv;cases h;exact hK hO .z
def c168 (N aH r) (h:GL N aH=some r):JY prog 168 (fun yv=>[yv,.eref [sr eBg7 aH] 0]) (List.map (fun(x:A3)=>[(Ae x)]) r) rbN:=by
 obtain⟨⟨w0,u0⟩,h1,hr⟩:=A7 h;clear h;have hr:=O8 hr;subst hr;have h:=h1;clear h1;refine V1 A8 J6 func168 (by rfl) (by kernel_rfl) call168 ntmps168 (by rfl) (fun _=>rfl) ?_;intro yv I D hI hD hy tl F E H K hE hO hK hKD
 have hO:B6 (I (List.map (fun(x:A3)=>[(Ae x)]) (w0++[])++tl)) F [] H:=by rw[L4];exact hO
 cbv;apply G9 hE;cbv;obtain⟨w2,w3,s6,hx,h,he⟩:=U1 h
 rw[he,G1]at hO
 clear he;refine MY A8 hE J6 (γ:=Unit) (fun s1 g=>[(0,.v (yv)),fi 3 s1.1,(6,.v (sr eBg7 aH)),fi 7 (Ar.len aH),fi 8 s1.2]) (fun s1 g w H1=>B6 (I (List.map (fun(x:A3)=>[(Ae x)]) w++tl)) F [] H1) (fun x e l w H1=>e= .exit 0∧l=[(0,.v (yv)),fi 3 x]∧B6 (I (List.map (fun(x:A3)=>[(Ae x)]) w++tl)) F [] H1) (fun e l H1=>(e= .ret∧l=[]∧B6 D F [] H1)) (by kernel_rfl) ?_ (w':=w3++[]) () hx ?_ ?_ ?_ ?_
 ·rintro s1 _ w4 w5 H o hO h
  skip
  repeat' (cbv;first|apply B7 hE h<;>intro _ h|refine D8 hE eBh1 h fun x7 h=>?_)
  ·cbv;obtain⟨w8,h,he⟩:=Z4 h
   rw[he,G1]at hO
   clear he;have hO:B6 (I ([.agg [vi s1.1,vi (ar .sub .i64 x7.Low 1)]]::(List.map (fun(x:A3)=>[(Ae x)]) (w8++w5)++tl))) F [] _:=hO;refine DF hE hI hD hy hO .z (fun H hO=>?_) (fun H hO=>?_)
   ·cbv;apply Ms hE (nt_eq _);cbv;obtain⟨hw,rfl⟩:=F9 h
    rw[←hw]at hO
    exact⟨_,(),rfl,.e rfl (.e4 .z),rfl,hO⟩
   clear h;cbv;apply Mr hE (nt_eq _);cbv;exact .inr ⟨_,⟨rfl,rfl,hO⟩,.z,rfl⟩
  ·cbv;obtain⟨hw,rfl⟩:=F9 h
   rw[←hw]at hO
   exact⟨_,(),rfl,.e rfl (.e4 .z),rfl,hO⟩
  cbv;obtain⟨hw,rfl⟩:=F9 h
  rw[←hw]at hO
  exact .inl ⟨_,_,rfl,⟨rfl,rfl,hO⟩,.e2 .z,rfl⟩
 ·exact .e rfl (.e4 .z)
 ·exact hO
 ·rintro e l H ⟨rfl,rfl,hO⟩;cbv;apply B7 hE h<;>intro _ h
  ·cbv;obtain⟨w9,h,he⟩:=Z4 h
   rw[he,G1]at hO
   clear he;have hO:B6 (I ([.agg [vi s6,vi 1099511627776]]::(List.map (fun(x:A3)=>[(Ae x)]) (w9++[])++tl))) F [] _:=hO;refine DF hE hI hD hy hO .z (fun H hO=>?_) (fun H hO=>?_)
   ·cbv;obtain⟨hw,_⟩:=F9 h
    rw[←hw]at hO
    exact hK _ _ _ hO trivial
   clear h;cbv;exact hKD _ _ _ hO trivial
  cbv;obtain⟨hw,_⟩:=F9 h
  rw[←hw]at hO
  exact hK _ _ _ hO trivial
 rintro e l H hX;obtain⟨rfl,rfl,hO⟩:=hX;clear h;cbv;exact hKD _ _ _ hO trivial
def c125 (N aF r)(h:FY N aF=some r):Fg prog 125 [sr eBg7 aF] (fun v=>Jm prog v (r.map fun(x:A3)=>[(Ae x)])):=by
 refine Y0 A8 J6 func125 (by rfl) (by kernel_rfl) call125 ntmps125 (by rfl) (by rfl) ?_;intro E H0 K hE hK;have hO:B6 Eq H0 [] H0:=.start E0 rfl;cbv;exact hK _ _ _ hO (X8 call168 (c168 N aF r h))
def cf82:=cfA [5]
def c82 (N aF r)(h:S5 N aF=some r):C3 prog 82 [sr eBg7 aF] (.tup [sr eBg7 r.1,vi r.2]):=by
 refine N2 cf82 func82 call82 ntmps82 ?_;intro E H0 K hE hK hO
 repeat' (cbv;first|apply B7 hE h<;>intro _ h|refine A9 hE h (c99 _ _) .z fun _ h=>?_|refine Ap hE h (c125 _ _) .z fun _ _ hv4 h=>?_|refine E5 hE hO fun b2 H hO=>?_|(cases h;exact hK hO (.tup (.cons (.lit _ (B5)) .z))))
 cbv;replace hO:=hO.tl0 (t:=.nil) rfl;obtain⟨o10,hx,h⟩:=A7 h;replace hO:=hO.cast (L':=[.tl .nil,cb b2 [.sl (lst eBg7 ([])) .nil]]) (by simp only[ob,cb,sr,←B5]<;>rfl);refine DG cf82 hE J6 (ι:=Unit) (enc:=fun(x:A3)=>[(Ae x)]) (fun(s6:(List A3)) F H=>∃g:E7,(K6 g)∧B6 Eq F [.tl g,cb b2 [.sl (lst eBg7 s6) g]] H) (fun(r:Unit) e F H=>False) (fun i s6 y5=>[(5,.v (.ref b2 0)),(6,.v (.eref (TE y5) 0))]) (fun i s6 y5 F H=>∃g:E7,(K6 g)∧B6 Eq F [.tl g,cb b2 [.sl (lst eBg7 s6) g]] H) (fun _=>G5.ex fun _=>B6.stable E0 _) (fun _ _=>⟨fun h=>h.elim,fun _ _ h=>h.elim⟩) (fun _ _ _=>G5.ex fun _=>B6.stable E0 _) hv4 hx (⟨.nil,trivial,hO⟩) (by decide) (fun _=>rfl) (by kernel_rfl) (by kernel_rfl) ?_ ?_ ?_ ?_
 ·rintro E i8 y5 s6 F7 H hE ⟨t9,ht9,hO⟩;clear hx h;cbv;exact⟨(),⟨t9,ht9,hO⟩,.e2 .z,rfl⟩
 ·rintro E i8 _ y5 s6 F7 H o hE hF h ⟨t9,ht9,hO⟩;cbv;apply D0 hE hO 1 rfl;cbv;refine N1 (f:=eBg7) hE G8 (by decide) hO 0 rfl ht9 (l:=s6) (m:=[y5]) .z (.lstc (.eq (eBh1 y5) .z) (.lst0)) h fun l12 t11 H hO ht11 h=>?_;cbv;refine B9 hE hO 1 rfl rfl fun H hO=>?_;cbv;cases h;exact⟨_,rfl,⟨t11,ht11,hO⟩⟩
 ·rintro d13 s16 H rfl hd ⟨t17,ht17,hO⟩;have hO:B6 Eq H0 [.tl t17,cb b2 [.sl (lst eBg7 s16) t17],.blk d13 DB] H:=B6.dblk hd hO;clear hd;cbv;apply D0 hE hO 1 rfl;cbv;refine A9 hE h (c126 N s16) (.cons (.ro _ _) .z) fun r18 h=>?_;cbv;refine Er hE hO 2 rfl fun H hO=>?_;cbv;cases h;exact hK hO .z
 rintro d r e H rfl hd hO;exact hO.elim
def c169 (N aG aQ r)(h:Dp N aG aQ=some r):C3 prog 169 [.bool aG,.bool aQ] (.bool r):=by
 refine N2 A8 func169 call169 ntmps169 ?_;intro E H0 K hE hK hO;cbv;cases h;exact hK hO .z
end Go.Ab
