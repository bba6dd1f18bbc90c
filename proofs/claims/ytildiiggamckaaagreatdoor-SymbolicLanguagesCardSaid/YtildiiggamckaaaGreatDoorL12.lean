/- GLSh GLCo1 -/
import Derived.Test.YtildiiggamckaaaGreatDoorL11
import Derived.Shelf.Sort.Plain
import Derived.Shelf.Slices.CompactI
import Derived.Test.YtildiiggamckaaaGreatDoorProg
import Derived.KernelRfl
set_option linter.all false
/- The shelf laid at this program: plain. -/
open List (append_assoc append_nil)
open Go.Ab.Ar (lst nt_eq sat)
namespace Go.Proofs
open Go.Shelf
set_option maxRecDepth 100000
def Tryz.laysNm189_ren :Ren:=
{
  f :=fun x=>
    match x with
    |189=>241
    |125=>272
    |257=>271
    |128=>296
    |129=>297
    |294=>287
    |295=>288
    |296=>289
    |297=>290
    |298=>291
    |299=>292
    |216=>293
    |300=>294
    |301=>295
    |328=>305
    |329=>306
    |330=>307
    |331=>308
    |332=>309
    |215=>310
    |343=>315
    |n=>n,
  t :=fun x=>
    match x with
    |28=>104
    |3=>3
    |46=>218
    |0=>0
    |51=>257
    |53=>260
    |4=>4
    |183=>341
    |182=>340
    |131=>117
    |5=>5
    |9=>9
    |218=>357
    |222=>361
    |228=>368
    |229=>175
    |n=>n,
  g :=fun x=>
    x}
theorem Tryz.laysNm189 :Lays.n189 Tryz.prog Tryz.laysNm189_ren:=
{ mixed :=(by kernel_rfl),f125:=Eq.trans Tryz.func272 (congrArg some (by kernel_rfl)),
  f128:=Eq.trans Tryz.func296 (congrArg some (by kernel_rfl)),
  f129:=Eq.trans Tryz.func297 (congrArg some (by kernel_rfl)),
  f189:=Eq.trans Tryz.func241 (congrArg some (by kernel_rfl)),
  f215:=Eq.trans Tryz.func310 (congrArg some (by kernel_rfl)),
  f216:=Eq.trans Tryz.func293 (congrArg some (by kernel_rfl)),
  f257:=Eq.trans Tryz.func271 (congrArg some (by kernel_rfl)),
  f294:=Eq.trans Tryz.func287 (congrArg some (by kernel_rfl)),
  f295:=Eq.trans Tryz.func288 (congrArg some (by kernel_rfl)),
  f296:=Eq.trans Tryz.func289 (congrArg some (by kernel_rfl)),
  f297:=Eq.trans Tryz.func290 (congrArg some (by kernel_rfl)),
  f298:=Eq.trans Tryz.func291 (congrArg some (by kernel_rfl)),
  f299:=Eq.trans Tryz.func292 (congrArg some (by kernel_rfl)),
  f300:=Eq.trans Tryz.func294 (congrArg some (by kernel_rfl)),
  f301:=Eq.trans Tryz.func295 (congrArg some (by kernel_rfl)),
  f328:=Eq.trans Tryz.func305 (congrArg some (by kernel_rfl)),
  f329:=Eq.trans Tryz.func306 (congrArg some (by kernel_rfl)),
  f330:=Eq.trans Tryz.func307 (congrArg some (by kernel_rfl)),
  f331:=Eq.trans Tryz.func308 (congrArg some (by kernel_rfl)),
  f332:=Eq.trans Tryz.func309 (congrArg some (by kernel_rfl)),
  f343:=Eq.trans Tryz.func315 (congrArg some (by kernel_rfl)),t0:=Tryz.underlying0,
  a0:=Tryz.isAgg0,z0:=Tryz.sizeOf0,v0:=Tryz.zeroValue0,t3:=Tryz.underlying3,a3:=Tryz.isAgg3,
  z3:=Tryz.sizeOf3,v3:=Tryz.zeroValue3,t4:=Tryz.underlying4,a4:=Tryz.isAgg4,z4:=Tryz.sizeOf4,
  v4:=Tryz.zeroValue4,t5:=Tryz.underlying5,a5:=Tryz.isAgg5,z5:=Tryz.sizeOf5,v5:=Tryz.zeroValue5,
  t9:=Tryz.underlying9,a9:=Tryz.isAgg9,z9:=Tryz.sizeOf9,v9:=Tryz.zeroValue9,t28:=Tryz.underlying104,
  a28:=Tryz.isAgg104,z28:=Tryz.sizeOf104,v28:=Tryz.zeroValue104,t46:=Tryz.underlying218,
  a46:=Tryz.isAgg218,z46:=Tryz.sizeOf218,v46:=Tryz.zeroValue218,t51:=Tryz.underlying257,
  a51:=Tryz.isAgg257,z51:=Tryz.sizeOf257,v51:=Tryz.zeroValue257,t53:=Tryz.underlying260,
  a53:=Tryz.isAgg260,z53:=Tryz.sizeOf260,v53:=Tryz.zeroValue260,t131:=Tryz.underlying117,
  a131:=Tryz.isAgg117,z131:=Tryz.sizeOf117,v131:=Tryz.zeroValue117,t182:=Tryz.underlying340,
  a182:=Tryz.isAgg340,z182:=Tryz.sizeOf340,v182:=Tryz.zeroValue340,t183:=Tryz.underlying341,
  a183:=Tryz.isAgg341,z183:=Tryz.sizeOf341,v183:=Tryz.zeroValue341,t218:=Tryz.underlying357,
  a218:=Tryz.isAgg357,z218:=Tryz.sizeOf357,v218:=Tryz.zeroValue357,t222:=Tryz.underlying361,
  a222:=Tryz.isAgg361,z222:=Tryz.sizeOf361,v222:=Tryz.zeroValue361,t228:=Tryz.underlying368,
  a228:=Tryz.isAgg368,z228:=Tryz.sizeOf368,v228:=Tryz.zeroValue368,t229:=Tryz.underlying175,
  a229:=Tryz.isAgg175,z229:=Tryz.sizeOf175,v229:=Tryz.zeroValue175}
def Tryz.laysNm220_ren :Ren:=
{
  f :=fun x=>
    match x with
    |20=>242
    |n=>n,
  t :=fun x=>
    match x with
    |22=>104
    |3=>3
    |4=>4
    |0=>0
    |n=>n,
  g :=fun x=>
    x}
theorem Tryz.laysNm220 :Lays2.n20 Tryz.prog Tryz.laysNm220_ren:=
{ mixed :=(by kernel_rfl),f20:=Eq.trans Tryz.func242 (congrArg some (by kernel_rfl)),
  t0:=Tryz.underlying0,a0:=Tryz.isAgg0,z0:=Tryz.sizeOf0,v0:=Tryz.zeroValue0,t3:=Tryz.underlying3,
  a3:=Tryz.isAgg3,z3:=Tryz.sizeOf3,v3:=Tryz.zeroValue3,t4:=Tryz.underlying4,a4:=Tryz.isAgg4,
  z4:=Tryz.sizeOf4,v4:=Tryz.zeroValue4,t22:=Tryz.underlying104,a22:=Tryz.isAgg104,z22:=Tryz.sizeOf104,
  v22:=Tryz.zeroValue104,i3:=Eq.refl (some (some (Value.int IntKind.i64 0),1,8))}
end Go.Proofs
namespace Go.Ab
open Go.RowKit Go.Proofs Go.Proofs.Tryz K2
abbrev vi (n:Int):V:=.int .i64 n
abbrev sr [Ar]{α:Type}(f:α→V)(l:List α):V:=.sl (lst f l) .ro
abbrev cb (b:Nat)(l:List V):En:=.blk b (.cells l)
abbrev ob [Ar]{α:Type}(q:OG)(n:Nat)(f:α→V)(l:List α):En:=.blk q.id (.arr n (q.pre++lst f l++q.rest))
abbrev fi (k:Nat)(n:Int):Nat×Sl:=(k,.v (vi n))
instance globs :K9:=⟨fun n=>match n with
 |0=>.eref [vi 0,vi 0,.bool true,.bool true,.bool false,.bool false,vi 2,vi 64,.bool false,.bool false,.bool false,.bool false,vi 2,vi 64,.bool false,.bool false,.bool false,.bool false,vi 2,vi 64,.bool false,.bool false,.bool false,.bool false,vi 1,vi 1,.bool false,.bool false,.bool false,.bool false,vi 1,vi 1,.bool true,.bool true,.bool true,.bool false,vi 1,vi 1,.bool false,.bool false,.bool true,.bool true,vi 1,vi 1,.bool false,.bool true,.bool false,.bool false,vi 2,vi 2,.bool false,.bool false,.bool false,.bool false,vi 1,vi 1,.bool true,.bool true,.bool true,.bool false,vi 1,vi 1,.bool false,.bool false,.bool true,.bool true] 0
 |_=>.bad⟩
variable [Ar][K2]
set_option maxRecDepth 100000
theorem K3 :OM prog TT:=⟨okT,by rfl⟩
def cf0 :Cf:=⟨[],[],[],[],[],[]⟩
theorem FV.e2 {l r:Fl}{k1 k2:Nat}{x1 x2:V}(hr:FV l r)(h1:BY l k1=x1:=by rfl)(h2:BY l k2=x2:=by rfl):FV l ((k1,.v x1)::(k2,.v x2)::r):=.e h1 (.e h2 hr)
theorem FV.e4 {l r:Fl}{k1 k2 k3 k4:Nat}{x1 x2 x3 x4:V}(hr:FV l r)(h1:BY l k1=x1:=by rfl)(h2:BY l k2=x2:=by rfl)(h3:BY l k3=x3:=by rfl)(h4:BY l k4=x4:=by rfl):FV l ((k1,.v x1)::(k2,.v x2)::(k3,.v x3)::(k4,.v x4)::r):=.e2 (.e2 hr h3 h4) h1 h2
theorem P3 {f:FuncId}{fn:Func}{c:Code}{n:Nat}{rs:List ResultVar}{args:List V}{r:V}(cf:Cf)(hf:prog.funcs[f]? =some fn)(hcall:∀vals w,(callFunc f vals).run prog w= .ok (.enter f vals) w)(hnt:fn.ntmps=n)
 (h:∀(E:Eu) (H:A1) (K:V→A1→Prop),E=G7 prog n none→(∀{x L H'},B6 Eq H L H'→BQ x r→K x H')→B6 Eq H [] H→run E TT n cf c ⟨BN args 0,[]⟩ H (Mx E TT rs K))
 (hb:fn.body=some c:=by rfl) (hd:I8 cf c=true:=by kernel_rfl) (hrs:fn.results.toList=rs:=by rfl) (hn:Nat.ble args.length n=true:=by rfl):C5 prog f args r:=
 QP cf K3 hf hb hd hcall hnt hrs hn fun E H K hE hK=>h E H K hE (fun a b=>hK _ _ _ a b) (.start C4 rfl)
def Ee :Go.TypeDesc:=.array 2 3
theorem Ug :ST prog Ee eAA9:=Ab0 (g:=fun(x:C9)=>[x.E0,x.E1]) (fun x=>(eAC0 x).trans rfl) (fun _=>rfl) (fun x y h=>by cases x;cases y;cases h;rfl) (by kernel_rfl) (by kernel_rfl)
theorem c86 (N aG r)(h:Ky N aG=some r):C5 prog 86 [sr eAA4 aG] (.bool r):=by
 unfold Ky at h
 refine P3 cf0 func86 call86 ntmps86 ?_;intro E H0 K hE hK hO;cbv;refine F3 hE ?_;cbv;cases h;exact hK hO (.refl _)
theorem c34 (N aB r) (h:EF N aB=some r):C5 prog 34 [(F2 aB)] (.bool r):=by
 unfold EF at h
 refine P3 cf0 func34 call34 ntmps34 ?_;intro E H0 K hE hK hO;cbv;obtain⟨s2,hx,h⟩:=bind_some h;refine J5 cf0 hE K3 (fun s1=>[(1,.v (.eref (N1 aB) 0)),fi 3 s1]) (fun s1 H1=>B6 Eq H0 [] H1) (fun x e l H1=>match(generalizing:=false) x with| .inl y=>e= .exit 0∧l=[(1,.v (.eref (N1 aB) 0))]∧B6 Eq H0 [] H1| .inr y=>e= .ret∧l=[(2,.b false)]∧B6 Eq H0 [] H1) (by kernel_rfl) ?_ hx ?_ hO ?_
 ·intro s1 H o hO h;clear hx;cbv;refine F3 hE ?_;cbv;refine B0 hE h (fun _ h=>?_) fun _ h=>?_
  ·cbv;refine D3 hE eAB4 h fun x3 h=>?_;cbv;refine A8 hE h (c86 N x3) (.refl _) fun r4 h=>?_;cbv;refine B0 hE h (fun _ h=>?_) fun _ h=>?_
   ·cbv;cases h;exact⟨_,_,rfl,⟨rfl,rfl,hO⟩,.b rfl (.z),rfl⟩
   cbv;cases h;exact⟨_,rfl,.e2 .z,rfl,hO⟩
  cbv;cases h;exact⟨_,_,rfl,⟨rfl,rfl,hO⟩,.e rfl .z,rfl⟩
 ·exact .e2 .z
 clear hx
 rcases s2 with y5|y6
 ·rintro e l H ⟨rfl,rfl,hO⟩;cbv;refine F3 hE ?_;cbv;cases h;exact hK hO (.refl _)
 rintro e l H ⟨rfl,rfl,hO⟩;cbv;cases h;exact hK hO (.refl _)
theorem c9 (N aA r) (h:HQ N aA=some r):C5 prog 9 [(G3 aA)] (.bool r):=by
 unfold HQ at h
 refine P3 cf0 func9 call9 ntmps9 ?_;intro E H0 K hE hK hO;cbv;obtain⟨s2,hx,h⟩:=bind_some h;refine J5 cf0 hE K3 (fun s1=>[(1,.v (.eref (C6 aA) 0)),fi 3 s1]) (fun s1 H1=>B6 Eq H0 [] H1) (fun x e l H1=>match(generalizing:=false) x with| .inl y=>e= .exit 0∧l=[(1,.v (.eref (C6 aA) 0))]∧B6 Eq H0 [] H1| .inr y=>e= .ret∧l=[(2,.b false)]∧B6 Eq H0 [] H1) (by kernel_rfl) ?_ hx ?_ hO ?_
 ·intro s1 H o hO h;clear hx;cbv;refine F3 hE ?_;cbv;refine B0 hE h (fun _ h=>?_) fun _ h=>?_
  ·cbv;refine D3 hE eAB1 h fun x3 h=>?_;cbv;refine A8 hE h (c34 N x3.On) (.refl _) fun r4 h=>?_;cbv;refine B0 hE h (fun _ h=>?_) fun _ h=>?_
   ·cbv;cases h;exact⟨_,_,rfl,⟨rfl,rfl,hO⟩,.b rfl (.z),rfl⟩
   cbv;cases h;exact⟨_,rfl,.e2 .z,rfl,hO⟩
  cbv;cases h;exact⟨_,_,rfl,⟨rfl,rfl,hO⟩,.e rfl .z,rfl⟩
 ·exact .e2 .z
 clear hx
 rcases s2 with y5|y6
 ·rintro e l H ⟨rfl,rfl,hO⟩;cbv;refine F3 hE ?_;cbv;refine F3 hE ?_;cbv;cases h;exact hK hO (.refl _)
 rintro e l H ⟨rfl,rfl,hO⟩;cbv;cases h;exact hK hO (.refl _)
theorem c45 (N aL aF r)(h:AT N aL aF=some r):C5 prog 45 [vi aL,.eref (C6 aF) 0] (.bool r):=by
 unfold AT at h
 refine P3 cf0 func45 call45 ntmps45 ?_;intro E H0 K hE hK hO;cbv;refine F3 hE ?_;cbv;cases h;exact hK hO (.refl _)
theorem c126 (N aH r)(h:BG N aH=some r):C5 prog 126 [(V2 aH)] (vi r):=by
 unfold BG at h
 refine P3 cf0 func126 call126 ntmps126 ?_;intro E H0 K hE hK hO;cbv;refine B0 hE h (fun _ h=>?_) fun _ h=>?_
 ·cbv;cases h;exact hK hO (.refl _)
 cbv;refine B0 hE h (fun _ h=>?_) fun _ h=>?_
 ·cbv;cases h;exact hK hO (.refl _)
 cbv;cases h;exact hK hO (.refl _)
def cf94 :Cf:=⟨[4],[(9,12)],[],[],[],[]⟩
theorem c94 (N aG r) (h:T6 N aG=some r):C5 prog 94 [sr eAA4 aG] (vi r):=by
 unfold T6 at h
 refine P3 cf94 func94 call94 ntmps94 ?_;intro E H0 K hE hK hO;cbv;refine F3 hE ?_;cbv;refine B0 hE h (fun _ h=>?_) fun _ h=>?_
 ·cbv;cases h;exact hK hO (.refl _)
 cbv;refine F3 hE ?_;cbv;obtain⟨s2,hx,h⟩:=bind_some h;refine J5 cf94 hE K3 (fun s1=>[(0,.v (sr eAA4 aG)),(9,.v (sr eAA4 aG)),fi 10 (Ar.len aG),fi 11 s1]) (fun s1 H1=>B6 Eq H0 [] H1) (fun x e l H1=>match(generalizing:=false) x with| .inl y=>e= .exit 0∧l=[]∧B6 Eq H0 [] H1| .inr y=>e= .ret∧l=[fi 2 y]∧B6 Eq H0 [] H1) (by kernel_rfl) ?_ hx ?_ hO ?_
 ·intro s1 H o hO h;clear hx;cbv;refine B0 hE h (fun _ h=>?_) fun _ h=>?_
  ·cbv;refine D3 hE eAB5 h fun x3 h=>?_;cbv;refine E6 hE hO fun b4 H hO=>?_;cbv;refine A7 hE hO 0 rfl rfl fun H hO=>?_;cbv;refine B1 hE hO 0 rfl ?_;cbv;refine A8 hE h (c126 N x3) (.refl _) fun r5 h=>?_;cbv;refine B0 hE h (fun _ h=>?_) fun _ h=>?_
   ·cbv;cases h;exact⟨_,_,rfl,⟨rfl,rfl,hO.tail⟩,.e rfl .z,rfl⟩
   cbv;refine B1 hE hO 0 rfl ?_;cbv;refine B0 hE h (fun _ h=>?_) fun _ h=>?_
   ·cbv;refine D3 hE eAB5 h fun x6 h=>?_;cbv;refine B0 hE h (fun _ h=>?_) fun _ h=>?_
    ·cbv;cases h;exact⟨_,_,rfl,⟨rfl,rfl,hO.tail⟩,.e rfl .z,rfl⟩
    cbv;cases h;exact⟨_,rfl,.e4 .z,rfl,hO.tail⟩
   cbv;cases h;exact⟨_,rfl,.e4 .z,rfl,hO.tail⟩
  cbv;cases h;exact⟨_,_,rfl,⟨rfl,rfl,hO⟩,.z,rfl⟩
 ·exact .e4 .z
 clear hx
 rcases s2 with y7|y8
 ·rintro e l H ⟨rfl,rfl,hO⟩;cbv;cases h;exact hK hO (.refl _)
 rintro e l H ⟨rfl,rfl,hO⟩;cbv;cases h;exact hK hO (.refl _)
theorem c46 (N aK aB r) (h:Y1 N aK aB=some r):C5 prog 46 [vi aK,(F2 aB)] (vi r):=by
 unfold Y1 at h
 refine P3 cf0 func46 call46 ntmps46 ?_;intro E H0 K hE hK hO;cbv;refine B0 hE h (fun _ h=>?_) fun _ h=>?_
 ·cbv;cases h;exact hK hO (.refl _)
 cbv;refine F3 hE ?_;cbv;refine B0 hE h (fun _ h=>?_) fun _ h=>?_
 ·cbv;cases h;exact hK hO (.refl _)
 cbv;refine F3 hE ?_;cbv;obtain⟨s2,hx,h⟩:=bind_some h;refine J5 cf0 hE K3 (fun s1=>[(22,.v (sr eAB2 aB.cZ)),fi 23 (Ar.len aB.cZ),fi 24 s1]) (fun s1 H1=>B6 Eq H0 [] H1) (fun x e l H1=>match(generalizing:=false) x with| .inl y=>e= .exit 1∧l=[]∧B6 Eq H0 [] H1| .inr y=>e= .ret∧l=[fi 4 y]∧B6 Eq H0 [] H1) (by kernel_rfl) ?_ hx ?_ hO ?_
 ·intro s1 H o hO h;clear hx;cbv;refine B0 hE h (fun _ h=>?_) fun _ h=>?_
  ·cbv;refine D3 hE eAB4 h fun x3 h=>?_;cbv;refine A8 hE h (c94 N x3) (.refl _) fun r4 h=>?_;cbv;refine B0 hE h (fun _ h=>?_) fun _ h=>?_
   ·cbv;cases h;exact⟨_,_,rfl,⟨rfl,rfl,hO⟩,.e rfl .z,rfl⟩
   cbv;cases h;exact⟨_,rfl,.e rfl (.e2 .z),rfl,hO⟩
  cbv;cases h;exact⟨_,_,rfl,⟨rfl,rfl,hO⟩,.z,rfl⟩
 ·exact .e rfl (.e2 .z)
 clear hx
 rcases s2 with y5|y6
 ·rintro e l H ⟨rfl,rfl,hO⟩;cbv;cases h;exact hK hO (.refl _)
 rintro e l H ⟨rfl,rfl,hO⟩;cbv;cases h;exact hK hO (.refl _)
theorem c13 (N aA r) (h:K4 N aA=some r):C5 prog 13 [(G3 aA)] (vi r):=by
 unfold K4 at h
 refine P3 cf0 func13 call13 ntmps13 ?_;intro E H0 K hE hK hO;cbv;refine B0 hE h (fun _ h=>?_) fun _ h=>?_
 ·cbv;cases h;exact hK hO (.refl _)
 cbv;refine F3 hE ?_;cbv;refine F3 hE ?_;cbv;refine F3 hE ?_;cbv;refine B0 hE h (fun _ h=>?_) fun _ h=>?_
 ·cbv;cases h;exact hK hO (.refl _)
 cbv;refine F3 hE ?_;cbv;obtain⟨s2,hx,h⟩:=bind_some h;refine J5 cf0 hE K3 (fun s1=>[(1,.v (.eref (C6 aA) 0)),(3,.v (.func (.func 45) [] [.eref (C6 aA) 0])),(33,.v (sr eAA5 aA.cV)),fi 34 (Ar.len aA.cV),fi 35 s1]) (fun s1 H1=>B6 Eq H0 [] H1) (fun x e l H1=>match(generalizing:=false) x with| .inl y=>e= .exit 0∧l=[]∧B6 Eq H0 [] H1| .inr y=>e= .ret∧l=[fi 2 y]∧B6 Eq H0 [] H1) (by kernel_rfl) ?_ hx ?_ hO ?_
 ·intro s1 H o hO h;clear hx;cbv;refine B0 hE h (fun _ h=>?_) fun _ h=>?_
  ·cbv;refine D3 hE eAB1 h fun x3 h=>?_;cbv;refine CF hE (g:=fun r4=>.bool r4) h (fun r4 hx=>C5.value (F:=[]) (C:=[.eref (C6 aA) 0]) (c45 N x3.cX aA r4 hx)) (.refl _) fun r4 h=>?_;cbv;refine B0 hE h (fun _ h=>?_) fun _ h=>?_
   ·cbv;cases h;exact⟨_,_,rfl,⟨rfl,rfl,hO⟩,.e rfl .z,rfl⟩
   cbv;refine CF hE (g:=fun r5=>.bool r5) h (fun r5 hx=>C5.value (F:=[]) (C:=[.eref (C6 aA) 0]) (c45 N x3.To aA r5 hx)) (.refl _) fun r5 h=>?_;cbv;refine B0 hE h (fun _ h=>?_) fun _ h=>?_
   ·cbv;cases h;exact⟨_,_,rfl,⟨rfl,rfl,hO⟩,.e rfl .z,rfl⟩
   cbv;refine A8 hE h (c46 N aA.cW x3.On) (.refl _) fun r6 h=>?_;cbv;refine B0 hE h (fun _ h=>?_) fun _ h=>?_
   ·cbv;cases h;exact⟨_,_,rfl,⟨rfl,rfl,hO⟩,.e rfl .z,rfl⟩
   cbv;cases h;exact⟨_,rfl,.e rfl (.e4 .z),rfl,hO⟩
  cbv;cases h;exact⟨_,_,rfl,⟨rfl,rfl,hO⟩,.z,rfl⟩
 ·exact .e rfl (.e4 .z)
 clear hx
 rcases s2 with y7|y8
 ·rintro e l H ⟨rfl,rfl,hO⟩;cbv;cases h;exact hK hO (.refl _)
 rintro e l H ⟨rfl,rfl,hO⟩;cbv;cases h;exact hK hO (.refl _)
def cf87 :Cf:=⟨[4,6],[],[],[],[],[]⟩
theorem c87 (N:Nat) (aK:Int) (cL:V) (bH:Int→Option ((List A4)×Int)) (cQ:∀y1 q,bH y1=some q→U2 prog cL [vi y1] (.tup [sr eAA4 q.1,vi q.2])) (r:(B3×Int)) (h:AY N aK bH=some r):C5 prog 87 [vi aK,cL] (.tup [(F2 r.1),vi r.2]):=by
 unfold AY at h
 refine P3 cf87 func87 call87 ntmps87 ?_;intro E H0 K hE hK hO;cbv;refine E6 hE hO fun b1 H hO=>?_;cbv;refine E6 hE hO fun b2 H hO=>?_;cbv;replace hO:=hO.cast (L':=[cb b2 [.sl (lst eAB2 ([])) .nil],cb b1 [.sl [] .nil]]) (by simp only[ob,cb,sr,←B4]<;>rfl);replace hO:=hO.tl0 (t:=.nil) rfl;obtain⟨s5,hx,h⟩:=bind_some h;refine M1 cf87 hE K3 (γ:=E5) (fun s3 g=>[(1,.v (cL)),(4,.v (.ref b1 0)),(6,.v (.ref b2 0)),fi 10 aK,fi 11 s3.1]) (fun s3 g H1=>K1 g∧B6 Eq H0 [.tl g,cb b2 [.sl (lst eAB2 s3.2.cZ) g],cb b1 [.sl [] .nil]] H1) (fun x e l H1=>match(generalizing:=false) x with| .inl y=>∃u1:E5,K1 u1∧e= .exit 0∧l=[(4,.v (.ref b1 0)),(6,.v (.ref b2 0))]∧B6 Eq H0 [.tl u1,cb b2 [.sl (lst eAB2 y.cZ) u1],cb b1 [.sl [] .nil]] H1| .inr y=>∃u1:E5,K1 u1∧e= .ret∧l=[(4,.v (.ref b1 0)),fi 5 y.1]∧B6 Eq H0 [.tl u1,cb b2 [.sl (lst eAB2 y.2.cZ) u1],cb b1 [.sl [] .nil]] H1) (by kernel_rfl) ?_ .nil hx ?_ ?_ ?_
 ·rintro s3 t4 H o ⟨ht4,hO⟩ h;clear hx;cbv;refine B0 hE h (fun _ h=>?_) fun _ h=>?_
  ·cbv;refine CF hE (g:=fun r6=>.tup [sr eAA4 r6.1,vi r6.2]) h (fun r6 hx=>cQ s3.1 r6 hx) (.refl _) fun r6 h=>?_;cbv;refine B0 hE h (fun _ h=>?_) fun _ h=>?_
   ·cbv;refine A7 hE hO 2 rfl rfl fun H hO=>?_;cbv;cases h;exact⟨_,_,rfl,⟨t4,ht4,rfl,rfl,hO⟩,.e2 .z,rfl⟩
   cbv;refine B1 hE hO 1 rfl ?_;cbv;refine T5 (f:=eAB2) hE Hu (by decide) hO 0 rfl ht4 (l:=s3.2.cZ) (m:=[r6.1]) (.refl _) (.lstc (.eq (eAB4 r6.1) (.refl _)) (.lst0)) h fun l8 t7 H hO ht7 h=>?_;cbv;refine A7 hE hO 1 rfl rfl fun H hO=>?_;cbv;cases h;exact⟨_,t7,rfl,.e rfl (.e4 .z),rfl,ht7,hO⟩
  cbv;cases h;exact⟨_,_,rfl,⟨t4,ht4,rfl,rfl,hO⟩,.e2 .z,rfl⟩
 ·exact .e rfl (.e4 .z)
 ·exact⟨trivial,hO⟩
 clear hx
 rcases s5 with y9|y11
 ·rintro e l H ⟨t10,ht10,rfl,rfl,hO⟩;cbv;refine B1 hE hO 1 rfl ?_;cbv;refine A7 hE hO 2 rfl rfl fun H hO=>?_;cbv;refine B1 hE hO 2 rfl ?_;cbv;cases h;exact hK hO (.tup (.cons (.agg (.cons (.ro _ _) (.refl _))) (.refl _)))
 rintro e l H ⟨t12,ht12,rfl,rfl,hO⟩;cbv;refine B1 hE hO 2 rfl ?_;cbv;cases h;exact hK hO (.tup (.cons (.agg (.cons (.lit _ (B4)) (.refl _))) (.refl _)))
theorem c89 (N r)(h:BE N=some r):C5 prog 89 [] (sr eAA4 r):=by
 unfold BE at h
 refine P3 cf0 func89 call89 ntmps89 ?_;intro E H0 K hE hK hO;cbv;cases h;exact hK hO (.lit _ (D4 ((eAB5 (⟨(-1099511627776),1099511627776⟩:A4)).symm) (B4)))
theorem c88 (N cK r)(h:Dd N cK=some r):C5 prog 88 [vi cK] (.tup [sr eAA4 r.1,vi r.2]):=by
 unfold Dd at h
 refine P3 cf0 func88 call88 ntmps88 ?_;intro E H0 K hE hK hO;cbv;refine A8 hE h (c89 N) (.refl _) fun r1 h=>?_;cbv;cases h;exact hK hO (.refl _)
def cf39 :Cf:=⟨[2],[],[],[],[],[]⟩
theorem c39 (N aK r)(h:CX N aK=some r):C5 prog 39 [vi aK] (.tup [(F2 r.1),vi r.2]):=by
 unfold CX at h
 refine P3 cf39 func39 call39 ntmps39 ?_;intro E H0 K hE hK hO;cbv;refine E6 hE hO fun b1 H hO=>?_;cbv;refine B0 hE h (fun _ h=>?_) fun _ h=>?_
 ·cbv;refine A7 hE hO 0 rfl rfl fun H hO=>?_;cbv;refine B1 hE hO 0 rfl ?_;cbv;cases h;exact hK hO (.tup (.cons (.agg (.cons (.lit _ (B4)) (.refl _))) (.refl _)))
 cbv;refine A8 hE (g:=fun r2=>.tup [(F2 r2.1),vi r2.2]) h (fun r2 hx=>c87 N aK (.func (.func 88) [] []) (fun y1=>Dd N y1) (fun y1 r hx=>C5.value (F:=[]) (C:=[]) (c88 N y1 r hx)) r2 hx) (.refl _) fun r2 h=>?_;cbv;refine A7 hE hO 0 rfl rfl fun H hO=>?_;cbv;refine B1 hE hO 0 rfl ?_;cbv;cases h;exact hK hO (.refl _)
theorem c90 (N aG r) (h:M8 N aG=some r):C5 prog 90 [sr eAD8 aG] (vi r):=by
 unfold M8 at h
 refine P3 cf0 func90 call90 ntmps90 ?_;intro E H0 K hE hK hO;cbv;refine F3 hE ?_;cbv;obtain⟨s2,hx,h⟩:=bind_some h;refine J5 cf0 hE K3 (fun s1=>[(6,.v (sr eAD8 aG)),fi 7 (Ar.len aG),fi 8 s1]) (fun s1 H1=>B6 Eq H0 [] H1) (fun x e l H1=>match(generalizing:=false) x with| .inl y=>e= .exit 0∧l=[]∧B6 Eq H0 [] H1| .inr y=>e= .ret∧l=[fi 2 y]∧B6 Eq H0 [] H1) (by kernel_rfl) ?_ hx ?_ hO ?_
 ·intro s1 H o hO h;clear hx;cbv;refine B0 hE h (fun _ h=>?_) fun _ h=>?_
  ·cbv;refine D3 hE eAC8 h fun x3 h=>?_;cbv;refine F3 hE ?_;cbv;refine A8 hE h (c46 N (Ar.len x3.cZ) x3) (.refl _) fun r4 h=>?_;cbv;refine B0 hE h (fun _ h=>?_) fun _ h=>?_
   ·cbv;cases h;exact⟨_,_,rfl,⟨rfl,rfl,hO⟩,.e rfl .z,rfl⟩
   cbv;cases h;exact⟨_,rfl,.e rfl (.e2 .z),rfl,hO⟩
  cbv;cases h;exact⟨_,_,rfl,⟨rfl,rfl,hO⟩,.z,rfl⟩
 ·exact .e rfl (.e2 .z)
 clear hx
 rcases s2 with y5|y6
 ·rintro e l H ⟨rfl,rfl,hO⟩;cbv;cases h;exact hK hO (.refl _)
 rintro e l H ⟨rfl,rfl,hO⟩;cbv;cases h;exact hK hO (.refl _)
theorem c163 (N:Nat) (aH:List A4) (bM:Int) (cJ:V) (cA:A4→Int→Option Int) (cO:∀y1 y2 q,cA y1 y2=some q→U2 prog cJ [(V2 y1),vi y2] (vi q)) (r:(Int×Bool)) (h:J1 N aH bM cA=some r):C5 prog 163 [sr eAA4 aH,vi bM,cJ] (.tup [vi r.1,.bool r.2]):=by
 unfold J1 at h
 refine P3 cf0 func163 call163 ntmps163 ?_;intro E H0 K hE hK hO;cbv;refine F3 hE ?_;cbv;obtain⟨s2,hx,h⟩:=bind_some h;refine J5 cf0 hE K3 (fun s1=>[(0,.v (sr eAA4 aH)),fi 1 bM,(2,.v (cJ)),fi 8 (Ar.len aH),fi 9 s1.1,fi 10 s1.2]) (fun s1 H1=>B6 Eq H0 [] H1) (fun x e l H1=>e= .exit 0∧l=[(0,.v (sr eAA4 aH)),fi 1 bM,(2,.v (cJ)),fi 8 (Ar.len aH),fi 9 x]∧B6 Eq H0 [] H1) (by kernel_rfl) ?_ hx ?_ hO ?_
 ·intro s1 H o hO h;clear hx;cbv;refine B0 hE h (fun _ h=>?_) fun _ h=>?_
  ·cbv;refine KF hE (Id hE rfl) ?_;cbv;refine D3 hE eAB5 h fun x3 h=>?_;cbv;refine CF hE (g:=fun r4=>vi r4) h (fun r4 hx=>cO x3 bM r4 hx) (.refl _) fun r4 h=>?_;cbv;refine B0 hE h (fun _ h=>?_) fun _ h=>?_
   ·cbv;cases h;exact⟨_,rfl,.e2 (.e4 .z),rfl,hO⟩
   cbv;cases h;exact⟨_,rfl,.e2 (.e4 .z),rfl,hO⟩
  cbv;cases h;exact⟨_,_,rfl,⟨rfl,rfl,hO⟩,.e rfl (.e4 .z),rfl⟩
 ·exact .e2 (.e4 .z)
 clear hx;rintro e l H ⟨rfl,rfl,hO⟩;cbv;refine B0 hE h (fun _ h=>?_) fun _ h=>?_
 ·cbv;refine D3 hE eAB5 h fun x5 h=>?_;cbv;refine CF hE (g:=fun r6=>vi r6) h (fun r6 hx=>cO x5 bM r6 hx) (.refl _) fun r6 h=>?_;cbv;cases h;exact hK hO (.refl _)
 cbv;cases h;exact hK hO (.refl _)
theorem c164 (N aH aI r)(h:Af N aH aI=some r):C5 prog 164 [(V2 aH),vi aI] (vi r):=by
 unfold Af at h
 refine P3 cf0 func164 call164 ntmps164 ?_;intro E H0 K hE hK hO;cbv;refine B0 hE h (fun _ h=>?_) fun _ h=>?_
 ·cbv;cases h;exact hK hO (.refl _)
 cbv;refine B0 hE h (fun _ h=>?_) fun _ h=>?_
 ·cbv;cases h;exact hK hO (.refl _)
 cbv;cases h;exact hK hO (.refl _)
theorem c124 (N aG aI r)(h:Y8 N aG aI=some r):C5 prog 124 [sr eAA4 aG,vi aI] (.bool r):=by
 unfold Y8 at h
 refine P3 cf0 func124 call124 ntmps124 ?_;intro E H0 K hE hK hO;cbv;refine A8 hE (g:=fun r1=>.tup [vi r1.1,.bool r1.2]) h (fun r1 hx=>c163 N aG aI (.func (.func 164) [] []) (fun y1 y2=>Af N y1 y2) (fun y1 y2 r hx=>C5.value (F:=[]) (C:=[]) (c164 N y1 y2 r hx)) r1 hx) (.refl _) fun r1 h=>?_;cbv;cases h;exact hK hO (.refl _)
theorem c91 (N aG aI r)(h:BU N aG aI=some r):C5 prog 91 [sr eAA4 aG,vi aI] (.tup [.bool r.1,vi r.2]):=by
 unfold BU at h
 refine P3 cf0 func91 call91 ntmps91 ?_;intro E H0 K hE hK hO;cbv;refine A8 hE h (c94 N aG) (.refl _) fun r1 h=>?_;cbv;refine B0 hE h (fun _ h=>?_) fun _ h=>?_
 ·cbv;cases h;exact hK hO (.refl _)
 cbv;refine A8 hE h (c124 N aG aI) (.refl _) fun r2 h=>?_;cbv;cases h;exact hK hO (.refl _)
def cf40 :Cf:=⟨[],[(8,11)],[],[],[],[]⟩
theorem c40 (N aB aA r)(h:V7 N aB aA=some r):C5 prog 40 [(F2 aB),(Fq aA)] (.tup [.bool r.1,vi r.2]):=by
 unfold V7 at h
 refine P3 cf40 func40 call40 ntmps40 ?_;intro E H0 K hE hK hO;cbv;refine A8 hE h (c90 N ([aB])) (.cons (.lit _ (D4 ((eAC8 aB).symm) (B4))) (.refl _)) fun r1 h=>?_;cbv;refine B0 hE h (fun _ h=>?_) fun _ h=>?_
 ·cbv;cases h;exact hK hO (.refl _)
 cbv;refine F3 hE ?_;cbv;refine B0 hE h (fun _ h=>?_) fun _ h=>?_
 ·cbv;cases h;exact hK hO (.refl _)
 cbv;refine B0 hE h (fun _ h=>?_) fun _ h=>?_
 ·cbv;cases h;exact hK hO (.refl _)
 cbv;refine D3 hE eAB4 h fun x2 h=>?_;cbv;refine M0 hE (g:=fun r3=>.tup [.bool r3.1,vi r3.2]) h (c91 N x2 aA.Num) (.refl _) fun r3 h=>?_;cbv;cases h;exact hK hO (.refl _)
theorem c92 (N aF aN r) (h:Da N aF aN=some r):Ie prog 92 (fun yv=>[yv,.eref (C6 aF) 0,.eref [vi aN] 0]) (List.map (fun(x:C3)=>[(BL x)]) r) rbN:=by
 unfold Da at h
 obtain⟨⟨w0,u0⟩,h1,hr⟩:=bind_some h;clear h;have hr:=K8 hr;subst hr;have h:=h1;clear h1;refine R9 cf0 K3 func92 (by rfl) (by kernel_rfl) call92 ntmps92 (by rfl) (fun _=>rfl) ?_;intro yv I D hI hD hy tl F E H K hE hO hK hKD
 have hO:B6 (I (List.map (fun(x:C3)=>[(BL x)]) (w0++[])++tl)) F [] H:=by rw[append_nil];exact hO
 cbv;refine F3 hE ?_;cbv;obtain⟨w2,w3,s6,hx,h1,he⟩:=Q9 h;clear h;have h:=h1;clear h1
 rw[he,append_assoc]at hO
 clear he;refine KI cf0 hE K3 (γ:=Unit) (fun s1 g=>[(0,.v (yv)),(2,.v (.eref [vi aN] 0)),(7,.v (sr eAA5 aF.cV)),fi 8 (Ar.len aF.cV),fi 9 s1]) (fun s1 g w H1=>B6 (I (List.map (fun(x:C3)=>[(BL x)]) w++tl)) F [] H1) (fun x e l w H1=>e= .exit 0∧l=[]∧B6 (I (List.map (fun(x:C3)=>[(BL x)]) w++tl)) F [] H1) (fun e l H1=>(e= .ret∧l=[]∧B6 D F [] H1)) (by kernel_rfl) ?_ (w':=w3++[]) () hx ?_ ?_ ?_ ?_
 ·rintro s1 _ w4 w5 H o hO h;clear hx
  skip
  cbv;refine B0 hE h (fun _ h=>?_) fun _ h=>?_
  ·cbv;refine D3 hE eAB1 h fun x7 h=>?_;cbv;refine B0 hE h (fun _ h=>?_) fun _ h=>?_
   ·cbv;obtain⟨w8,h1,he⟩:=X2 h;clear h;have h:=h1;clear h1
    rw[he,append_assoc]at hO
    clear he;have hO:B6 (I ([(BL x7)]::(List.map (fun(x:C3)=>[(BL x)]) (w8++w5)++tl))) F [] _:=hO;refine De hE hI hD hy hO (.refl _) (fun H hO=>?_) (fun H hO=>?_)
    ·cbv;refine JZ hE (nt_eq _) ?_;cbv;obtain⟨hw,rfl⟩:=E8 h
     rw[←hw]at hO
     exact⟨_,(),rfl,.e rfl (.e4 .z),rfl,hO⟩
    clear h;cbv;refine JY hE (nt_eq _) ?_;cbv;exact .inr ⟨_,⟨rfl,rfl,hO⟩,.z,rfl⟩
   cbv;obtain⟨hw,rfl⟩:=E8 h
   rw[←hw]at hO
   exact⟨_,(),rfl,.e rfl (.e4 .z),rfl,hO⟩
  cbv;obtain⟨hw,rfl⟩:=E8 h
  rw[←hw]at hO
  exact .inl ⟨_,_,rfl,⟨rfl,rfl,hO⟩,.z,rfl⟩
 ·exact .e rfl (.e4 .z)
 ·exact hO
 ·rintro e l H ⟨rfl,rfl,hO⟩;clear hx;cbv;obtain⟨hw,_⟩:=E8 h
  rw[←hw]at hO
  exact hK _ _ _ hO trivial
 rintro e l H hX;obtain⟨rfl,rfl,hO⟩:=hX;clear h;cbv;exact hKD _ _ _ hO trivial
theorem c41 (N aA cB r)(h:J6 N aA cB=some r):Ew prog 41 [(G3 aA),vi cB] (fun v=>Ga prog v (r.map fun(x:C3)=>[(BL x)])):=by
 unfold J6 at h
 refine W3 cf0 K3 func41 (by rfl) (by kernel_rfl) call41 ntmps41 (by rfl) (by rfl) ?_;intro E H0 K hE hK;have hO:B6 Eq H0 [] H0:=.start C4 rfl;cbv;exact hK _ _ _ hO (W1 call92 (c92 N aA cB r h))
theorem c42 (N aB aH r)(h:S6 N aB aH=some r):C5 prog 42 [(F2 aB),(Fq aH)] (.bool r):=by
 unfold S6 at h
 refine P3 cf0 func42 call42 ntmps42 ?_;intro E H0 K hE hK hO;cbv;refine A8 hE h (c40 N aB aH) (.refl _) fun r1 h=>?_;cbv;cases h;exact hK hO (.refl _)
theorem c11 (N aA aR r) (h:Z1 N aA aR=some r):C5 prog 11 [(G3 aA),sr eAA8 aR] (.tup [.bool r.1,vi r.2]):=by
 unfold Z1 at h
 refine P3 cf0 func11 call11 ntmps11 ?_;intro E H0 K hE hK hO;cbv;refine A8 hE h (c13 N aA) (.refl _) fun r1 h=>?_;cbv;refine B0 hE h (fun hc h=>?_) (fun hc h=>?_)
 ·cbv;cases h;exact hK hO (.refl _)
 cbv;refine F3 hE ?_;cbv;refine B0 hE h (fun hc h=>?_) (fun hc h=>?_)
 ·cbv;cases h;exact hK hO (.refl _)
 cbv;refine A8 hE h (c39 N aA.cW) (.refl _) fun r2 h=>?_;cbv;refine F3 hE ?_;cbv;obtain⟨s4,hx,h⟩:=bind_some h;refine J5 cf0 hE K3 (fun s3=>[(1,.v (sr eAA8 aR)),(2,.v (.eref (C6 aA) 0)),(4,.b false),fi 5 0,(7,.v (.eref (N1 r2.1) 0)),(34,.v (sr eAA8 aR)),fi 35 (Ar.len aR),fi 36 s3]) (fun s3 H1=>B6 Eq H0 [] H1) (fun x e l H1=>match(generalizing:=false) x with| .inl y=>e= .exit 0∧l=[(1,.v (sr eAA8 aR)),(2,.v (.eref (C6 aA) 0)),(4,.b false),fi 5 0]∧B6 Eq H0 [] H1| .inr y=>e= .ret∧l=[(4,.b false),fi 5 y]∧B6 Eq H0 [] H1) (by kernel_rfl) ?_ hx ?_ hO ?_
 ·intro s3 H o hO h;clear hx;cbv;refine B0 hE h (fun hc h=>?_) (fun hc h=>?_)
  ·cbv;refine D3 hE eAB8 h fun x5 h=>?_;cbv;refine A8 hE h (c40 N r2.1 x5) (.refl _) fun r6 h=>?_;cbv;refine B0 hE h (fun hc h=>?_) (fun hc h=>?_)
   ·cbv;cases h;exact⟨_,_,rfl,⟨rfl,rfl,hO⟩,.b rfl (.e rfl .z),rfl⟩
   cbv;cases h;exact⟨_,rfl,.e2 (.b rfl (.e rfl (.e rfl (.e rfl (.e rfl (.e rfl (.z))))))),rfl,hO⟩
  cbv;cases h;exact⟨_,_,rfl,⟨rfl,rfl,hO⟩,.e2 (.b rfl (.e rfl (.z))),rfl⟩
 ·exact .e2 (.b rfl (.e rfl (.e rfl (.e rfl (.e rfl (.e rfl (.z)))))))
 clear hx
 rcases s4 with y7|y65
 ·rintro e l H ⟨rfl,rfl,hO⟩;cbv;refine Ld hE (.int .i64) (V.int .i64) V.bool hO fun m8 o9 H ho9 hO=>?_;cbv;refine Dq hE (kt:=3) (et:=4) (by kernel_rfl) (by kernel_rfl) (R5 .i64) DN hO ho9 0 rfl h fun l11 o10 H ho10 h hO=>?_;cbv;refine F3 hE ?_;cbv;obtain⟨s17,hx,h⟩:=bind_some h;refine Mk cf0 hE K3 (γ:=Obj×Nat) (fun s13 g=>[(2,.v (.eref (C6 aA) 0)),(4,.b false),fi 5 0,(13,.v (.map g.2)),(52,.v (sr eAA8 aR)),fi 53 (Ar.len aR),fi 54 s13.1]) (fun s13 g ds16 H1=>CK (.int .i64) (V.int .i64) V.bool g.1 s13.2∧True∧B6 Eq H0 (.blk g.2 (.obj g.1)::Bl ds16) H1) (fun x e l ds16 H1=>∃u1:Obj,CK (.int .i64) (V.int .i64) V.bool u1 x∧∃u2:Nat,True∧e= .exit 2∧l=[(2,.v (.eref (C6 aA) 0)),(13,.v (.map u2))]∧B6 Eq H0 (.blk u2 (.obj u1)::Bl ds16) H1) (by kernel_rfl) ?_ (⟨o10,m8⟩) hx ?_ ?_ ?_
  ·rintro s13 ⟨q14,m15⟩ ds16 H o ⟨hq14,hm15,hO⟩ h;clear hx;cbv;refine B0 hE h (fun hc h=>?_) (fun hc h=>?_)
   ·cbv;refine D3 hE eAB8 h fun x18 h=>?_;cbv;refine Ld hE (.int .i64) (V.int .i64) V.bool hO fun m19 o20 H ho20 hO=>?_;cbv;refine WV hE (kt:=3) (et:=4) (by kernel_rfl) hO (hO.get 1 rfl) hq14 fun m21 b22 H hb22 hO=>?_;cbv;obtain⟨s29,hx,h⟩:=bind_some h;refine OD cf0 hE K3 (γ:=Obj) (fun s24 g=>[(2,.v (.eref (C6 aA) 0)),(4,.b false),fi 5 0,(13,.v (.map m15)),(15,.v (.eref (U6 x18) 0)),(16,.v (.eref [.map m19] 0)),(52,.v (sr eAA8 aR)),fi 53 (Ar.len aR),fi 54 s13.1,(60,.v (.ref m21 0))]) (fun s24 g ds28 b26 H1=>CK (.int .i64) (V.int .i64) V.bool g s24∧B6 Eq H0 (.blk m21 b26:: .blk m19 (.obj g):: .blk m15 (.obj q14)::Bl ds28) H1) (fun x e l ds28 H1=>∃u1:Obj,CK (.int .i64) (V.int .i64) V.bool u1 x∧e= .exit 4∧l=[(2,.v (.eref (C6 aA) 0)),(4,.b false),fi 5 0,(16,.v (.eref [.map m19] 0)),(52,.v (sr eAA8 aR)),fi 53 (Ar.len aR),fi 54 s13.1]∧B6 Eq H0 (.blk m19 (.obj u1):: .blk m15 (.obj q14)::Bl ds28) H1) (by kernel_rfl) ?_ o20 hx ?_ hb22 ?_ ?_
    ·rintro s24 q27 ds28 lf24 b26 H hb26 ⟨hq27,hO⟩ hs24;clear hx;cbv;refine WW hE hO hb26 0 rfl (hO.get 2 rfl) (fun hl=>?_) fun p25 l30 b31 H hpp25 hb31 hO=>?_
     ·cbv;refine NU hE (fun hc=>by cases hc) (fun hc=>?_);cbv;exact⟨_,_,_,.inl ⟨hl,rfl⟩,⟨q27,hq27.srt,rfl,rfl,hO.tail⟩,.e rfl (.b rfl (.e rfl (.e rfl (.e rfl (.e rfl (.e rfl (.z))))))),rfl⟩
     obtain⟨o,h⟩:=hs24 p25 l30 hpp25;have h0p25:=h;cbv;refine NU hE (fun hc=>?_) (fun hc=>by cases hc);cbv;refine WX hE hO hb31 0 rfl (hO.get 2 rfl) ?_;cbv;refine T4 hE h (c41 N aA p25.1) (.refl _) fun r32 v33 hv33 h=>?_;cbv;obtain⟨o39,hx,h⟩:=bind_some h;refine BT cf0 hE K3 (ι:=Unit) (enc:=fun(x:C3)=>[(BL x)]) (fun(s35:(List (Int×Bool))) F H=>∃g:Obj,(CK (.int .i64) (V.int .i64) V.bool g s35)∧B6 Eq F (.blk m21 b31:: .blk m19 (.obj g):: .blk m15 (.obj q14)::Bl ds28) H) (fun(r:Unit) e F H=>False) (fun i s35 y34=>[(15,.v (.eref (U6 x18) 0)),(16,.v (.eref [.map m19] 0)),(18,.v (.eref (GM y34) 0))]) (fun i s35 y34 F H=>∃g:Obj,(CK (.int .i64) (V.int .i64) V.bool g s35)∧B6 Eq F (.blk m21 b31:: .blk m19 (.obj g):: .blk m15 (.obj q14)::Bl ds28) H) (fun _=>D2.ex fun _=>B6.stable C4 _) (fun _ _=>⟨fun h=>h.elim,fun _ _ h=>h.elim⟩) (fun _ _ _=>D2.ex fun _=>B6.stable C4 _) hv33 hx (⟨q27,hq27,hO⟩) (by decide) (fun _=>rfl) (by kernel_rfl) (by kernel_rfl) ?_ ?_ ?_ ?_
     ·rintro E i37 y34 s35 F36 H hE ⟨q38,hq38,hO⟩;clear hx h;cbv;exact⟨(),⟨q38,hq38,hO⟩,.e rfl (.e2 .z),rfl⟩
     ·rintro E i37 _ y34 s35 F36 H o hE hF h ⟨q38,hq38,hO⟩;clear hx;cbv;refine JW hE (kt:=3) (et:=4) (by kernel_rfl) (by kernel_rfl) (R5 .i64) (false:Bool) (by kernel_rfl) rfl hO hq38 1 rfl h fun r40 h=>?_;cbv;refine B0 hE h (fun hc h=>?_) (fun hc h=>?_)
      ·cbv;refine A8 hE h (c42 N y34.On x18) (.refl _) fun r41 h=>?_;cbv;refine B0 hE h (fun hc h=>?_) (fun hc h=>?_)
       ·cbv;refine Dq hE (kt:=3) (et:=4) (by kernel_rfl) (by kernel_rfl) (R5 .i64) DN hO hq38 1 rfl h fun l43 o42 H ho42 h hO=>?_;cbv;cases h;exact⟨_,rfl,⟨o42,ho42,hO⟩⟩
       cbv;cases h;exact⟨_,rfl,⟨q38,hq38,hO⟩⟩
      cbv;cases h;exact⟨_,rfl,⟨q38,hq38,hO⟩⟩
     ·rintro d44 s47 H rfl hd ⟨q48,hq48,hO⟩;have hO:B6 Eq H0 (.blk m21 b31:: .blk m19 (.obj q48):: .blk m15 (.obj q14)::Bl (d44::ds28)) H:=B6.dbs1 (A:=[_,_,_]) (ds:=ds28) (B6.dblk hd hO);clear hd;clear hx;cbv;cases h;exact⟨p25,l30,_,q48,b31,_,hpp25,h0p25,.e rfl (.b rfl (.e rfl (.e rfl (.e rfl (.e rfl (.e rfl (.e rfl (.e rfl (.e rfl (.z)))))))))),rfl,hb31.1,hq48,hO⟩
     rintro d r e H rfl hd hO;exact hO.elim
    ·exact .e rfl (.b rfl (.e rfl (.e rfl (.e rfl (.e rfl (.e rfl (.e rfl (.e rfl (.e rfl (.z))))))))))
    ·exact⟨ho20,hO⟩
    clear hx;rintro e l ds28 H ⟨q49,hq49,rfl,rfl,hO⟩;cbv;have hO:B6 Eq H0 (.blk m15 (.obj q14):: .blk m19 (.obj q49)::Bl ds28) H:=hO.swp 0 1 rfl rfl;cases h;exact⟨_,⟨q49,m19⟩,_,rfl,.e rfl (.b rfl (.e rfl (.e rfl (.e rfl (.e rfl (.e rfl (.z))))))),rfl,hq49,trivial,hO.tail⟩
   cbv;cases h;exact⟨_,_,_,rfl,⟨q14,hq14,m15,trivial,rfl,rfl,hO⟩,.e2 .z,rfl⟩
  ·exact .e rfl (.b rfl (.e rfl (.e rfl (.e rfl (.e rfl (.e rfl (.z)))))))
  ·exact⟨ho10,trivial,hO⟩
  clear hx;rintro e l ds16 H ⟨q50,hq50,m51,hm51,rfl,rfl,hO⟩;cbv;refine WV hE (kt:=3) (et:=4) (by kernel_rfl) hO (hO.get 0 rfl) hq50 fun m52 b53 H hb53 hO=>?_;cbv;obtain⟨s59,hx,h⟩:=bind_some h;refine OD cf0 hE K3 (γ:=Unit) (fun s55 _=>[(2,.v (.eref (C6 aA) 0)),(86,.v (.ref m52 0))]) (fun s55 _ ds58 b57 H1=>B6 Eq H0 (.blk m52 b57:: .blk m51 (.obj q50)::Bl ds58) H1) (fun x e l ds58 H1=>match(generalizing:=false) x with| .inl y=>e= .exit 8∧l=[]∧B6 Eq H0 (.blk m51 (.obj q50)::Bl ds58) H1| .inr y=>e= .ret∧l=[(4,.b true),fi 5 0]∧B6 Eq H0 (.blk m51 (.obj q50)::Bl ds58) H1) (by kernel_rfl) ?_ () hx ?_ hb53 ?_ ?_
  ·rintro s55 _ ds58 lf55 b57 H hb57 hO hs55;clear hx;cbv;refine WW hE hO hb57 0 rfl (hO.get 1 rfl) (fun hl=>?_) fun p56 l60 b61 H hpp56 hb61 hO=>?_
   ·cbv;refine NU hE (fun hc=>by cases hc) (fun hc=>?_);cbv;exact⟨_,_,_,.inl ⟨hl,rfl⟩,⟨rfl,rfl,hO.tail⟩,.z,rfl⟩
   obtain⟨o,h⟩:=hs55 p56 l60 hpp56;have h0p56:=h;cbv;refine NU hE (fun hc=>?_) (fun hc=>by cases hc);cbv;refine WX hE hO hb61 0 rfl (hO.get 1 rfl) ?_;cbv;refine D3 hE (fun _=>rfl) h fun x62 h=>?_;cbv;refine B0 hE h (fun hc h=>?_) (fun hc h=>?_)
   ·cbv;cases h;exact⟨_,_,_,.inr ⟨p56,l60,hpp56,h0p56⟩,⟨rfl,rfl,hO.tail⟩,.b rfl (.e rfl .z),rfl⟩
   cbv;cases h;exact⟨p56,l60,_,(),b61,_,hpp56,h0p56,.e2 .z,rfl,hb61.1,hO⟩
  ·exact .e2 .z
  ·exact hO
  clear hx
  rcases s59 with y63|y64
  ·rintro e l ds58 H ⟨rfl,rfl,hO⟩;cbv
   rcases ds58 with _|⟨d0,ds58⟩
   ·cbv;have hO:B6 _ _ [.blk m51 (.obj q50)] H:=hO;cases h;exact hK hO (.refl _)
   cbv;refine Iu (A:=[_]) (ds:=d0::ds58) hE hO fun H hO=>?_;cbv;cases h;exact hK hO (.refl _)
  rintro e l ds58 H ⟨rfl,rfl,hO⟩;cbv
  rcases ds58 with _|⟨d0,ds58⟩
  ·cbv;have hO:B6 _ _ [.blk m51 (.obj q50)] H:=hO;cases h;exact hK hO (.refl _)
  cbv;refine Iu (A:=[_]) (ds:=d0::ds58) hE hO fun H hO=>?_;cbv;cases h;exact hK hO (.refl _)
 rintro e l H ⟨rfl,rfl,hO⟩;cbv;cases h;exact hK hO (.refl _)
theorem c167 (N bD r)(h:Gf N bD=some r):C5 prog 167 [.int .u8 bD] (.bool r):=by
 unfold Gf at h
 refine P3 cf0 func167 call167 ntmps167 ?_;intro E H0 K hE hK hO;cbv;cases h;exact hK hO (.refl _)
theorem c168 (N bD r)(h:Hv N bD=some r):C5 prog 168 [.int .u8 bD] (.bool r):=by
 unfold Hv at h
 refine P3 cf0 func168 call168 ntmps168 ?_;intro E H0 K hE hK hO;cbv;cases h;exact hK hO (.refl _)
theorem c128 (N aA r) (h:Hm N aA=some r):C5 prog 128 [.str aA] (.bool r):=by
 unfold Hm at h
 refine P3 cf0 func128 call128 ntmps128 ?_;intro E H0 K hE hK hO;cbv;refine B0 hE h (fun _ h=>?_) fun _ h=>?_
 ·cbv;cases h;exact hK hO (.refl _)
 cbv;refine Mj hE h fun h=>?_;cbv;refine A8 hE h (c167 N (sat aA 0)) (.refl _) fun r1 h=>?_;cbv;refine B0 hE h (fun _ h=>?_) fun _ h=>?_
 ·cbv;cases h;exact hK hO (.refl _)
 cbv;obtain⟨s3,hx,h⟩:=bind_some h;refine J5 cf0 hE K3 (fun s2=>[(0,.v (.str aA)),fi 18 (Ar.slen aA),fi 19 s2]) (fun s2 H1=>B6 Eq H0 [] H1) (fun x e l H1=>match(generalizing:=false) x with| .inl y=>e= .exit 0∧l=[]∧B6 Eq H0 [] H1| .inr y=>e= .ret∧l=[(2,.b false)]∧B6 Eq H0 [] H1) (by kernel_rfl) ?_ hx ?_ hO ?_
 ·intro s2 H o hO h;clear hx;cbv;refine B0 hE h (fun _ h=>?_) fun _ h=>?_
  ·cbv;refine Mj hE h fun h=>?_;cbv;refine A8 hE h (c168 N (sat aA s2)) (.refl _) fun r4 h=>?_;cbv;refine B0 hE h (fun _ h=>?_) fun _ h=>?_
   ·cbv;refine Mj hE h fun h=>?_;cbv;refine A8 hE h (c167 N (sat aA s2)) (.refl _) fun r5 h=>?_;cbv;refine B0 hE h (fun _ h=>?_) fun _ h=>?_
    ·cbv;cases h;exact⟨_,_,rfl,⟨rfl,rfl,hO⟩,.b rfl (.z),rfl⟩
    cbv;cases h;exact⟨_,rfl,.e rfl (.e2 .z),rfl,hO⟩
   cbv;cases h;exact⟨_,rfl,.e rfl (.e2 .z),rfl,hO⟩
  cbv;cases h;exact⟨_,_,rfl,⟨rfl,rfl,hO⟩,.z,rfl⟩
 ·exact .e rfl (.e2 .z)
 clear hx
 rcases s3 with y6|y7
 ·rintro e l H ⟨rfl,rfl,hO⟩;cbv;cases h;exact hK hO (.refl _)
 rintro e l H ⟨rfl,rfl,hO⟩;cbv;cases h;exact hK hO (.refl _)
theorem c129 (N aA r)(h:ED N aA=some r):C5 prog 129 [.str aA] (.bool r):=by
 unfold ED at h
 refine P3 cf0 func129 call129 ntmps129 ?_;intro E H0 K hE hK hO;cbv;refine A8 hE h (c128 N aA) (.refl _) fun r1 h=>?_;cbv;cases h;exact hK hO (.refl _)
theorem c96 (N aA r) (h:Il N aA=some r):C5 prog 96 [(Te aA)] (vi r):=by
 unfold Il at h
 refine P3 cf0 func96 call96 ntmps96 ?_;intro E H0 K hE hK hO;cbv;refine A8 hE h (c128 N aA.Name) (.refl _) fun r1 h=>?_;cbv;refine B0 hE h (fun _ h=>?_) fun _ h=>?_
 ·cbv;cases h;exact hK hO (.refl _)
 cbv;refine F3 hE ?_;cbv;refine B0 hE h (fun _ h=>?_) fun _ h=>?_
 ·cbv;cases h;exact hK hO (.refl _)
 cbv;refine Ld hE .string V.str V.bool hO fun m2 o3 H ho3 hO=>?_;cbv;refine F3 hE ?_;cbv;obtain⟨s6,hx,h⟩:=bind_some h;refine M1 cf0 hE K3 (γ:=Obj) (fun s4 g=>[(3,.v (.map m2)),(16,.v (sr eAD2 aA.Fields)),fi 17 (Ar.len aA.Fields),fi 18 s4.1]) (fun s4 g H1=>CK .string V.str V.bool g s4.2∧B6 Eq H0 [.blk m2 (.obj g)] H1) (fun x e l H1=>match(generalizing:=false) x with| .inl y=>∃u1:Obj,CK .string V.str V.bool u1 y∧e= .exit 0∧l=[]∧B6 Eq H0 [.blk m2 (.obj u1)] H1| .inr y=>∃u1:Obj,CK .string V.str V.bool u1 y.2∧e= .ret∧l=[fi 2 y.1]∧B6 Eq H0 [.blk m2 (.obj u1)] H1) (by kernel_rfl) ?_ o3 hx ?_ ?_ ?_
 ·rintro s4 q5 H o ⟨hq5,hO⟩ h;clear hx;cbv;refine B0 hE h (fun _ h=>?_) fun _ h=>?_
  ·cbv;refine D3 hE eAE4 h fun x7 h=>?_;cbv;refine A8 hE h (c129 N x7.Name) (.refl _) fun r8 h=>?_;cbv;refine B0 hE h (fun _ h=>?_) fun _ h=>?_
   ·cbv;cases h;exact⟨_,_,rfl,⟨q5,hq5,rfl,rfl,hO⟩,.e rfl .z,rfl⟩
   cbv;refine JW hE (kt:=9) (et:=4) (by kernel_rfl) (by kernel_rfl) Mm (false:Bool) (by kernel_rfl) rfl hO hq5 0 rfl h fun r9 h=>?_;cbv;refine B0 hE h (fun _ h=>?_) fun _ h=>?_
   ·cbv;cases h;exact⟨_,_,rfl,⟨q5,hq5,rfl,rfl,hO⟩,.e rfl .z,rfl⟩
   cbv;refine B0 hE h (fun _ h=>?_) fun _ h=>?_
   ·cbv;cases h;exact⟨_,_,rfl,⟨q5,hq5,rfl,rfl,hO⟩,.e rfl .z,rfl⟩
   cbv;refine Dq hE (kt:=9) (et:=4) (by kernel_rfl) (by kernel_rfl) Mm DN hO hq5 0 rfl h fun l11 o10 H ho10 h hO=>?_;cbv;cases h;exact⟨_,o10,rfl,.e4 .z,rfl,ho10,hO⟩
  cbv;cases h;exact⟨_,_,rfl,⟨q5,hq5,rfl,rfl,hO⟩,.z,rfl⟩
 ·exact .e4 .z
 ·exact⟨ho3,hO⟩
 clear hx
 rcases s6 with y12|y14
 ·rintro e l H ⟨q13,hq13,rfl,rfl,hO⟩;cbv;cases h;exact hK hO (.refl _)
 rintro e l H ⟨q15,hq15,rfl,rfl,hO⟩;cbv;cases h;exact hK hO (.refl _)
theorem c51 (N aG r) (h:BD N aG=some r):C5 prog 51 [sr eAC3 aG] (vi r):=by
 unfold BD at h
 refine P3 cf0 func51 call51 ntmps51 ?_;intro E H0 K hE hK hO;cbv;refine F3 hE ?_;cbv;refine B0 hE h (fun _ h=>?_) fun _ h=>?_
 ·cbv;cases h;exact hK hO (.refl _)
 cbv;refine Ld hE .string V.str V.bool hO fun m1 o2 H ho2 hO=>?_;cbv;refine F3 hE ?_;cbv;obtain⟨s5,hx,h⟩:=bind_some h;refine M1 cf0 hE K3 (γ:=Obj) (fun s3 g=>[(3,.v (.map m1)),(11,.v (sr eAC3 aG)),fi 12 (Ar.len aG),fi 13 s3.1]) (fun s3 g H1=>CK .string V.str V.bool g s3.2∧B6 Eq H0 [.blk m1 (.obj g)] H1) (fun x e l H1=>match(generalizing:=false) x with| .inl y=>∃u1:Obj,CK .string V.str V.bool u1 y∧e= .exit 0∧l=[]∧B6 Eq H0 [.blk m1 (.obj u1)] H1| .inr y=>∃u1:Obj,CK .string V.str V.bool u1 y.2∧e= .ret∧l=[fi 2 y.1]∧B6 Eq H0 [.blk m1 (.obj u1)] H1) (by kernel_rfl) ?_ o2 hx ?_ ?_ ?_
 ·rintro s3 q4 H o ⟨hq4,hO⟩ h;clear hx;cbv;refine B0 hE h (fun _ h=>?_) fun _ h=>?_
  ·cbv;refine D3 hE eAD9 h fun x6 h=>?_;cbv;refine A8 hE h (c96 N x6) (.refl _) fun r7 h=>?_;cbv;refine B0 hE h (fun _ h=>?_) fun _ h=>?_
   ·cbv;cases h;exact⟨_,_,rfl,⟨q4,hq4,rfl,rfl,hO⟩,.e rfl .z,rfl⟩
   cbv;refine JW hE (kt:=9) (et:=4) (by kernel_rfl) (by kernel_rfl) Mm (false:Bool) (by kernel_rfl) rfl hO hq4 0 rfl h fun r8 h=>?_;cbv;refine B0 hE h (fun _ h=>?_) fun _ h=>?_
   ·cbv;cases h;exact⟨_,_,rfl,⟨q4,hq4,rfl,rfl,hO⟩,.e rfl .z,rfl⟩
   cbv;refine Dq hE (kt:=9) (et:=4) (by kernel_rfl) (by kernel_rfl) Mm DN hO hq4 0 rfl h fun l10 o9 H ho9 h hO=>?_;cbv;cases h;exact⟨_,o9,rfl,.e4 .z,rfl,ho9,hO⟩
  cbv;cases h;exact⟨_,_,rfl,⟨q4,hq4,rfl,rfl,hO⟩,.z,rfl⟩
 ·exact .e4 .z
 ·exact⟨ho2,hO⟩
 clear hx
 rcases s5 with y11|y13
 ·rintro e l H ⟨q12,hq12,rfl,rfl,hO⟩;cbv;cases h;exact hK hO (.refl _)
 rintro e l H ⟨q14,hq14,rfl,rfl,hO⟩;cbv;cases h;exact hK hO (.refl _)
theorem c255 (N:Nat):∀n aB r,Gg N n aB=some r→Ie prog 255 (fun yv=>[(D7 aB),yv]) (List.map (fun(x:A9)=>[(D7 x)]) r) rbB:=by
 intro n
 induction n with
 |zero=>intro aB r h;cases h
 |succ n ih=>
 intro aB r h
 unfold Gg at h
 obtain⟨⟨w0,u0⟩,h1,hr⟩:=bind_some h;clear h;have hr:=K8 hr;subst hr;have h:=h1;clear h1;refine R9 cf0 K3 func255 (by rfl) (by kernel_rfl) call255 ntmps255 (by rfl) (fun _=>rfl) ?_;intro yv I D hI hD hy tl F E H K hE hO hK hKD
 have hO:B6 (I (List.map (fun(x:A9)=>[(D7 x)]) (w0++[])++tl)) F [] H:=by rw[append_nil];exact hO
 cbv;obtain⟨w1,h1,he⟩:=X2 h;clear h;have h:=h1;clear h1
 rw[he,append_assoc]at hO
 clear he;have hO:B6 (I ([(D7 aB)]::(List.map (fun(x:A9)=>[(D7 x)]) (w1++[])++tl))) F [] _:=hO;refine De hE hI hD hy hO (.refl _) (fun H hO=>?_) (fun H hO=>?_)
 ·cbv;refine JZ hE (nt_eq _) ?_;cbv;refine F3 hE ?_;cbv;obtain⟨w3,w4,s7,hx,h1,he⟩:=Q9 h;clear h;have h:=h1;clear h1
  rw[he,append_assoc]at hO
  clear he;refine KI cf0 hE K3 (γ:=Unit) (fun s2 g=>[(1,.v (yv)),(12,.v (sr eAA6 aB.dA)),fi 13 (Ar.len aB.dA),fi 14 s2]) (fun s2 g w H1=>B6 (I (List.map (fun(x:A9)=>[(D7 x)]) w++tl)) F [] H1) (fun x e l w H1=>e= .exit 0∧l=[]∧B6 (I (List.map (fun(x:A9)=>[(D7 x)]) w++tl)) F [] H1) (fun e l H1=>(e= .ret∧l=[(4,.b false)]∧B6 D F [] H1)) (by kernel_rfl) ?_ (w':=w4++[]) () hx ?_ ?_ ?_ ?_
  ·rintro s2 _ w5 w6 H o hO h;clear hx
   skip
   cbv;refine B0 hE h (fun _ h=>?_) fun _ h=>?_
   ·cbv;refine D3 hE eAB3 h fun x8 h=>?_;cbv;obtain⟨l9,hl,h⟩:=bind_some h;obtain⟨w10,h1,he⟩:=X2 h;clear h;have h:=h1;clear h1
    rw[he,append_assoc]at hO
    clear he
    rw[List.map_append,append_assoc]at hO
    refine Aa8 hE hI hD hy (ih x8 l9 hl) hO (.refl _) (fun v H hb hO=>?_) (fun v H hb hO=>?_)
    ·cases hb;clear hl;cbv;refine JZ hE (nt_eq _) ?_;cbv;obtain⟨hw,rfl⟩:=E8 h
     rw[←hw]at hO
     exact⟨_,(),rfl,.e4 .z,rfl,hO⟩
    cases hb;clear h hl;cbv;refine JY hE (nt_eq _) ?_;cbv;exact .inr ⟨_,⟨rfl,rfl,hO⟩,.b rfl (.z),rfl⟩
   cbv;obtain⟨hw,rfl⟩:=E8 h
   rw[←hw]at hO
   exact .inl ⟨_,_,rfl,⟨rfl,rfl,hO⟩,.z,rfl⟩
  ·exact .e4 .z
  ·exact hO
  ·rintro e l H ⟨rfl,rfl,hO⟩;clear hx;cbv;obtain⟨hw,_⟩:=E8 h
   rw[←hw]at hO
   exact hK _ _ _ hO rfl
  rintro e l H hX;obtain⟨rfl,rfl,hO⟩:=hX;clear h;cbv;exact hKD _ _ _ hO rfl
 clear h;cbv;refine JY hE (nt_eq _) ?_;cbv;exact hKD _ _ _ hO rfl
theorem c254 (N aF r) (h:Dp N aF=some r):Ie prog 254 (fun yv=>[yv,.eref (G4 aF) 0]) (List.map (fun(x:A9)=>[(D7 x)]) r) rbN:=by
 unfold Dp at h
 obtain⟨⟨w0,u0⟩,h1,hr⟩:=bind_some h;clear h;have hr:=K8 hr;subst hr;have h:=h1;clear h1;refine R9 cf0 K3 func254 (by rfl) (by kernel_rfl) call254 ntmps254 (by rfl) (fun _=>rfl) ?_;intro yv I D hI hD hy tl F E H K hE hO hK hKD
 have hO:B6 (I (List.map (fun(x:A9)=>[(D7 x)]) (w0++[])++tl)) F [] H:=by rw[append_nil];exact hO
 cbv;obtain⟨l1,hl,h⟩:=bind_some h;obtain⟨w2,h1,he⟩:=X2 h;clear h;have h:=h1;clear h1
 rw[he,append_assoc]at hO
 clear he
 rw[List.map_append,append_assoc]at hO
 refine Aa8 hE hI hD hy (c255 N N aF l1 hl) hO (.refl _) (fun v H hb hO=>?_) (fun v H hb hO=>?_)
 ·cases hb;clear hl;cbv;obtain⟨hw,_⟩:=E8 h
  rw[←hw]at hO
  exact hK _ _ _ hO trivial
 cases hb;clear h hl;cbv;exact hKD _ _ _ hO trivial
theorem c216 (N aB r)(h:Ba N aB=some r):Ew prog 216 [(D7 aB)] (fun v=>Ga prog v (r.map fun(x:A9)=>[(D7 x)])):=by
 unfold Ba at h
 refine W3 cf0 K3 func216 (by rfl) (by kernel_rfl) call216 ntmps216 (by rfl) (by rfl) ?_;intro E H0 K hE hK;have hO:B6 Eq H0 [] H0:=.start C4 rfl;cbv;exact hK _ _ _ hO (W1 call254 (c254 N aB r h))
def cf172 :Cf:=⟨[5,6,7],[(11,5)],[(18,7)],[],[],[]⟩
theorem c172 (N aB r) (h:ES N aB=some r):C5 prog 172 [(D7 aB)] (.tup [vi r.1,vi r.2.1,.bool r.2.2]):=by
 unfold ES at h
 refine P3 cf172 func172 call172 ntmps172 ?_;intro E H0 K hE hK hO;cbv;refine E6 hE hO fun b1 H hO=>?_;cbv;refine E6 hE hO fun b2 H hO=>?_;cbv;refine E6 hE hO fun b3 H hO=>?_;cbv;refine A7 hE hO 2 rfl rfl fun H hO=>?_;cbv;refine A7 hE hO 1 rfl rfl fun H hO=>?_;cbv;refine A7 hE hO 0 rfl rfl fun H hO=>?_;cbv;refine T4 hE h (c216 N aB) (.refl _) fun r4 v5 hv5 h=>?_;cbv;obtain⟨o10,hx,h⟩:=bind_some h;refine BT cf172 hE K3 (ι:=Unit) (enc:=fun(x:A9)=>[(D7 x)]) (fun(s7:Bool×Int×Int) F H=>B6 Eq F [cb b3 [.bool s7.1],cb b2 [vi s7.2.1],cb b1 [vi s7.2.2]] H) (fun(r:Unit) e F H=>False) (fun i s7 y6=>[(5,.v (.ref b1 0)),(6,.v (.ref b2 0)),(7,.v (.ref b3 0)),(8,.v (.eref (G4 y6) 0))]) (fun i s7 y6 F H=>B6 Eq F [cb b3 [.bool s7.1],cb b2 [vi s7.2.1],cb b1 [vi s7.2.2]] H) (fun _=>B6.stable C4 _) (fun _ _=>⟨fun h=>h.elim,fun _ _ h=>h.elim⟩) (fun _ _ _=>B6.stable C4 _) hv5 hx (hO) (by decide) (fun _=>rfl) (by kernel_rfl) (by kernel_rfl) ?_ ?_ ?_ ?_
 ·rintro E i9 y6 s7 F8 H hE hO;clear hx h;cbv;exact⟨(),hO,.e4 .z,rfl⟩
 ·rintro E i9 _ y6 s7 F8 H o hE hF h hO;clear hx;cbv;refine Aa9 hE (g:=fun x=>(IJ x)) (l:=R0) rfl (fun _=>rfl) rfl rfl h fun x11 h=>?_;cbv;obtain⟨s12,hx,h⟩:=bind_some h;refine P0 cf172 hE K3 (fun e l H1=>e= .normal∧l=[(6,.v (.ref b2 0)),(7,.v (.ref b3 0)),(8,.v (.eref (G4 y6) 0)),(9,.v (.eref (FP x11) 0))]∧B6 Eq F8 [cb b3 [.bool s12.1],cb b2 [vi s7.2.1],cb b1 [vi s12.2]] H1) (by kernel_rfl) ?_ ?_
  ·clear h;have h:=hx;clear hx;cbv;refine B0 hE h (fun _ h=>?_) fun _ h=>?_
   ·cbv;refine B1 hE hO 0 rfl ?_;cbv;refine B1 hE hO 2 rfl ?_;cbv;refine A7 hE hO 0 rfl rfl fun H hO=>?_;cbv;refine B1 hE hO 2 rfl ?_;cbv;refine A7 hE hO 2 rfl rfl fun H hO=>?_;cbv;cases h;exact⟨_,⟨rfl,rfl,hO⟩,.e4 .z,rfl⟩
   cbv;cases h;exact⟨_,⟨rfl,rfl,hO⟩,.e4 .z,rfl⟩
  clear hx;rintro e l H ⟨rfl,rfl,hO⟩;cbv;refine B0 hE h (fun _ h=>?_) fun _ h=>?_
  ·cbv;refine B1 hE hO 0 rfl ?_;cbv;refine B1 hE hO 1 rfl ?_;cbv;refine A7 hE hO 0 rfl rfl fun H hO=>?_;cbv;refine B1 hE hO 1 rfl ?_;cbv;refine A7 hE hO 1 rfl rfl fun H hO=>?_;cbv;cases h;exact⟨_,rfl,hO⟩
  cbv;cases h;exact⟨_,rfl,hO⟩
 ·rintro d13 s15 H rfl hd hO;have hO:B6 Eq H0 [cb b3 [.bool s15.1],cb b2 [vi s15.2.1],cb b1 [vi s15.2.2],.blk d13 DB] H:=B6.dblk hd hO;clear hd;clear hx;cbv;refine B1 hE hO 2 rfl ?_;cbv;refine B1 hE hO 1 rfl ?_;cbv;refine B1 hE hO 0 rfl ?_;cbv;refine Ec hE hO 3 rfl fun H hO=>?_;cbv;cases h;exact hK hO (.refl _)
 rintro d r e H rfl hd hO;exact hO.elim
theorem c218 (N:Nat):∀n aB r,Gi N n aB=some r→C5 prog 218 [(D7 aB)] (.tup [vi r.1,vi r.2]):=by
 intro n
 induction n with
 |zero=>intro aB r h;cases h
 |succ n ih=>
 intro aB r h
 unfold Gi at h
 refine P3 cf0 func218 call218 ntmps218 ?_;intro E H0 K hE hK hO;cbv;refine F3 hE ?_;cbv;obtain⟨s2,hx,h⟩:=bind_some h;refine J5 cf0 hE K3 (fun s1=>[fi 4 s1.1,fi 5 s1.2.1,(11,.v (sr eAA6 aB.dA)),fi 12 (Ar.len aB.dA),fi 13 s1.2.2]) (fun s1 H1=>B6 Eq H0 [] H1) (fun x e l H1=>e= .exit 0∧l=[fi 4 x.1,fi 5 x.2]∧B6 Eq H0 [] H1) (by kernel_rfl) ?_ hx ?_ hO ?_
 ·intro s1 H o hO h;clear hx;cbv;refine B0 hE h (fun _ h=>?_) fun _ h=>?_
  ·cbv;refine D3 hE eAB3 h fun x3 h=>?_;cbv;refine A8 hE h (ih x3) (.refl _) fun r4 h=>?_;cbv;cases h;exact⟨_,rfl,.e rfl (.e4 .z),rfl,hO⟩
  cbv;cases h;exact⟨_,_,rfl,⟨rfl,rfl,hO⟩,.e2 .z,rfl⟩
 ·exact .e rfl (.e4 .z)
 clear hx;rintro e l H ⟨rfl,rfl,hO⟩;cbv;cases h;exact hK hO (.refl _)
theorem c178 (N:Nat):∀n aE r,KN N n aE=some r→C5 prog 178 [(CL aE)] (.tup [vi r.1,vi r.2]):=by
 intro n
 induction n with
 |zero=>intro aE r h;cases h
 |succ n ih=>
 intro aE r h
 unfold KN at h
 refine P3 cf0 func178 call178 ntmps178 ?_;intro E H0 K hE hK hO;cbv;refine F3 hE ?_;cbv;obtain⟨s2,hx,h⟩:=bind_some h;refine J5 cf0 hE K3 (fun s1=>[fi 4 s1.1,fi 5 s1.2.1,(11,.v (sr eAB0 aE.dA)),fi 12 (Ar.len aE.dA),fi 13 s1.2.2]) (fun s1 H1=>B6 Eq H0 [] H1) (fun x e l H1=>e= .exit 0∧l=[fi 4 x.1,fi 5 x.2]∧B6 Eq H0 [] H1) (by kernel_rfl) ?_ hx ?_ hO ?_
 ·intro s1 H o hO h;clear hx;cbv;refine B0 hE h (fun _ h=>?_) fun _ h=>?_
  ·cbv;refine D3 hE eAB9 h fun x3 h=>?_;cbv;refine A8 hE h (ih x3) (.refl _) fun r4 h=>?_;cbv;cases h;exact⟨_,rfl,.e rfl (.e4 .z),rfl,hO⟩
  cbv;cases h;exact⟨_,_,rfl,⟨rfl,rfl,hO⟩,.e2 .z,rfl⟩
 ·exact .e rfl (.e4 .z)
 clear hx;rintro e l H ⟨rfl,rfl,hO⟩;cbv;cases h;exact hK hO (.refl _)
theorem c179 (N:Nat):∀(n:Nat) (aE:L7) (aU:V) (aM:L7→Option Int) (aZ:∀y1 q,aM y1=some q→U2 prog aU [(CL y1)] (vi q)) (r:Int),Iz N n aE aM=some r→C5 prog 179 [(CL aE),aU] (vi r):=by
 intro n
 induction n with
 |zero=>intro aE aU aM aZ r h;cases h
 |succ n ih=>
 intro aE aU aM aZ r h
 unfold Iz at h
 refine P3 cf0 func179 call179 ntmps179 ?_;intro E H0 K hE hK hO;cbv;refine CF hE (g:=fun r1=>vi r1) h (fun r1 hx=>aZ aE r1 hx) (.refl _) fun r1 h=>?_;cbv;refine B0 hE h (fun _ h=>?_) fun _ h=>?_
 ·cbv;cases h;exact hK hO (.refl _)
 cbv;refine F3 hE ?_;cbv;obtain⟨s3,hx,h⟩:=bind_some h;refine J5 cf0 hE K3 (fun s2=>[(1,.v (aU)),(16,.v (sr eAB0 aE.dA)),fi 17 (Ar.len aE.dA),fi 18 s2]) (fun s2 H1=>B6 Eq H0 [] H1) (fun x e l H1=>match(generalizing:=false) x with| .inl y=>e= .exit 0∧l=[]∧B6 Eq H0 [] H1| .inr y=>e= .ret∧l=[fi 4 y]∧B6 Eq H0 [] H1) (by kernel_rfl) ?_ hx ?_ hO ?_
 ·intro s2 H o hO h;clear hx;cbv;refine B0 hE h (fun _ h=>?_) fun _ h=>?_
  ·cbv;refine D3 hE eAB9 h fun x4 h=>?_;cbv;refine A8 hE h (ih x4 aU aM aZ) (.refl _) fun r5 h=>?_;cbv;refine B0 hE h (fun _ h=>?_) fun _ h=>?_
   ·cbv;cases h;exact⟨_,_,rfl,⟨rfl,rfl,hO⟩,.e rfl .z,rfl⟩
   cbv;cases h;exact⟨_,rfl,.e4 .z,rfl,hO⟩
  cbv;cases h;exact⟨_,_,rfl,⟨rfl,rfl,hO⟩,.z,rfl⟩
 ·exact .e4 .z
 clear hx
 rcases s3 with y6|y7
 ·rintro e l H ⟨rfl,rfl,hO⟩;cbv;cases h;exact hK hO (.refl _)
 rintro e l H ⟨rfl,rfl,hO⟩;cbv;cases h;exact hK hO (.refl _)
theorem c220 (N aO r)(h:LH N aO=some r):C5 prog 220 [vi aO] (.tup [vi r.1,.bool r.2]):=by
 unfold LH at h
 refine P3 cf0 func220 call220 ntmps220 ?_;intro E H0 K hE hK hO;cbv;refine B0 hE h (fun _ h=>?_) fun _ h=>?_
 ·cbv;cases h;exact hK hO (.refl _)
 cbv;refine B0 hE h (fun _ h=>?_) fun _ h=>?_
 ·cbv;cases h;exact hK hO (.refl _)
 cbv;refine B0 hE h (fun _ h=>?_) fun _ h=>?_
 ·cbv;cases h;exact hK hO (.refl _)
 cbv;cases h;exact hK hO (.refl _)
def cf221 :Cf:=⟨[],[],[(5,4)],[],[],[]⟩
theorem c221 (N aO r) (h:Nn N aO=some r):C5 prog 221 [vi aO] (.tup [.bool r.1,.bool r.2]):=by
 unfold Nn at h
 refine P3 cf221 func221 call221 ntmps221 ?_;intro E H0 K hE hK hO;cbv;obtain⟨s1,hx,h⟩:=bind_some h;refine P0 cf221 hE K3 (fun e l H1=>e= .normal∧l=[fi 4 aO,(5,.v (.bool s1))]∧B6 Eq H0 [] H1) (by kernel_rfl) ?_ ?_
 ·clear h;have h:=hx;clear hx;cbv;refine B0 hE h (fun _ h=>?_) fun _ h=>?_
  ·cbv;cases h;exact⟨_,⟨rfl,rfl,hO⟩,.e2 .z,rfl⟩
  cbv;cases h;exact⟨_,⟨rfl,rfl,hO⟩,.e2 .z,rfl⟩
 clear hx;rintro e l H ⟨rfl,rfl,hO⟩;cbv;refine B0 hE h (fun _ h=>?_) fun _ h=>?_
 ·cbv;cases h;exact hK hO (.refl _)
 cbv;refine B0 hE h (fun _ h=>?_) fun _ h=>?_
 ·cbv;cases h;exact hK hO (.refl _)
 cbv;refine B0 hE h (fun _ h=>?_) fun _ h=>?_
 ·cbv;cases h;exact hK hO (.refl _)
 cbv;cases h;exact hK hO (.refl _)
end Go.Ab
