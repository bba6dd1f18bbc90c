/- . -/
import Derived.Test.YtildiiggamckaaaGreatDoorK11
import Derived.Shelf.Sort.Plain
import Derived.Shelf.Slices.CompactI
import Derived.Test.YtildiiggamckaaaGreatDoorProg
import Derived.KernelRfl
set_option linter.all false
/- The shelf laid at this program: plain. -/
open List (append_assoc append_nil)
open Go.Ab.Ar (lst nt_eq sat)
namespace Go.Proofs
open Go.Shelf
set_option maxRecDepth 100000
def Tryz.laysNm189_ren:Ren:=
{
  f :=fun x=>
    match x with
    |189=>241
    |125=>272
    |257=>271
    |128=>296
    |129=>297
    |294=>287
    |295=>288
    |296=>289
    |297=>290
    |298=>291
    |299=>292
    |216=>293
    |300=>294
    |301=>295
    |328=>305
    |329=>306
    |330=>307
    |331=>308
    |332=>309
    |215=>310
    |343=>315
    |n=>n,
  t :=fun x=>
    match x with
    |28=>104
    |3=>3
    |46=>218
    |0=>0
    |51=>257
    |53=>260
    |4=>4
    |183=>341
    |182=>340
    |131=>117
    |5=>5
    |9=>9
    |218=>357
    |222=>361
    |228=>368
    |229=>175
    |n=>n,
  g :=fun x=>
    x}
def Tryz.laysNm189:Lays.n189 Tryz.prog Tryz.laysNm189_ren:=
{ mixed :=(by kernel_rfl),f125:=Eq.trans Tryz.func272 (congrArg some (by kernel_rfl)),
  f128:=Eq.trans Tryz.func296 (congrArg some (by kernel_rfl)),
  f129:=Eq.trans Tryz.func297 (congrArg some (by kernel_rfl)),
  f189:=Eq.trans Tryz.func241 (congrArg some (by kernel_rfl)),
  f215:=Eq.trans Tryz.func310 (congrArg some (by kernel_rfl)),
  f216:=Eq.trans Tryz.func293 (congrArg some (by kernel_rfl)),
  f257:=Eq.trans Tryz.func271 (congrArg some (by kernel_rfl)),
  f294:=Eq.trans Tryz.func287 (congrArg some (by kernel_rfl)),
  f295:=Eq.trans Tryz.func288 (congrArg some (by kernel_rfl)),
  f296:=Eq.trans Tryz.func289 (congrArg some (by kernel_rfl)),
  f297:=Eq.trans Tryz.func290 (congrArg some (by kernel_rfl)),
  f298:=Eq.trans Tryz.func291 (congrArg some (by kernel_rfl)),
  f299:=Eq.trans Tryz.func292 (congrArg some (by kernel_rfl)),
  f300:=Eq.trans Tryz.func294 (congrArg some (by kernel_rfl)),
  f301:=Eq.trans Tryz.func295 (congrArg some (by kernel_rfl)),
  f328:=Eq.trans Tryz.func305 (congrArg some (by kernel_rfl)),
  f329:=Eq.trans Tryz.func306 (congrArg some (by kernel_rfl)),
  f330:=Eq.trans Tryz.func307 (congrArg some (by kernel_rfl)),
  f331:=Eq.trans Tryz.func308 (congrArg some (by kernel_rfl)),
  f332:=Eq.trans Tryz.func309 (congrArg some (by kernel_rfl)),
  f343:=Eq.trans Tryz.func315 (congrArg some (by kernel_rfl)),t0:=Tryz.underlying0,
  a0:=Tryz.isAgg0,z0:=Tryz.sizeOf0,v0:=Tryz.zeroValue0,t3:=Tryz.underlying3,a3:=Tryz.isAgg3,
  z3:=Tryz.sizeOf3,v3:=Tryz.zeroValue3,t4:=Tryz.underlying4,a4:=Tryz.isAgg4,z4:=Tryz.sizeOf4,
  v4:=Tryz.zeroValue4,t5:=Tryz.underlying5,a5:=Tryz.isAgg5,z5:=Tryz.sizeOf5,v5:=Tryz.zeroValue5,
  t9:=Tryz.underlying9,a9:=Tryz.isAgg9,z9:=Tryz.sizeOf9,v9:=Tryz.zeroValue9,t28:=Tryz.underlying104,
  a28:=Tryz.isAgg104,z28:=Tryz.sizeOf104,v28:=Tryz.zeroValue104,t46:=Tryz.underlying218,
  a46:=Tryz.isAgg218,z46:=Tryz.sizeOf218,v46:=Tryz.zeroValue218,t51:=Tryz.underlying257,
  a51:=Tryz.isAgg257,z51:=Tryz.sizeOf257,v51:=Tryz.zeroValue257,t53:=Tryz.underlying260,
  a53:=Tryz.isAgg260,z53:=Tryz.sizeOf260,v53:=Tryz.zeroValue260,t131:=Tryz.underlying117,
  a131:=Tryz.isAgg117,z131:=Tryz.sizeOf117,v131:=Tryz.zeroValue117,t182:=Tryz.underlying340,
  a182:=Tryz.isAgg340,z182:=Tryz.sizeOf340,v182:=Tryz.zeroValue340,t183:=Tryz.underlying341,
  a183:=Tryz.isAgg341,z183:=Tryz.sizeOf341,v183:=Tryz.zeroValue341,t218:=Tryz.underlying357,
  a218:=Tryz.isAgg357,z218:=Tryz.sizeOf357,v218:=Tryz.zeroValue357,t222:=Tryz.underlying361,
  a222:=Tryz.isAgg361,z222:=Tryz.sizeOf361,v222:=Tryz.zeroValue361,t228:=Tryz.underlying368,
  a228:=Tryz.isAgg368,z228:=Tryz.sizeOf368,v228:=Tryz.zeroValue368,t229:=Tryz.underlying175,
  a229:=Tryz.isAgg175,z229:=Tryz.sizeOf175,v229:=Tryz.zeroValue175}
def Tryz.laysNm220_ren:Ren:=
{
  f :=fun x=>
    match x with
    |20=>242
    |n=>n,
  t :=fun x=>
    match x with
    |22=>104
    |3=>3
    |4=>4
    |0=>0
    |n=>n,
  g :=fun x=>
    x}
def Tryz.laysNm220:Lays2.n20 Tryz.prog Tryz.laysNm220_ren:=
{ mixed :=(by kernel_rfl),f20:=Eq.trans Tryz.func242 (congrArg some (by kernel_rfl)),
  t0:=Tryz.underlying0,a0:=Tryz.isAgg0,z0:=Tryz.sizeOf0,v0:=Tryz.zeroValue0,t3:=Tryz.underlying3,
  a3:=Tryz.isAgg3,z3:=Tryz.sizeOf3,v3:=Tryz.zeroValue3,t4:=Tryz.underlying4,a4:=Tryz.isAgg4,
  z4:=Tryz.sizeOf4,v4:=Tryz.zeroValue4,t22:=Tryz.underlying104,a22:=Tryz.isAgg104,z22:=Tryz.sizeOf104,
  v22:=Tryz.zeroValue104,i3:=Eq.refl (some (some (Value.int IntKind.i64 0),1,8))}
end Go.Proofs
namespace Go.Ab
open Go.RowKit Go.Proofs Go.Proofs.Tryz K8
abbrev vi (n:Int):V:=.int .i64 n
abbrev sr [Ar]{α:Type}(f:α→V)(l:List α):V:=.sl (lst f l) .ro
abbrev cb (b:Nat)(l:List V):En:=.blk b (.cells l)
abbrev ob [Ar]{α:Type}(q:OG)(n:Nat)(f:α→V)(l:List α):En:=.blk q.id (.arr n (q.pre++lst f l++q.rest))
abbrev fi (k:Nat)(n:Int):Nat×Sl:=(k,.v (vi n))
instance globs :L6:=⟨fun n=>match n with
 |0=>.eref [vi 0,vi 0,.bool true,.bool true,.bool false,.bool false,vi 2,vi 64,.bool false,.bool false,.bool false,.bool false,vi 2,vi 64,.bool false,.bool false,.bool false,.bool false,vi 2,vi 64,.bool false,.bool false,.bool false,.bool false,vi 1,vi 1,.bool false,.bool false,.bool false,.bool false,vi 1,vi 1,.bool true,.bool true,.bool true,.bool false,vi 1,vi 1,.bool false,.bool false,.bool true,.bool true,vi 1,vi 1,.bool false,.bool true,.bool false,.bool false,vi 2,vi 2,.bool false,.bool false,.bool false,.bool false,vi 1,vi 1,.bool true,.bool true,.bool true,.bool false,vi 1,vi 1,.bool false,.bool false,.bool true,.bool true] 0
 |_=>.bad⟩
variable [Ar][K8]
set_option maxRecDepth 100000
def J9:OE prog TT:=⟨okT,by rfl⟩
def cf0:Cf:=⟨[],[],[],[],[],[]⟩
def Gp.e2 {l r:Fl}{k1 k2:Nat}{x1 x2:V}(hr:Gp l r)(h1:Cj l k1=x1:=by rfl)(h2:Cj l k2=x2:=by rfl):Gp l ((k1,.v x1)::(k2,.v x2)::r):=.e h1 (.e h2 hr)
def Gp.e4 {l r:Fl}{k1 k2 k3 k4:Nat}{x1 x2 x3 x4:V}(hr:Gp l r)(h1:Cj l k1=x1:=by rfl)(h2:Cj l k2=x2:=by rfl)(h3:Cj l k3=x3:=by rfl)(h4:Cj l k4=x4:=by rfl):Gp l ((k1,.v x1)::(k2,.v x2)::(k3,.v x3)::(k4,.v x4)::r):=.e2 (.e2 hr h3 h4) h1 h2
def P6 {f:FuncId}{fn:Func}{c:Code}{n:Nat}{rs:List ResultVar}{args:List V}{r:V}(cf:Cf)(hf:prog.funcs[f]? =some fn)(hcall:∀vals w,(callFunc f vals).run prog w= .ok (.enter f vals) w)(hnt:fn.ntmps=n)
 (h:∀(E:Eg) (H:A4) (K:V→A4→Prop),E=H5 prog n none→(∀{x L H'},B6 Eq H L H'→BV x r→K x H')→B6 Eq H [] H→run E TT n cf c ⟨BF args 0,[]⟩ H (LR E TT rs K))
 (hb:fn.body=some c:=by rfl) (hd:J5 cf c=true:=by kernel_rfl) (hrs:fn.results.toList=rs:=by rfl) (hn:Nat.ble args.length n=true:=by rfl):C7 prog f args r:=
 QX cf J9 hf hb hd hcall hnt hrs hn fun E H K hE hK=>h E H K hE (fun a b=>hK _ _ _ a b) (.start C5 rfl)
def EA:Go.TypeDesc:=.array 2 3
def Uz:Th prog EA eAE1:=Ae2 (g:=fun(x:D4)=>[x.E0,x.E1]) (fun x=>(eAF2 x).trans rfl) (fun _=>rfl) (fun x y h=>by cases x;cases y;cases h;rfl) (by kernel_rfl) (by kernel_rfl)
def c86 (N aE r)(h:KQ N aE=some r):C7 prog 86 [sr eAD7 aE] (.bool r):=by
 unfold KQ at h
 refine P6 cf0 func86 call86 ntmps86 ?_;intro E H0 K hE hK hO;cbv;refine E9 hE ?_;cbv;cases h;exact hK hO (.refl _)
def c34 (N aA r) (h:EZ N aA=some r):C7 prog 34 [(F3 aA)] (.bool r):=by
 unfold EZ at h
 refine P6 cf0 func34 call34 ntmps34 ?_;intro E H0 K hE hK hO;cbv;obtain⟨s2,hx,h⟩:=bind_some h;refine K1 cf0 hE J9 (fun s1=>[(1,.v (.eref (L3 aA) 0)),fi 3 s1]) (fun s1 H1=>B6 Eq H0 [] H1) (fun x e l H1=>match(generalizing:=false) x with| .inl y=>e= .exit 0∧l=[(1,.v (.eref (L3 aA) 0))]∧B6 Eq H0 [] H1| .inr y=>e= .ret∧l=[(2,.b false)]∧B6 Eq H0 [] H1) (by kernel_rfl) ?_ hx ?_ hO ?_
 ·intro s1 H o hO h;clear hx;cbv;refine E9 hE ?_;cbv;refine B0 hE h (fun _ h=>?_) fun _ h=>?_
  ·cbv;refine D0 hE eAE5 h fun x3 h=>?_;cbv;refine A9 hE h (c86 N x3) (.refl _) fun r4 h=>?_;cbv;refine B0 hE h (fun _ h=>?_) fun _ h=>?_
   ·cbv;cases h;exact⟨_,_,rfl,⟨rfl,rfl,hO⟩,.b rfl (.z),rfl⟩
   cbv;cases h;exact⟨_,rfl,.e2 .z,rfl,hO⟩
  cbv;cases h;exact⟨_,_,rfl,⟨rfl,rfl,hO⟩,.e rfl .z,rfl⟩
 ·exact .e2 .z
 clear hx
 rcases s2 with y5|y6
 ·rintro e l H ⟨rfl,rfl,hO⟩;cbv;refine E9 hE ?_;cbv;cases h;exact hK hO (.refl _)
 rintro e l H ⟨rfl,rfl,hO⟩;cbv;cases h;exact hK hO (.refl _)
def c9 (N aB r) (h:GE N aB=some r):C7 prog 9 [(F2 aB)] (.bool r):=by
 unfold GE at h
 refine P6 cf0 func9 call9 ntmps9 ?_;intro E H0 K hE hK hO;cbv;obtain⟨s2,hx,h⟩:=bind_some h;refine K1 cf0 hE J9 (fun s1=>[(1,.v (.eref (B8 aB) 0)),fi 3 s1]) (fun s1 H1=>B6 Eq H0 [] H1) (fun x e l H1=>match(generalizing:=false) x with| .inl y=>e= .exit 0∧l=[(1,.v (.eref (B8 aB) 0))]∧B6 Eq H0 [] H1| .inr y=>e= .ret∧l=[(2,.b false)]∧B6 Eq H0 [] H1) (by kernel_rfl) ?_ hx ?_ hO ?_
 ·intro s1 H o hO h;clear hx;cbv;refine E9 hE ?_;cbv;refine B0 hE h (fun _ h=>?_) fun _ h=>?_
  ·cbv;refine D0 hE eAD9 h fun x3 h=>?_;cbv;refine A9 hE h (c34 N x3.On) (.refl _) fun r4 h=>?_;cbv;refine B0 hE h (fun _ h=>?_) fun _ h=>?_
   ·cbv;cases h;exact⟨_,_,rfl,⟨rfl,rfl,hO⟩,.b rfl (.z),rfl⟩
   cbv;cases h;exact⟨_,rfl,.e2 .z,rfl,hO⟩
  cbv;cases h;exact⟨_,_,rfl,⟨rfl,rfl,hO⟩,.e rfl .z,rfl⟩
 ·exact .e2 .z
 clear hx
 rcases s2 with y5|y6
 ·rintro e l H ⟨rfl,rfl,hO⟩;cbv;refine E9 hE ?_;cbv;refine E9 hE ?_;cbv;cases h;exact hK hO (.refl _)
 rintro e l H ⟨rfl,rfl,hO⟩;cbv;cases h;exact hK hO (.refl _)
def c45 (N aL aG r)(h:Ba N aL aG=some r):C7 prog 45 [vi aL,.eref (B8 aG) 0] (.bool r):=by
 unfold Ba at h
 refine P6 cf0 func45 call45 ntmps45 ?_;intro E H0 K hE hK hO;cbv;refine E9 hE ?_;cbv;cases h;exact hK hO (.refl _)
def c126 (N aH r)(h:BP N aH=some r):C7 prog 126 [(V9 aH)] (vi r):=by
 unfold BP at h
 refine P6 cf0 func126 call126 ntmps126 ?_;intro E H0 K hE hK hO;cbv;refine B0 hE h (fun _ h=>?_) fun _ h=>?_
 ·cbv;cases h;exact hK hO (.refl _)
 cbv;refine B0 hE h (fun _ h=>?_) fun _ h=>?_
 ·cbv;cases h;exact hK hO (.refl _)
 cbv;cases h;exact hK hO (.refl _)
def cf94:Cf:=⟨[4],[(9,12)],[],[],[],[]⟩
def c94 (N aE r) (h:U0 N aE=some r):C7 prog 94 [sr eAD7 aE] (vi r):=by
 unfold U0 at h
 refine P6 cf94 func94 call94 ntmps94 ?_;intro E H0 K hE hK hO;cbv;refine E9 hE ?_;cbv;refine B0 hE h (fun _ h=>?_) fun _ h=>?_
 ·cbv;cases h;exact hK hO (.refl _)
 cbv;refine E9 hE ?_;cbv;obtain⟨s2,hx,h⟩:=bind_some h;refine K1 cf94 hE J9 (fun s1=>[(0,.v (sr eAD7 aE)),(9,.v (sr eAD7 aE)),fi 10 (Ar.len aE),fi 11 s1]) (fun s1 H1=>B6 Eq H0 [] H1) (fun x e l H1=>match(generalizing:=false) x with| .inl y=>e= .exit 0∧l=[]∧B6 Eq H0 [] H1| .inr y=>e= .ret∧l=[fi 2 y]∧B6 Eq H0 [] H1) (by kernel_rfl) ?_ hx ?_ hO ?_
 ·intro s1 H o hO h;clear hx;cbv;refine B0 hE h (fun _ h=>?_) fun _ h=>?_
  ·cbv;refine D0 hE eAE2 h fun x3 h=>?_;cbv;refine D8 hE hO fun b4 H hO=>?_;cbv;refine A7 hE hO 0 rfl rfl fun H hO=>?_;cbv;refine A8 hE hO 0 rfl ?_;cbv;refine A9 hE h (c126 N x3) (.refl _) fun r5 h=>?_;cbv;refine B0 hE h (fun _ h=>?_) fun _ h=>?_
   ·cbv;cases h;exact⟨_,_,rfl,⟨rfl,rfl,hO.tail⟩,.e rfl .z,rfl⟩
   cbv;refine A8 hE hO 0 rfl ?_;cbv;refine B0 hE h (fun _ h=>?_) fun _ h=>?_
   ·cbv;refine D0 hE eAE2 h fun x6 h=>?_;cbv;refine B0 hE h (fun _ h=>?_) fun _ h=>?_
    ·cbv;cases h;exact⟨_,_,rfl,⟨rfl,rfl,hO.tail⟩,.e rfl .z,rfl⟩
    cbv;cases h;exact⟨_,rfl,.e4 .z,rfl,hO.tail⟩
   cbv;cases h;exact⟨_,rfl,.e4 .z,rfl,hO.tail⟩
  cbv;cases h;exact⟨_,_,rfl,⟨rfl,rfl,hO⟩,.z,rfl⟩
 ·exact .e4 .z
 clear hx
 rcases s2 with y7|y8
 ·rintro e l H ⟨rfl,rfl,hO⟩;cbv;cases h;exact hK hO (.refl _)
 rintro e l H ⟨rfl,rfl,hO⟩;cbv;cases h;exact hK hO (.refl _)
def c46 (N aK aA r) (h:Az N aK aA=some r):C7 prog 46 [vi aK,(F3 aA)] (vi r):=by
 unfold Az at h
 refine P6 cf0 func46 call46 ntmps46 ?_;intro E H0 K hE hK hO;cbv;refine B0 hE h (fun _ h=>?_) fun _ h=>?_
 ·cbv;cases h;exact hK hO (.refl _)
 cbv;refine E9 hE ?_;cbv;refine B0 hE h (fun _ h=>?_) fun _ h=>?_
 ·cbv;cases h;exact hK hO (.refl _)
 cbv;refine E9 hE ?_;cbv;obtain⟨s2,hx,h⟩:=bind_some h;refine K1 cf0 hE J9 (fun s1=>[(22,.v (sr eAE3 aA.cX)),fi 23 (Ar.len aA.cX),fi 24 s1]) (fun s1 H1=>B6 Eq H0 [] H1) (fun x e l H1=>match(generalizing:=false) x with| .inl y=>e= .exit 1∧l=[]∧B6 Eq H0 [] H1| .inr y=>e= .ret∧l=[fi 4 y]∧B6 Eq H0 [] H1) (by kernel_rfl) ?_ hx ?_ hO ?_
 ·intro s1 H o hO h;clear hx;cbv;refine B0 hE h (fun _ h=>?_) fun _ h=>?_
  ·cbv;refine D0 hE eAE5 h fun x3 h=>?_;cbv;refine A9 hE h (c94 N x3) (.refl _) fun r4 h=>?_;cbv;refine B0 hE h (fun _ h=>?_) fun _ h=>?_
   ·cbv;cases h;exact⟨_,_,rfl,⟨rfl,rfl,hO⟩,.e rfl .z,rfl⟩
   cbv;cases h;exact⟨_,rfl,.e rfl (.e2 .z),rfl,hO⟩
  cbv;cases h;exact⟨_,_,rfl,⟨rfl,rfl,hO⟩,.z,rfl⟩
 ·exact .e rfl (.e2 .z)
 clear hx
 rcases s2 with y5|y6
 ·rintro e l H ⟨rfl,rfl,hO⟩;cbv;cases h;exact hK hO (.refl _)
 rintro e l H ⟨rfl,rfl,hO⟩;cbv;cases h;exact hK hO (.refl _)
def c13 (N aB r) (h:P3 N aB=some r):C7 prog 13 [(F2 aB)] (vi r):=by
 unfold P3 at h
 refine P6 cf0 func13 call13 ntmps13 ?_;intro E H0 K hE hK hO;cbv;refine B0 hE h (fun _ h=>?_) fun _ h=>?_
 ·cbv;cases h;exact hK hO (.refl _)
 cbv;refine E9 hE ?_;cbv;refine E9 hE ?_;cbv;refine E9 hE ?_;cbv;refine B0 hE h (fun _ h=>?_) fun _ h=>?_
 ·cbv;cases h;exact hK hO (.refl _)
 cbv;refine E9 hE ?_;cbv;obtain⟨s2,hx,h⟩:=bind_some h;refine K1 cf0 hE J9 (fun s1=>[(1,.v (.eref (B8 aB) 0)),(3,.v (.func (.func 45) [] [.eref (B8 aB) 0])),(33,.v (sr eAD6 aB.cU)),fi 34 (Ar.len aB.cU),fi 35 s1]) (fun s1 H1=>B6 Eq H0 [] H1) (fun x e l H1=>match(generalizing:=false) x with| .inl y=>e= .exit 0∧l=[]∧B6 Eq H0 [] H1| .inr y=>e= .ret∧l=[fi 2 y]∧B6 Eq H0 [] H1) (by kernel_rfl) ?_ hx ?_ hO ?_
 ·intro s1 H o hO h;clear hx;cbv;refine B0 hE h (fun _ h=>?_) fun _ h=>?_
  ·cbv;refine D0 hE eAD9 h fun x3 h=>?_;cbv;refine Du hE (g:=fun r4=>.bool r4) h (fun r4 hx=>C7.value (F:=[]) (C:=[.eref (B8 aB) 0]) (c45 N x3.cW aB r4 hx)) (.refl _) fun r4 h=>?_;cbv;refine B0 hE h (fun _ h=>?_) fun _ h=>?_
   ·cbv;cases h;exact⟨_,_,rfl,⟨rfl,rfl,hO⟩,.e rfl .z,rfl⟩
   cbv;refine Du hE (g:=fun r5=>.bool r5) h (fun r5 hx=>C7.value (F:=[]) (C:=[.eref (B8 aB) 0]) (c45 N x3.To aB r5 hx)) (.refl _) fun r5 h=>?_;cbv;refine B0 hE h (fun _ h=>?_) fun _ h=>?_
   ·cbv;cases h;exact⟨_,_,rfl,⟨rfl,rfl,hO⟩,.e rfl .z,rfl⟩
   cbv;refine A9 hE h (c46 N aB.cV x3.On) (.refl _) fun r6 h=>?_;cbv;refine B0 hE h (fun _ h=>?_) fun _ h=>?_
   ·cbv;cases h;exact⟨_,_,rfl,⟨rfl,rfl,hO⟩,.e rfl .z,rfl⟩
   cbv;cases h;exact⟨_,rfl,.e rfl (.e4 .z),rfl,hO⟩
  cbv;cases h;exact⟨_,_,rfl,⟨rfl,rfl,hO⟩,.z,rfl⟩
 ·exact .e rfl (.e4 .z)
 clear hx
 rcases s2 with y7|y8
 ·rintro e l H ⟨rfl,rfl,hO⟩;cbv;cases h;exact hK hO (.refl _)
 rintro e l H ⟨rfl,rfl,hO⟩;cbv;cases h;exact hK hO (.refl _)
def cf87:Cf:=⟨[4,6],[],[],[],[],[]⟩
def c87 (N:Nat) (aK:Int) (cK:V) (cD:Int→Option ((List A2)×Int)) (cP:∀y1 q,cD y1=some q→X9 prog cK [vi y1] (.tup [sr eAD7 q.1,vi q.2])) (r:(B3×Int)) (h:Bd N aK cD=some r):C7 prog 87 [vi aK,cK] (.tup [(F3 r.1),vi r.2]):=by
 unfold Bd at h
 refine P6 cf87 func87 call87 ntmps87 ?_;intro E H0 K hE hK hO;cbv;refine D8 hE hO fun b1 H hO=>?_;cbv;refine D8 hE hO fun b2 H hO=>?_;cbv;replace hO:=hO.cast (L':=[cb b2 [.sl (lst eAE3 ([])) .nil],cb b1 [.sl [] .nil]]) (by simp only[ob,cb,sr,←B4]<;>rfl);replace hO:=hO.tl0 (t:=.nil) rfl;obtain⟨s5,hx,h⟩:=bind_some h;refine H8 cf87 hE J9 (γ:=D2) (fun s3 g=>[(1,.v (cK)),(4,.v (.ref b1 0)),(6,.v (.ref b2 0)),fi 10 aK,fi 11 s3.1]) (fun s3 g H1=>G3 g∧B6 Eq H0 [.tl g,cb b2 [.sl (lst eAE3 s3.2.cX) g],cb b1 [.sl [] .nil]] H1) (fun x e l H1=>match(generalizing:=false) x with| .inl y=>∃u1:D2,G3 u1∧e= .exit 0∧l=[(4,.v (.ref b1 0)),(6,.v (.ref b2 0))]∧B6 Eq H0 [.tl u1,cb b2 [.sl (lst eAE3 y.cX) u1],cb b1 [.sl [] .nil]] H1| .inr y=>∃u1:D2,G3 u1∧e= .ret∧l=[(4,.v (.ref b1 0)),fi 5 y.1]∧B6 Eq H0 [.tl u1,cb b2 [.sl (lst eAE3 y.2.cX) u1],cb b1 [.sl [] .nil]] H1) (by kernel_rfl) ?_ .nil hx ?_ ?_ ?_
 ·rintro s3 t4 H o ⟨ht4,hO⟩ h;clear hx;cbv;refine B0 hE h (fun _ h=>?_) fun _ h=>?_
  ·cbv;refine Du hE (g:=fun r6=>.tup [sr eAD7 r6.1,vi r6.2]) h (fun r6 hx=>cP s3.1 r6 hx) (.refl _) fun r6 h=>?_;cbv;refine B0 hE h (fun _ h=>?_) fun _ h=>?_
   ·cbv;refine A7 hE hO 2 rfl rfl fun H hO=>?_;cbv;cases h;exact⟨_,_,rfl,⟨t4,ht4,rfl,rfl,hO⟩,.e2 .z,rfl⟩
   cbv;refine A8 hE hO 1 rfl ?_;cbv;refine K7 (f:=eAE3) hE Fo (by decide) hO 0 rfl ht4 (l:=s3.2.cX) (m:=[r6.1]) (.refl _) (.lstc (.eq (eAE5 r6.1) (.refl _)) (.lst0)) h fun l8 t7 H hO ht7 h=>?_;cbv;refine A7 hE hO 1 rfl rfl fun H hO=>?_;cbv;cases h;exact⟨_,t7,rfl,.e rfl (.e4 .z),rfl,ht7,hO⟩
  cbv;cases h;exact⟨_,_,rfl,⟨t4,ht4,rfl,rfl,hO⟩,.e2 .z,rfl⟩
 ·exact .e rfl (.e4 .z)
 ·exact⟨trivial,hO⟩
 clear hx
 rcases s5 with y9|y11
 ·rintro e l H ⟨t10,ht10,rfl,rfl,hO⟩;cbv;refine A8 hE hO 1 rfl ?_;cbv;refine A7 hE hO 2 rfl rfl fun H hO=>?_;cbv;refine A8 hE hO 2 rfl ?_;cbv;cases h;exact hK hO (.tup (.cons (.agg (.cons (.ro _ _) (.refl _))) (.refl _)))
 rintro e l H ⟨t12,ht12,rfl,rfl,hO⟩;cbv;refine A8 hE hO 2 rfl ?_;cbv;cases h;exact hK hO (.tup (.cons (.agg (.cons (.lit _ (B4)) (.refl _))) (.refl _)))
def c89 (N r)(h:BN N=some r):C7 prog 89 [] (sr eAD7 r):=by
 unfold BN at h
 refine P6 cf0 func89 call89 ntmps89 ?_;intro E H0 K hE hK hO;cbv;cases h;exact hK hO (.lit _ (E3 ((eAE2 (⟨(-1099511627776),1099511627776⟩:A2)).symm) (B4)))
def c88 (N cJ r)(h:Ds N cJ=some r):C7 prog 88 [vi cJ] (.tup [sr eAD7 r.1,vi r.2]):=by
 unfold Ds at h
 refine P6 cf0 func88 call88 ntmps88 ?_;intro E H0 K hE hK hO;cbv;refine A9 hE h (c89 N) (.refl _) fun r1 h=>?_;cbv;cases h;exact hK hO (.refl _)
def cf39:Cf:=⟨[2],[],[],[],[],[]⟩
def c39 (N aK r)(h:HQ N aK=some r):C7 prog 39 [vi aK] (.tup [(F3 r.1),vi r.2]):=by
 unfold HQ at h
 refine P6 cf39 func39 call39 ntmps39 ?_;intro E H0 K hE hK hO;cbv;refine D8 hE hO fun b1 H hO=>?_;cbv;refine B0 hE h (fun _ h=>?_) fun _ h=>?_
 ·cbv;refine A7 hE hO 0 rfl rfl fun H hO=>?_;cbv;refine A8 hE hO 0 rfl ?_;cbv;cases h;exact hK hO (.tup (.cons (.agg (.cons (.lit _ (B4)) (.refl _))) (.refl _)))
 cbv;refine A9 hE (g:=fun r2=>.tup [(F3 r2.1),vi r2.2]) h (fun r2 hx=>c87 N aK (.func (.func 88) [] []) (fun y1=>Ds N y1) (fun y1 r hx=>C7.value (F:=[]) (C:=[]) (c88 N y1 r hx)) r2 hx) (.refl _) fun r2 h=>?_;cbv;refine A7 hE hO 0 rfl rfl fun H hO=>?_;cbv;refine A8 hE hO 0 rfl ?_;cbv;cases h;exact hK hO (.refl _)
def c90 (N aE r) (h:N7 N aE=some r):C7 prog 90 [sr eAH1 aE] (vi r):=by
 unfold N7 at h
 refine P6 cf0 func90 call90 ntmps90 ?_;intro E H0 K hE hK hO;cbv;refine E9 hE ?_;cbv;obtain⟨s2,hx,h⟩:=bind_some h;refine K1 cf0 hE J9 (fun s1=>[(6,.v (sr eAH1 aE)),fi 7 (Ar.len aE),fi 8 s1]) (fun s1 H1=>B6 Eq H0 [] H1) (fun x e l H1=>match(generalizing:=false) x with| .inl y=>e= .exit 0∧l=[]∧B6 Eq H0 [] H1| .inr y=>e= .ret∧l=[fi 2 y]∧B6 Eq H0 [] H1) (by kernel_rfl) ?_ hx ?_ hO ?_
 ·intro s1 H o hO h;clear hx;cbv;refine B0 hE h (fun _ h=>?_) fun _ h=>?_
  ·cbv;refine D0 hE eAG0 h fun x3 h=>?_;cbv;refine E9 hE ?_;cbv;refine A9 hE h (c46 N (Ar.len x3.cX) x3) (.refl _) fun r4 h=>?_;cbv;refine B0 hE h (fun _ h=>?_) fun _ h=>?_
   ·cbv;cases h;exact⟨_,_,rfl,⟨rfl,rfl,hO⟩,.e rfl .z,rfl⟩
   cbv;cases h;exact⟨_,rfl,.e rfl (.e2 .z),rfl,hO⟩
  cbv;cases h;exact⟨_,_,rfl,⟨rfl,rfl,hO⟩,.z,rfl⟩
 ·exact .e rfl (.e2 .z)
 clear hx
 rcases s2 with y5|y6
 ·rintro e l H ⟨rfl,rfl,hO⟩;cbv;cases h;exact hK hO (.refl _)
 rintro e l H ⟨rfl,rfl,hO⟩;cbv;cases h;exact hK hO (.refl _)
def c163 (N:Nat) (aH:List A2) (bK:Int) (cI:V) (bY:A2→Int→Option Int) (cN:∀y1 y2 q,bY y1 y2=some q→X9 prog cI [(V9 y1),vi y2] (vi q)) (r:(Int×Bool)) (h:J8 N aH bK bY=some r):C7 prog 163 [sr eAD7 aH,vi bK,cI] (.tup [vi r.1,.bool r.2]):=by
 unfold J8 at h
 refine P6 cf0 func163 call163 ntmps163 ?_;intro E H0 K hE hK hO;cbv;refine E9 hE ?_;cbv;obtain⟨s2,hx,h⟩:=bind_some h;refine K1 cf0 hE J9 (fun s1=>[(0,.v (sr eAD7 aH)),fi 1 bK,(2,.v (cI)),fi 8 (Ar.len aH),fi 9 s1.1,fi 10 s1.2]) (fun s1 H1=>B6 Eq H0 [] H1) (fun x e l H1=>e= .exit 0∧l=[(0,.v (sr eAD7 aH)),fi 1 bK,(2,.v (cI)),fi 8 (Ar.len aH),fi 9 x]∧B6 Eq H0 [] H1) (by kernel_rfl) ?_ hx ?_ hO ?_
 ·intro s1 H o hO h;clear hx;cbv;refine B0 hE h (fun _ h=>?_) fun _ h=>?_
  ·cbv;refine KV hE (Ir hE rfl) ?_;cbv;refine D0 hE eAE2 h fun x3 h=>?_;cbv;refine Du hE (g:=fun r4=>vi r4) h (fun r4 hx=>cN x3 bK r4 hx) (.refl _) fun r4 h=>?_;cbv;refine B0 hE h (fun _ h=>?_) fun _ h=>?_
   ·cbv;cases h;exact⟨_,rfl,.e2 (.e4 .z),rfl,hO⟩
   cbv;cases h;exact⟨_,rfl,.e2 (.e4 .z),rfl,hO⟩
  cbv;cases h;exact⟨_,_,rfl,⟨rfl,rfl,hO⟩,.e rfl (.e4 .z),rfl⟩
 ·exact .e2 (.e4 .z)
 clear hx;rintro e l H ⟨rfl,rfl,hO⟩;cbv;refine B0 hE h (fun _ h=>?_) fun _ h=>?_
 ·cbv;refine D0 hE eAE2 h fun x5 h=>?_;cbv;refine Du hE (g:=fun r6=>vi r6) h (fun r6 hx=>cN x5 bK r6 hx) (.refl _) fun r6 h=>?_;cbv;cases h;exact hK hO (.refl _)
 cbv;cases h;exact hK hO (.refl _)
def c164 (N aH aI r)(h:Aq N aH aI=some r):C7 prog 164 [(V9 aH),vi aI] (vi r):=by
 unfold Aq at h
 refine P6 cf0 func164 call164 ntmps164 ?_;intro E H0 K hE hK hO;cbv;refine B0 hE h (fun _ h=>?_) fun _ h=>?_
 ·cbv;cases h;exact hK hO (.refl _)
 cbv;refine B0 hE h (fun _ h=>?_) fun _ h=>?_
 ·cbv;cases h;exact hK hO (.refl _)
 cbv;cases h;exact hK hO (.refl _)
def c124 (N aE aI r)(h:Z7 N aE aI=some r):C7 prog 124 [sr eAD7 aE,vi aI] (.bool r):=by
 unfold Z7 at h
 refine P6 cf0 func124 call124 ntmps124 ?_;intro E H0 K hE hK hO;cbv;refine A9 hE (g:=fun r1=>.tup [vi r1.1,.bool r1.2]) h (fun r1 hx=>c163 N aE aI (.func (.func 164) [] []) (fun y1 y2=>Aq N y1 y2) (fun y1 y2 r hx=>C7.value (F:=[]) (C:=[]) (c164 N y1 y2 r hx)) r1 hx) (.refl _) fun r1 h=>?_;cbv;cases h;exact hK hO (.refl _)
def c91 (N aE aI r)(h:ED N aE aI=some r):C7 prog 91 [sr eAD7 aE,vi aI] (.tup [.bool r.1,vi r.2]):=by
 unfold ED at h
 refine P6 cf0 func91 call91 ntmps91 ?_;intro E H0 K hE hK hO;cbv;refine A9 hE h (c94 N aE) (.refl _) fun r1 h=>?_;cbv;refine B0 hE h (fun _ h=>?_) fun _ h=>?_
 ·cbv;cases h;exact hK hO (.refl _)
 cbv;refine A9 hE h (c124 N aE aI) (.refl _) fun r2 h=>?_;cbv;cases h;exact hK hO (.refl _)
def cf40:Cf:=⟨[],[(8,11)],[],[],[],[]⟩
def c40 (N aA aB r)(h:BE N aA aB=some r):C7 prog 40 [(F3 aA),(JT aB)] (.tup [.bool r.1,vi r.2]):=by
 unfold BE at h
 refine P6 cf40 func40 call40 ntmps40 ?_;intro E H0 K hE hK hO;cbv;refine A9 hE h (c90 N ([aA])) (.cons (.lit _ (E3 ((eAG0 aA).symm) (B4))) (.refl _)) fun r1 h=>?_;cbv;refine B0 hE h (fun _ h=>?_) fun _ h=>?_
 ·cbv;cases h;exact hK hO (.refl _)
 cbv;refine E9 hE ?_;cbv;refine B0 hE h (fun _ h=>?_) fun _ h=>?_
 ·cbv;cases h;exact hK hO (.refl _)
 cbv;refine B0 hE h (fun _ h=>?_) fun _ h=>?_
 ·cbv;cases h;exact hK hO (.refl _)
 cbv;refine D0 hE eAE5 h fun x2 h=>?_;cbv;refine M9 hE (g:=fun r3=>.tup [.bool r3.1,vi r3.2]) h (c91 N x2 aB.Num) (.refl _) fun r3 h=>?_;cbv;cases h;exact hK hO (.refl _)
def c92 (N aG aN r) (h:Dp N aG aN=some r):It prog 92 (fun yv=>[yv,.eref (B8 aG) 0,.eref [vi aN] 0]) (List.map (fun(x:B5)=>[(BW x)]) r) rbN:=by
 unfold Dp at h
 obtain⟨⟨w0,u0⟩,h1,hr⟩:=bind_some h;clear h;have hr:=I9 hr;subst hr;have h:=h1;clear h1;refine T3 cf0 J9 func92 (by rfl) (by kernel_rfl) call92 ntmps92 (by rfl) (fun _=>rfl) ?_;intro yv I D hI hD hy tl F E H K hE hO hK hKD
 have hO:B6 (I (List.map (fun(x:B5)=>[(BW x)]) (w0++[])++tl)) F [] H:=by rw[append_nil];exact hO
 cbv;refine E9 hE ?_;cbv;obtain⟨w2,w3,s6,hx,h1,he⟩:=R7 h;clear h;have h:=h1;clear h1
 rw[he,append_assoc]at hO
 clear he;refine KX cf0 hE J9 (γ:=Unit) (fun s1 g=>[(0,.v (yv)),(2,.v (.eref [vi aN] 0)),(7,.v (sr eAD6 aG.cU)),fi 8 (Ar.len aG.cU),fi 9 s1]) (fun s1 g w H1=>B6 (I (List.map (fun(x:B5)=>[(BW x)]) w++tl)) F [] H1) (fun x e l w H1=>e= .exit 0∧l=[]∧B6 (I (List.map (fun(x:B5)=>[(BW x)]) w++tl)) F [] H1) (fun e l H1=>(e= .ret∧l=[]∧B6 D F [] H1)) (by kernel_rfl) ?_ (w':=w3++[]) () hx ?_ ?_ ?_ ?_
 ·rintro s1 _ w4 w5 H o hO h;clear hx
  skip
  cbv;refine B0 hE h (fun _ h=>?_) fun _ h=>?_
  ·cbv;refine D0 hE eAD9 h fun x7 h=>?_;cbv;refine B0 hE h (fun _ h=>?_) fun _ h=>?_
   ·cbv;obtain⟨w8,h1,he⟩:=Y0 h;clear h;have h:=h1;clear h1
    rw[he,append_assoc]at hO
    clear he;have hO:B6 (I ([(BW x7)]::(List.map (fun(x:B5)=>[(BW x)]) (w8++w5)++tl))) F [] _:=hO;refine Dt hE hI hD hy hO (.refl _) (fun H hO=>?_) (fun H hO=>?_)
    ·cbv;refine Ko hE (nt_eq _) ?_;cbv;obtain⟨hw,rfl⟩:=F9 h
     rw[←hw]at hO
     exact⟨_,(),rfl,.e rfl (.e4 .z),rfl,hO⟩
    clear h;cbv;refine Kn hE (nt_eq _) ?_;cbv;exact .inr ⟨_,⟨rfl,rfl,hO⟩,.z,rfl⟩
   cbv;obtain⟨hw,rfl⟩:=F9 h
   rw[←hw]at hO
   exact⟨_,(),rfl,.e rfl (.e4 .z),rfl,hO⟩
  cbv;obtain⟨hw,rfl⟩:=F9 h
  rw[←hw]at hO
  exact .inl ⟨_,_,rfl,⟨rfl,rfl,hO⟩,.z,rfl⟩
 ·exact .e rfl (.e4 .z)
 ·exact hO
 ·rintro e l H ⟨rfl,rfl,hO⟩;clear hx;cbv;obtain⟨hw,_⟩:=F9 h
  rw[←hw]at hO
  exact hK _ _ _ hO trivial
 rintro e l H hX;obtain⟨rfl,rfl,hO⟩:=hX;clear h;cbv;exact hKD _ _ _ hO trivial
def c41 (N aB bZ r)(h:K2 N aB bZ=some r):EP prog 41 [(F2 aB),vi bZ] (fun v=>Gu prog v (r.map fun(x:B5)=>[(BW x)])):=by
 unfold K2 at h
 refine X0 cf0 J9 func41 (by rfl) (by kernel_rfl) call41 ntmps41 (by rfl) (by rfl) ?_;intro E H0 K hE hK;have hO:B6 Eq H0 [] H0:=.start C5 rfl;cbv;exact hK _ _ _ hO (W8 call92 (c92 N aB bZ r h))
def c42 (N aA aH r)(h:BZ N aA aH=some r):C7 prog 42 [(F3 aA),(JT aH)] (.bool r):=by
 unfold BZ at h
 refine P6 cf0 func42 call42 ntmps42 ?_;intro E H0 K hE hK hO;cbv;refine A9 hE h (c40 N aA aH) (.refl _) fun r1 h=>?_;cbv;cases h;exact hK hO (.refl _)
def c11 (N aB aY r) (h:EW N aB aY=some r):C7 prog 11 [(F2 aB),sr eAE7 aY] (.tup [.bool r.1,vi r.2]):=by
 unfold EW at h
 refine P6 cf0 func11 call11 ntmps11 ?_;intro E H0 K hE hK hO;cbv;refine A9 hE h (c13 N aB) (.refl _) fun r1 h=>?_;cbv;refine B0 hE h (fun hc h=>?_) (fun hc h=>?_)
 ·cbv;cases h;exact hK hO (.refl _)
 cbv;refine E9 hE ?_;cbv;refine B0 hE h (fun hc h=>?_) (fun hc h=>?_)
 ·cbv;cases h;exact hK hO (.refl _)
 cbv;refine A9 hE h (c39 N aB.cV) (.refl _) fun r2 h=>?_;cbv;refine E9 hE ?_;cbv;obtain⟨s4,hx,h⟩:=bind_some h;refine K1 cf0 hE J9 (fun s3=>[(1,.v (sr eAE7 aY)),(2,.v (.eref (B8 aB) 0)),(4,.b false),fi 5 0,(7,.v (.eref (L3 r2.1) 0)),(34,.v (sr eAE7 aY)),fi 35 (Ar.len aY),fi 36 s3]) (fun s3 H1=>B6 Eq H0 [] H1) (fun x e l H1=>match(generalizing:=false) x with| .inl y=>e= .exit 0∧l=[(1,.v (sr eAE7 aY)),(2,.v (.eref (B8 aB) 0)),(4,.b false),fi 5 0]∧B6 Eq H0 [] H1| .inr y=>e= .ret∧l=[(4,.b false),fi 5 y]∧B6 Eq H0 [] H1) (by kernel_rfl) ?_ hx ?_ hO ?_
 ·intro s3 H o hO h;clear hx;cbv;refine B0 hE h (fun hc h=>?_) (fun hc h=>?_)
  ·cbv;refine D0 hE eAG3 h fun x5 h=>?_;cbv;refine A9 hE h (c40 N r2.1 x5) (.refl _) fun r6 h=>?_;cbv;refine B0 hE h (fun hc h=>?_) (fun hc h=>?_)
   ·cbv;cases h;exact⟨_,_,rfl,⟨rfl,rfl,hO⟩,.b rfl (.e rfl .z),rfl⟩
   cbv;cases h;exact⟨_,rfl,.e2 (.b rfl (.e rfl (.e rfl (.e rfl (.e rfl (.e rfl (.z))))))),rfl,hO⟩
  cbv;cases h;exact⟨_,_,rfl,⟨rfl,rfl,hO⟩,.e2 (.b rfl (.e rfl (.z))),rfl⟩
 ·exact .e2 (.b rfl (.e rfl (.e rfl (.e rfl (.e rfl (.e rfl (.z)))))))
 clear hx
 rcases s4 with y7|y65
 ·rintro e l H ⟨rfl,rfl,hO⟩;cbv;refine Lo hE (.int .i64) (V.int .i64) V.bool hO fun m8 o9 H ho9 hO=>?_;cbv;refine DF hE (kt:=3) (et:=4) (by kernel_rfl) (by kernel_rfl) (S4 .i64) Eb hO ho9 0 rfl h fun l11 o10 H ho10 h hO=>?_;cbv;refine E9 hE ?_;cbv;obtain⟨s17,hx,h⟩:=bind_some h;refine Mv cf0 hE J9 (γ:=Obj×Nat) (fun s13 g=>[(2,.v (.eref (B8 aB) 0)),(4,.b false),fi 5 0,(13,.v (.map g.2)),(52,.v (sr eAE7 aY)),fi 53 (Ar.len aY),fi 54 s13.1]) (fun s13 g ds16 H1=>Da (.int .i64) (V.int .i64) V.bool g.1 s13.2∧True∧B6 Eq H0 (.blk g.2 (.obj g.1)::Bo ds16) H1) (fun x e l ds16 H1=>∃u1:Obj,Da (.int .i64) (V.int .i64) V.bool u1 x∧∃u2:Nat,True∧e= .exit 2∧l=[(2,.v (.eref (B8 aB) 0)),(13,.v (.map u2))]∧B6 Eq H0 (.blk u2 (.obj u1)::Bo ds16) H1) (by kernel_rfl) ?_ (⟨o10,m8⟩) hx ?_ ?_ ?_
  ·rintro s13 ⟨q14,m15⟩ ds16 H o ⟨hq14,hm15,hO⟩ h;clear hx;cbv;refine B0 hE h (fun hc h=>?_) (fun hc h=>?_)
   ·cbv;refine D0 hE eAG3 h fun x18 h=>?_;cbv;refine Lo hE (.int .i64) (V.int .i64) V.bool hO fun m19 o20 H ho20 hO=>?_;cbv;refine Xl hE (kt:=3) (et:=4) (by kernel_rfl) hO (hO.get 1 rfl) hq14 fun m21 b22 H hb22 hO=>?_;cbv;obtain⟨s29,hx,h⟩:=bind_some h;refine OO cf0 hE J9 (γ:=Obj) (fun s24 g=>[(2,.v (.eref (B8 aB) 0)),(4,.b false),fi 5 0,(13,.v (.map m15)),(15,.v (.eref (X6 x18) 0)),(16,.v (.eref [.map m19] 0)),(52,.v (sr eAE7 aY)),fi 53 (Ar.len aY),fi 54 s13.1,(60,.v (.ref m21 0))]) (fun s24 g ds28 b26 H1=>Da (.int .i64) (V.int .i64) V.bool g s24∧B6 Eq H0 (.blk m21 b26:: .blk m19 (.obj g):: .blk m15 (.obj q14)::Bo ds28) H1) (fun x e l ds28 H1=>∃u1:Obj,Da (.int .i64) (V.int .i64) V.bool u1 x∧e= .exit 4∧l=[(2,.v (.eref (B8 aB) 0)),(4,.b false),fi 5 0,(16,.v (.eref [.map m19] 0)),(52,.v (sr eAE7 aY)),fi 53 (Ar.len aY),fi 54 s13.1]∧B6 Eq H0 (.blk m19 (.obj u1):: .blk m15 (.obj q14)::Bo ds28) H1) (by kernel_rfl) ?_ o20 hx ?_ hb22 ?_ ?_
    ·rintro s24 q27 ds28 lf24 b26 H hb26 ⟨hq27,hO⟩ hs24;clear hx;cbv;refine Xm hE hO hb26 0 rfl (hO.get 2 rfl) (fun hl=>?_) fun p25 l30 b31 H hpp25 hb31 hO=>?_
     ·cbv;refine Og hE (fun hc=>by cases hc) (fun hc=>?_);cbv;exact⟨_,_,_,.inl ⟨hl,rfl⟩,⟨q27,hq27.srt,rfl,rfl,hO.tail⟩,.e rfl (.b rfl (.e rfl (.e rfl (.e rfl (.e rfl (.e rfl (.z))))))),rfl⟩
     obtain⟨o,h⟩:=hs24 p25 l30 hpp25;have h0p25:=h;cbv;refine Og hE (fun hc=>?_) (fun hc=>by cases hc);cbv;refine Xn hE hO hb31 0 rfl (hO.get 2 rfl) ?_;cbv;refine T9 hE h (c41 N aB p25.1) (.refl _) fun r32 v33 hv33 h=>?_;cbv;obtain⟨o39,hx,h⟩:=bind_some h;refine Cc cf0 hE J9 (ι:=Unit) (enc:=fun(x:B5)=>[(BW x)]) (fun(s35:(List (Int×Bool))) F H=>∃g:Obj,(Da (.int .i64) (V.int .i64) V.bool g s35)∧B6 Eq F (.blk m21 b31:: .blk m19 (.obj g):: .blk m15 (.obj q14)::Bo ds28) H) (fun(r:Unit) e F H=>False) (fun i s35 y34=>[(15,.v (.eref (X6 x18) 0)),(16,.v (.eref [.map m19] 0)),(18,.v (.eref (Hg y34) 0))]) (fun i s35 y34 F H=>∃g:Obj,(Da (.int .i64) (V.int .i64) V.bool g s35)∧B6 Eq F (.blk m21 b31:: .blk m19 (.obj g):: .blk m15 (.obj q14)::Bo ds28) H) (fun _=>D9.ex fun _=>B6.stable C5 _) (fun _ _=>⟨fun h=>h.elim,fun _ _ h=>h.elim⟩) (fun _ _ _=>D9.ex fun _=>B6.stable C5 _) hv33 hx (⟨q27,hq27,hO⟩) (by decide) (fun _=>rfl) (by kernel_rfl) (by kernel_rfl) ?_ ?_ ?_ ?_
     ·rintro E i37 y34 s35 F36 H hE ⟨q38,hq38,hO⟩;clear hx h;cbv;exact⟨(),⟨q38,hq38,hO⟩,.e rfl (.e2 .z),rfl⟩
     ·rintro E i37 _ y34 s35 F36 H o hE hF h ⟨q38,hq38,hO⟩;clear hx;cbv;refine Kl hE (kt:=3) (et:=4) (by kernel_rfl) (by kernel_rfl) (S4 .i64) (false:Bool) (by kernel_rfl) rfl hO hq38 1 rfl h fun r40 h=>?_;cbv;refine B0 hE h (fun hc h=>?_) (fun hc h=>?_)
      ·cbv;refine A9 hE h (c42 N y34.On x18) (.refl _) fun r41 h=>?_;cbv;refine B0 hE h (fun hc h=>?_) (fun hc h=>?_)
       ·cbv;refine DF hE (kt:=3) (et:=4) (by kernel_rfl) (by kernel_rfl) (S4 .i64) Eb hO hq38 1 rfl h fun l43 o42 H ho42 h hO=>?_;cbv;cases h;exact⟨_,rfl,⟨o42,ho42,hO⟩⟩
       cbv;cases h;exact⟨_,rfl,⟨q38,hq38,hO⟩⟩
      cbv;cases h;exact⟨_,rfl,⟨q38,hq38,hO⟩⟩
     ·rintro d44 s47 H rfl hd ⟨q48,hq48,hO⟩;have hO:B6 Eq H0 (.blk m21 b31:: .blk m19 (.obj q48):: .blk m15 (.obj q14)::Bo (d44::ds28)) H:=B6.dbs1 (A:=[_,_,_]) (ds:=ds28) (B6.dblk hd hO);clear hd;clear hx;cbv;cases h;exact⟨p25,l30,_,q48,b31,_,hpp25,h0p25,.e rfl (.b rfl (.e rfl (.e rfl (.e rfl (.e rfl (.e rfl (.e rfl (.e rfl (.e rfl (.z)))))))))),rfl,hb31.1,hq48,hO⟩
     rintro d r e H rfl hd hO;exact hO.elim
    ·exact .e rfl (.b rfl (.e rfl (.e rfl (.e rfl (.e rfl (.e rfl (.e rfl (.e rfl (.e rfl (.z))))))))))
    ·exact⟨ho20,hO⟩
    clear hx;rintro e l ds28 H ⟨q49,hq49,rfl,rfl,hO⟩;cbv;have hO:B6 Eq H0 (.blk m15 (.obj q14):: .blk m19 (.obj q49)::Bo ds28) H:=hO.swp 0 1 rfl rfl;cases h;exact⟨_,⟨q49,m19⟩,_,rfl,.e rfl (.b rfl (.e rfl (.e rfl (.e rfl (.e rfl (.e rfl (.z))))))),rfl,hq49,trivial,hO.tail⟩
   cbv;cases h;exact⟨_,_,_,rfl,⟨q14,hq14,m15,trivial,rfl,rfl,hO⟩,.e2 .z,rfl⟩
  ·exact .e rfl (.b rfl (.e rfl (.e rfl (.e rfl (.e rfl (.e rfl (.z)))))))
  ·exact⟨ho10,trivial,hO⟩
  clear hx;rintro e l ds16 H ⟨q50,hq50,m51,hm51,rfl,rfl,hO⟩;cbv;refine Xl hE (kt:=3) (et:=4) (by kernel_rfl) hO (hO.get 0 rfl) hq50 fun m52 b53 H hb53 hO=>?_;cbv;obtain⟨s59,hx,h⟩:=bind_some h;refine OO cf0 hE J9 (γ:=Unit) (fun s55 _=>[(2,.v (.eref (B8 aB) 0)),(86,.v (.ref m52 0))]) (fun s55 _ ds58 b57 H1=>B6 Eq H0 (.blk m52 b57:: .blk m51 (.obj q50)::Bo ds58) H1) (fun x e l ds58 H1=>match(generalizing:=false) x with| .inl y=>e= .exit 8∧l=[]∧B6 Eq H0 (.blk m51 (.obj q50)::Bo ds58) H1| .inr y=>e= .ret∧l=[(4,.b true),fi 5 0]∧B6 Eq H0 (.blk m51 (.obj q50)::Bo ds58) H1) (by kernel_rfl) ?_ () hx ?_ hb53 ?_ ?_
  ·rintro s55 _ ds58 lf55 b57 H hb57 hO hs55;clear hx;cbv;refine Xm hE hO hb57 0 rfl (hO.get 1 rfl) (fun hl=>?_) fun p56 l60 b61 H hpp56 hb61 hO=>?_
   ·cbv;refine Og hE (fun hc=>by cases hc) (fun hc=>?_);cbv;exact⟨_,_,_,.inl ⟨hl,rfl⟩,⟨rfl,rfl,hO.tail⟩,.z,rfl⟩
   obtain⟨o,h⟩:=hs55 p56 l60 hpp56;have h0p56:=h;cbv;refine Og hE (fun hc=>?_) (fun hc=>by cases hc);cbv;refine Xn hE hO hb61 0 rfl (hO.get 1 rfl) ?_;cbv;refine D0 hE (fun _=>rfl) h fun x62 h=>?_;cbv;refine B0 hE h (fun hc h=>?_) (fun hc h=>?_)
   ·cbv;cases h;exact⟨_,_,_,.inr ⟨p56,l60,hpp56,h0p56⟩,⟨rfl,rfl,hO.tail⟩,.b rfl (.e rfl .z),rfl⟩
   cbv;cases h;exact⟨p56,l60,_,(),b61,_,hpp56,h0p56,.e2 .z,rfl,hb61.1,hO⟩
  ·exact .e2 .z
  ·exact hO
  clear hx
  rcases s59 with y63|y64
  ·rintro e l ds58 H ⟨rfl,rfl,hO⟩;cbv
   rcases ds58 with _|⟨d0,ds58⟩
   ·cbv;have hO:B6 _ _ [.blk m51 (.obj q50)] H:=hO;cases h;exact hK hO (.refl _)
   cbv;refine IH (A:=[_]) (ds:=d0::ds58) hE hO fun H hO=>?_;cbv;cases h;exact hK hO (.refl _)
  rintro e l ds58 H ⟨rfl,rfl,hO⟩;cbv
  rcases ds58 with _|⟨d0,ds58⟩
  ·cbv;have hO:B6 _ _ [.blk m51 (.obj q50)] H:=hO;cases h;exact hK hO (.refl _)
  cbv;refine IH (A:=[_]) (ds:=d0::ds58) hE hO fun H hO=>?_;cbv;cases h;exact hK hO (.refl _)
 rintro e l H ⟨rfl,rfl,hO⟩;cbv;cases h;exact hK hO (.refl _)
def c167 (N bC r)(h:Gx N bC=some r):C7 prog 167 [.int .u8 bC] (.bool r):=by
 unfold Gx at h
 refine P6 cf0 func167 call167 ntmps167 ?_;intro E H0 K hE hK hO;cbv;cases h;exact hK hO (.refl _)
def c168 (N bC r)(h:HP N bC=some r):C7 prog 168 [.int .u8 bC] (.bool r):=by
 unfold HP at h
 refine P6 cf0 func168 call168 ntmps168 ?_;intro E H0 K hE hK hO;cbv;cases h;exact hK hO (.refl _)
def c128 (N aB r) (h:HD N aB=some r):C7 prog 128 [.str aB] (.bool r):=by
 unfold HD at h
 refine P6 cf0 func128 call128 ntmps128 ?_;intro E H0 K hE hK hO;cbv;refine B0 hE h (fun _ h=>?_) fun _ h=>?_
 ·cbv;cases h;exact hK hO (.refl _)
 cbv;refine Mu hE h fun h=>?_;cbv;refine A9 hE h (c167 N (sat aB 0)) (.refl _) fun r1 h=>?_;cbv;refine B0 hE h (fun _ h=>?_) fun _ h=>?_
 ·cbv;cases h;exact hK hO (.refl _)
 cbv;obtain⟨s3,hx,h⟩:=bind_some h;refine K1 cf0 hE J9 (fun s2=>[(0,.v (.str aB)),fi 18 (Ar.slen aB),fi 19 s2]) (fun s2 H1=>B6 Eq H0 [] H1) (fun x e l H1=>match(generalizing:=false) x with| .inl y=>e= .exit 0∧l=[]∧B6 Eq H0 [] H1| .inr y=>e= .ret∧l=[(2,.b false)]∧B6 Eq H0 [] H1) (by kernel_rfl) ?_ hx ?_ hO ?_
 ·intro s2 H o hO h;clear hx;cbv;refine B0 hE h (fun _ h=>?_) fun _ h=>?_
  ·cbv;refine Mu hE h fun h=>?_;cbv;refine A9 hE h (c168 N (sat aB s2)) (.refl _) fun r4 h=>?_;cbv;refine B0 hE h (fun _ h=>?_) fun _ h=>?_
   ·cbv;refine Mu hE h fun h=>?_;cbv;refine A9 hE h (c167 N (sat aB s2)) (.refl _) fun r5 h=>?_;cbv;refine B0 hE h (fun _ h=>?_) fun _ h=>?_
    ·cbv;cases h;exact⟨_,_,rfl,⟨rfl,rfl,hO⟩,.b rfl (.z),rfl⟩
    cbv;cases h;exact⟨_,rfl,.e rfl (.e2 .z),rfl,hO⟩
   cbv;cases h;exact⟨_,rfl,.e rfl (.e2 .z),rfl,hO⟩
  cbv;cases h;exact⟨_,_,rfl,⟨rfl,rfl,hO⟩,.z,rfl⟩
 ·exact .e rfl (.e2 .z)
 clear hx
 rcases s3 with y6|y7
 ·rintro e l H ⟨rfl,rfl,hO⟩;cbv;cases h;exact hK hO (.refl _)
 rintro e l H ⟨rfl,rfl,hO⟩;cbv;cases h;exact hK hO (.refl _)
def c129 (N aB r)(h:EX N aB=some r):C7 prog 129 [.str aB] (.bool r):=by
 unfold EX at h
 refine P6 cf0 func129 call129 ntmps129 ?_;intro E H0 K hE hK hO;cbv;refine A9 hE h (c128 N aB) (.refl _) fun r1 h=>?_;cbv;cases h;exact hK hO (.refl _)
def c96 (N aB r) (h:IA N aB=some r):C7 prog 96 [(Tv aB)] (vi r):=by
 unfold IA at h
 refine P6 cf0 func96 call96 ntmps96 ?_;intro E H0 K hE hK hO;cbv;refine A9 hE h (c128 N aB.Name) (.refl _) fun r1 h=>?_;cbv;refine B0 hE h (fun _ h=>?_) fun _ h=>?_
 ·cbv;cases h;exact hK hO (.refl _)
 cbv;refine E9 hE ?_;cbv;refine B0 hE h (fun _ h=>?_) fun _ h=>?_
 ·cbv;cases h;exact hK hO (.refl _)
 cbv;refine Lo hE .string V.str V.bool hO fun m2 o3 H ho3 hO=>?_;cbv;refine E9 hE ?_;cbv;obtain⟨s6,hx,h⟩:=bind_some h;refine H8 cf0 hE J9 (γ:=Obj) (fun s4 g=>[(3,.v (.map m2)),(16,.v (sr eAG5 aB.Fields)),fi 17 (Ar.len aB.Fields),fi 18 s4.1]) (fun s4 g H1=>Da .string V.str V.bool g s4.2∧B6 Eq H0 [.blk m2 (.obj g)] H1) (fun x e l H1=>match(generalizing:=false) x with| .inl y=>∃u1:Obj,Da .string V.str V.bool u1 y∧e= .exit 0∧l=[]∧B6 Eq H0 [.blk m2 (.obj u1)] H1| .inr y=>∃u1:Obj,Da .string V.str V.bool u1 y.2∧e= .ret∧l=[fi 2 y.1]∧B6 Eq H0 [.blk m2 (.obj u1)] H1) (by kernel_rfl) ?_ o3 hx ?_ ?_ ?_
 ·rintro s4 q5 H o ⟨hq5,hO⟩ h;clear hx;cbv;refine B0 hE h (fun _ h=>?_) fun _ h=>?_
  ·cbv;refine D0 hE eAH8 h fun x7 h=>?_;cbv;refine A9 hE h (c129 N x7.Name) (.refl _) fun r8 h=>?_;cbv;refine B0 hE h (fun _ h=>?_) fun _ h=>?_
   ·cbv;cases h;exact⟨_,_,rfl,⟨q5,hq5,rfl,rfl,hO⟩,.e rfl .z,rfl⟩
   cbv;refine Kl hE (kt:=9) (et:=4) (by kernel_rfl) (by kernel_rfl) Mx (false:Bool) (by kernel_rfl) rfl hO hq5 0 rfl h fun r9 h=>?_;cbv;refine B0 hE h (fun _ h=>?_) fun _ h=>?_
   ·cbv;cases h;exact⟨_,_,rfl,⟨q5,hq5,rfl,rfl,hO⟩,.e rfl .z,rfl⟩
   cbv;refine B0 hE h (fun _ h=>?_) fun _ h=>?_
   ·cbv;cases h;exact⟨_,_,rfl,⟨q5,hq5,rfl,rfl,hO⟩,.e rfl .z,rfl⟩
   cbv;refine DF hE (kt:=9) (et:=4) (by kernel_rfl) (by kernel_rfl) Mx Eb hO hq5 0 rfl h fun l11 o10 H ho10 h hO=>?_;cbv;cases h;exact⟨_,o10,rfl,.e4 .z,rfl,ho10,hO⟩
  cbv;cases h;exact⟨_,_,rfl,⟨q5,hq5,rfl,rfl,hO⟩,.z,rfl⟩
 ·exact .e4 .z
 ·exact⟨ho3,hO⟩
 clear hx
 rcases s6 with y12|y14
 ·rintro e l H ⟨q13,hq13,rfl,rfl,hO⟩;cbv;cases h;exact hK hO (.refl _)
 rintro e l H ⟨q15,hq15,rfl,rfl,hO⟩;cbv;cases h;exact hK hO (.refl _)
def c51 (N aE r) (h:BK N aE=some r):C7 prog 51 [sr eAF4 aE] (vi r):=by
 unfold BK at h
 refine P6 cf0 func51 call51 ntmps51 ?_;intro E H0 K hE hK hO;cbv;refine E9 hE ?_;cbv;refine B0 hE h (fun _ h=>?_) fun _ h=>?_
 ·cbv;cases h;exact hK hO (.refl _)
 cbv;refine Lo hE .string V.str V.bool hO fun m1 o2 H ho2 hO=>?_;cbv;refine E9 hE ?_;cbv;obtain⟨s5,hx,h⟩:=bind_some h;refine H8 cf0 hE J9 (γ:=Obj) (fun s3 g=>[(3,.v (.map m1)),(11,.v (sr eAF4 aE)),fi 12 (Ar.len aE),fi 13 s3.1]) (fun s3 g H1=>Da .string V.str V.bool g s3.2∧B6 Eq H0 [.blk m1 (.obj g)] H1) (fun x e l H1=>match(generalizing:=false) x with| .inl y=>∃u1:Obj,Da .string V.str V.bool u1 y∧e= .exit 0∧l=[]∧B6 Eq H0 [.blk m1 (.obj u1)] H1| .inr y=>∃u1:Obj,Da .string V.str V.bool u1 y.2∧e= .ret∧l=[fi 2 y.1]∧B6 Eq H0 [.blk m1 (.obj u1)] H1) (by kernel_rfl) ?_ o2 hx ?_ ?_ ?_
 ·rintro s3 q4 H o ⟨hq4,hO⟩ h;clear hx;cbv;refine B0 hE h (fun _ h=>?_) fun _ h=>?_
  ·cbv;refine D0 hE eAH3 h fun x6 h=>?_;cbv;refine A9 hE h (c96 N x6) (.refl _) fun r7 h=>?_;cbv;refine B0 hE h (fun _ h=>?_) fun _ h=>?_
   ·cbv;cases h;exact⟨_,_,rfl,⟨q4,hq4,rfl,rfl,hO⟩,.e rfl .z,rfl⟩
   cbv;refine Kl hE (kt:=9) (et:=4) (by kernel_rfl) (by kernel_rfl) Mx (false:Bool) (by kernel_rfl) rfl hO hq4 0 rfl h fun r8 h=>?_;cbv;refine B0 hE h (fun _ h=>?_) fun _ h=>?_
   ·cbv;cases h;exact⟨_,_,rfl,⟨q4,hq4,rfl,rfl,hO⟩,.e rfl .z,rfl⟩
   cbv;refine DF hE (kt:=9) (et:=4) (by kernel_rfl) (by kernel_rfl) Mx Eb hO hq4 0 rfl h fun l10 o9 H ho9 h hO=>?_;cbv;cases h;exact⟨_,o9,rfl,.e4 .z,rfl,ho9,hO⟩
  cbv;cases h;exact⟨_,_,rfl,⟨q4,hq4,rfl,rfl,hO⟩,.z,rfl⟩
 ·exact .e4 .z
 ·exact⟨ho2,hO⟩
 clear hx
 rcases s5 with y11|y13
 ·rintro e l H ⟨q12,hq12,rfl,rfl,hO⟩;cbv;cases h;exact hK hO (.refl _)
 rintro e l H ⟨q14,hq14,rfl,rfl,hO⟩;cbv;cases h;exact hK hO (.refl _)
def c255 (N:Nat):∀n aA r,Gz N n aA=some r→It prog 255 (fun yv=>[(E5 aA),yv]) (List.map (fun(x:B1)=>[(E5 x)]) r) rbB:=by
 intro n
 induction n with
 |zero=>intro aA r h;cases h
 |succ n ih=>
 intro aA r h
 unfold Gz at h
 obtain⟨⟨w0,u0⟩,h1,hr⟩:=bind_some h;clear h;have hr:=I9 hr;subst hr;have h:=h1;clear h1;refine T3 cf0 J9 func255 (by rfl) (by kernel_rfl) call255 ntmps255 (by rfl) (fun _=>rfl) ?_;intro yv I D hI hD hy tl F E H K hE hO hK hKD
 have hO:B6 (I (List.map (fun(x:B1)=>[(E5 x)]) (w0++[])++tl)) F [] H:=by rw[append_nil];exact hO
 cbv;obtain⟨w1,h1,he⟩:=Y0 h;clear h;have h:=h1;clear h1
 rw[he,append_assoc]at hO
 clear he;have hO:B6 (I ([(E5 aA)]::(List.map (fun(x:B1)=>[(E5 x)]) (w1++[])++tl))) F [] _:=hO;refine Dt hE hI hD hy hO (.refl _) (fun H hO=>?_) (fun H hO=>?_)
 ·cbv;refine Ko hE (nt_eq _) ?_;cbv;refine E9 hE ?_;cbv;obtain⟨w3,w4,s7,hx,h1,he⟩:=R7 h;clear h;have h:=h1;clear h1
  rw[he,append_assoc]at hO
  clear he;refine KX cf0 hE J9 (γ:=Unit) (fun s2 g=>[(1,.v (yv)),(12,.v (sr eAD8 aA.dA)),fi 13 (Ar.len aA.dA),fi 14 s2]) (fun s2 g w H1=>B6 (I (List.map (fun(x:B1)=>[(E5 x)]) w++tl)) F [] H1) (fun x e l w H1=>e= .exit 0∧l=[]∧B6 (I (List.map (fun(x:B1)=>[(E5 x)]) w++tl)) F [] H1) (fun e l H1=>(e= .ret∧l=[(4,.b false)]∧B6 D F [] H1)) (by kernel_rfl) ?_ (w':=w4++[]) () hx ?_ ?_ ?_ ?_
  ·rintro s2 _ w5 w6 H o hO h;clear hx
   skip
   cbv;refine B0 hE h (fun _ h=>?_) fun _ h=>?_
   ·cbv;refine D0 hE eAE6 h fun x8 h=>?_;cbv;obtain⟨l9,hl,h⟩:=bind_some h;obtain⟨w10,h1,he⟩:=Y0 h;clear h;have h:=h1;clear h1
    rw[he,append_assoc]at hO
    clear he
    rw[List.map_append,append_assoc]at hO
    refine Ad9 hE hI hD hy (ih x8 l9 hl) hO (.refl _) (fun v H hb hO=>?_) (fun v H hb hO=>?_)
    ·cases hb;clear hl;cbv;refine Ko hE (nt_eq _) ?_;cbv;obtain⟨hw,rfl⟩:=F9 h
     rw[←hw]at hO
     exact⟨_,(),rfl,.e4 .z,rfl,hO⟩
    cases hb;clear h hl;cbv;refine Kn hE (nt_eq _) ?_;cbv;exact .inr ⟨_,⟨rfl,rfl,hO⟩,.b rfl (.z),rfl⟩
   cbv;obtain⟨hw,rfl⟩:=F9 h
   rw[←hw]at hO
   exact .inl ⟨_,_,rfl,⟨rfl,rfl,hO⟩,.z,rfl⟩
  ·exact .e4 .z
  ·exact hO
  ·rintro e l H ⟨rfl,rfl,hO⟩;clear hx;cbv;obtain⟨hw,_⟩:=F9 h
   rw[←hw]at hO
   exact hK _ _ _ hO rfl
  rintro e l H hX;obtain⟨rfl,rfl,hO⟩:=hX;clear h;cbv;exact hKD _ _ _ hO rfl
 clear h;cbv;refine Kn hE (nt_eq _) ?_;cbv;exact hKD _ _ _ hO rfl
def c254 (N aG r) (h:DE N aG=some r):It prog 254 (fun yv=>[yv,.eref (G7 aG) 0]) (List.map (fun(x:B1)=>[(E5 x)]) r) rbN:=by
 unfold DE at h
 obtain⟨⟨w0,u0⟩,h1,hr⟩:=bind_some h;clear h;have hr:=I9 hr;subst hr;have h:=h1;clear h1;refine T3 cf0 J9 func254 (by rfl) (by kernel_rfl) call254 ntmps254 (by rfl) (fun _=>rfl) ?_;intro yv I D hI hD hy tl F E H K hE hO hK hKD
 have hO:B6 (I (List.map (fun(x:B1)=>[(E5 x)]) (w0++[])++tl)) F [] H:=by rw[append_nil];exact hO
 cbv;obtain⟨l1,hl,h⟩:=bind_some h;obtain⟨w2,h1,he⟩:=Y0 h;clear h;have h:=h1;clear h1
 rw[he,append_assoc]at hO
 clear he
 rw[List.map_append,append_assoc]at hO
 refine Ad9 hE hI hD hy (c255 N N aG l1 hl) hO (.refl _) (fun v H hb hO=>?_) (fun v H hb hO=>?_)
 ·cases hb;clear hl;cbv;obtain⟨hw,_⟩:=F9 h
  rw[←hw]at hO
  exact hK _ _ _ hO trivial
 cases hb;clear h hl;cbv;exact hKD _ _ _ hO trivial
def c216 (N aA r)(h:Bf N aA=some r):EP prog 216 [(E5 aA)] (fun v=>Gu prog v (r.map fun(x:B1)=>[(E5 x)])):=by
 unfold Bf at h
 refine X0 cf0 J9 func216 (by rfl) (by kernel_rfl) call216 ntmps216 (by rfl) (by rfl) ?_;intro E H0 K hE hK;have hO:B6 Eq H0 [] H0:=.start C5 rfl;cbv;exact hK _ _ _ hO (W8 call254 (c254 N aA r h))
def cf172:Cf:=⟨[5,6,7],[(11,5)],[(18,7)],[],[],[]⟩
def c172 (N aA r) (h:Fp N aA=some r):C7 prog 172 [(E5 aA)] (.tup [vi r.1,vi r.2.1,.bool r.2.2]):=by
 unfold Fp at h
 refine P6 cf172 func172 call172 ntmps172 ?_;intro E H0 K hE hK hO;cbv;refine D8 hE hO fun b1 H hO=>?_;cbv;refine D8 hE hO fun b2 H hO=>?_;cbv;refine D8 hE hO fun b3 H hO=>?_;cbv;refine A7 hE hO 2 rfl rfl fun H hO=>?_;cbv;refine A7 hE hO 1 rfl rfl fun H hO=>?_;cbv;refine A7 hE hO 0 rfl rfl fun H hO=>?_;cbv;refine T9 hE h (c216 N aA) (.refl _) fun r4 v5 hv5 h=>?_;cbv;obtain⟨o10,hx,h⟩:=bind_some h;refine Cc cf172 hE J9 (ι:=Unit) (enc:=fun(x:B1)=>[(E5 x)]) (fun(s7:Bool×Int×Int) F H=>B6 Eq F [cb b3 [.bool s7.1],cb b2 [vi s7.2.1],cb b1 [vi s7.2.2]] H) (fun(r:Unit) e F H=>False) (fun i s7 y6=>[(5,.v (.ref b1 0)),(6,.v (.ref b2 0)),(7,.v (.ref b3 0)),(8,.v (.eref (G7 y6) 0))]) (fun i s7 y6 F H=>B6 Eq F [cb b3 [.bool s7.1],cb b2 [vi s7.2.1],cb b1 [vi s7.2.2]] H) (fun _=>B6.stable C5 _) (fun _ _=>⟨fun h=>h.elim,fun _ _ h=>h.elim⟩) (fun _ _ _=>B6.stable C5 _) hv5 hx (hO) (by decide) (fun _=>rfl) (by kernel_rfl) (by kernel_rfl) ?_ ?_ ?_ ?_
 ·rintro E i9 y6 s7 F8 H hE hO;clear hx h;cbv;exact⟨(),hO,.e4 .z,rfl⟩
 ·rintro E i9 _ y6 s7 F8 H o hE hF h hO;clear hx;cbv;refine Ae0 hE (g:=fun x=>(IX x)) (l:=R8) rfl (fun _=>rfl) rfl rfl h fun x11 h=>?_;cbv;obtain⟨s12,hx,h⟩:=bind_some h;refine O1 cf172 hE J9 (fun e l H1=>e= .normal∧l=[(6,.v (.ref b2 0)),(7,.v (.ref b3 0)),(8,.v (.eref (G7 y6) 0)),(9,.v (.eref (Gl x11) 0))]∧B6 Eq F8 [cb b3 [.bool s12.1],cb b2 [vi s7.2.1],cb b1 [vi s12.2]] H1) (by kernel_rfl) ?_ ?_
  ·clear h;have h:=hx;clear hx;cbv;refine B0 hE h (fun _ h=>?_) fun _ h=>?_
   ·cbv;refine A8 hE hO 0 rfl ?_;cbv;refine A8 hE hO 2 rfl ?_;cbv;refine A7 hE hO 0 rfl rfl fun H hO=>?_;cbv;refine A8 hE hO 2 rfl ?_;cbv;refine A7 hE hO 2 rfl rfl fun H hO=>?_;cbv;cases h;exact⟨_,⟨rfl,rfl,hO⟩,.e4 .z,rfl⟩
   cbv;cases h;exact⟨_,⟨rfl,rfl,hO⟩,.e4 .z,rfl⟩
  clear hx;rintro e l H ⟨rfl,rfl,hO⟩;cbv;refine B0 hE h (fun _ h=>?_) fun _ h=>?_
  ·cbv;refine A8 hE hO 0 rfl ?_;cbv;refine A8 hE hO 1 rfl ?_;cbv;refine A7 hE hO 0 rfl rfl fun H hO=>?_;cbv;refine A8 hE hO 1 rfl ?_;cbv;refine A7 hE hO 1 rfl rfl fun H hO=>?_;cbv;cases h;exact⟨_,rfl,hO⟩
  cbv;cases h;exact⟨_,rfl,hO⟩
 ·rintro d13 s15 H rfl hd hO;have hO:B6 Eq H0 [cb b3 [.bool s15.1],cb b2 [vi s15.2.1],cb b1 [vi s15.2.2],.blk d13 DB] H:=B6.dblk hd hO;clear hd;clear hx;cbv;refine A8 hE hO 2 rfl ?_;cbv;refine A8 hE hO 1 rfl ?_;cbv;refine A8 hE hO 0 rfl ?_;cbv;refine Ez hE hO 3 rfl fun H hO=>?_;cbv;cases h;exact hK hO (.refl _)
 rintro d r e H rfl hd hO;exact hO.elim
def c218 (N:Nat):∀n aA r,GA N n aA=some r→C7 prog 218 [(E5 aA)] (.tup [vi r.1,vi r.2]):=by
 intro n
 induction n with
 |zero=>intro aA r h;cases h
 |succ n ih=>
 intro aA r h
 unfold GA at h
 refine P6 cf0 func218 call218 ntmps218 ?_;intro E H0 K hE hK hO;cbv;refine E9 hE ?_;cbv;obtain⟨s2,hx,h⟩:=bind_some h;refine K1 cf0 hE J9 (fun s1=>[fi 4 s1.1,fi 5 s1.2.1,(11,.v (sr eAD8 aA.dA)),fi 12 (Ar.len aA.dA),fi 13 s1.2.2]) (fun s1 H1=>B6 Eq H0 [] H1) (fun x e l H1=>e= .exit 0∧l=[fi 4 x.1,fi 5 x.2]∧B6 Eq H0 [] H1) (by kernel_rfl) ?_ hx ?_ hO ?_
 ·intro s1 H o hO h;clear hx;cbv;refine B0 hE h (fun _ h=>?_) fun _ h=>?_
  ·cbv;refine D0 hE eAE6 h fun x3 h=>?_;cbv;refine A9 hE h (ih x3) (.refl _) fun r4 h=>?_;cbv;cases h;exact⟨_,rfl,.e rfl (.e4 .z),rfl,hO⟩
  cbv;cases h;exact⟨_,_,rfl,⟨rfl,rfl,hO⟩,.e2 .z,rfl⟩
 ·exact .e rfl (.e4 .z)
 clear hx;rintro e l H ⟨rfl,rfl,hO⟩;cbv;cases h;exact hK hO (.refl _)
def c178 (N:Nat):∀n aF r,Ld N n aF=some r→C7 prog 178 [(Db aF)] (.tup [vi r.1,vi r.2]):=by
 intro n
 induction n with
 |zero=>intro aF r h;cases h
 |succ n ih=>
 intro aF r h
 unfold Ld at h
 refine P6 cf0 func178 call178 ntmps178 ?_;intro E H0 K hE hK hO;cbv;refine E9 hE ?_;cbv;obtain⟨s2,hx,h⟩:=bind_some h;refine K1 cf0 hE J9 (fun s1=>[fi 4 s1.1,fi 5 s1.2.1,(11,.v (sr eAE4 aF.dA)),fi 12 (Ar.len aF.dA),fi 13 s1.2.2]) (fun s1 H1=>B6 Eq H0 [] H1) (fun x e l H1=>e= .exit 0∧l=[fi 4 x.1,fi 5 x.2]∧B6 Eq H0 [] H1) (by kernel_rfl) ?_ hx ?_ hO ?_
 ·intro s1 H o hO h;clear hx;cbv;refine B0 hE h (fun _ h=>?_) fun _ h=>?_
  ·cbv;refine D0 hE eAF1 h fun x3 h=>?_;cbv;refine A9 hE h (ih x3) (.refl _) fun r4 h=>?_;cbv;cases h;exact⟨_,rfl,.e rfl (.e4 .z),rfl,hO⟩
  cbv;cases h;exact⟨_,_,rfl,⟨rfl,rfl,hO⟩,.e2 .z,rfl⟩
 ·exact .e rfl (.e4 .z)
 clear hx;rintro e l H ⟨rfl,rfl,hO⟩;cbv;cases h;exact hK hO (.refl _)
def c179 (N:Nat):∀(n:Nat) (aF:M4) (aX:V) (aQ:M4→Option Int) (bE:∀y1 q,aQ y1=some q→X9 prog aX [(Db y1)] (vi q)) (r:Int),IL N n aF aQ=some r→C7 prog 179 [(Db aF),aX] (vi r):=by
 intro n
 induction n with
 |zero=>intro aF aX aQ bE r h;cases h
 |succ n ih=>
 intro aF aX aQ bE r h
 unfold IL at h
 refine P6 cf0 func179 call179 ntmps179 ?_;intro E H0 K hE hK hO;cbv;refine Du hE (g:=fun r1=>vi r1) h (fun r1 hx=>bE aF r1 hx) (.refl _) fun r1 h=>?_;cbv;refine B0 hE h (fun _ h=>?_) fun _ h=>?_
 ·cbv;cases h;exact hK hO (.refl _)
 cbv;refine E9 hE ?_;cbv;obtain⟨s3,hx,h⟩:=bind_some h;refine K1 cf0 hE J9 (fun s2=>[(1,.v (aX)),(16,.v (sr eAE4 aF.dA)),fi 17 (Ar.len aF.dA),fi 18 s2]) (fun s2 H1=>B6 Eq H0 [] H1) (fun x e l H1=>match(generalizing:=false) x with| .inl y=>e= .exit 0∧l=[]∧B6 Eq H0 [] H1| .inr y=>e= .ret∧l=[fi 4 y]∧B6 Eq H0 [] H1) (by kernel_rfl) ?_ hx ?_ hO ?_
 ·intro s2 H o hO h;clear hx;cbv;refine B0 hE h (fun _ h=>?_) fun _ h=>?_
  ·cbv;refine D0 hE eAF1 h fun x4 h=>?_;cbv;refine A9 hE h (ih x4 aX aQ bE) (.refl _) fun r5 h=>?_;cbv;refine B0 hE h (fun _ h=>?_) fun _ h=>?_
   ·cbv;cases h;exact⟨_,_,rfl,⟨rfl,rfl,hO⟩,.e rfl .z,rfl⟩
   cbv;cases h;exact⟨_,rfl,.e4 .z,rfl,hO⟩
  cbv;cases h;exact⟨_,_,rfl,⟨rfl,rfl,hO⟩,.z,rfl⟩
 ·exact .e4 .z
 clear hx
 rcases s3 with y6|y7
 ·rintro e l H ⟨rfl,rfl,hO⟩;cbv;cases h;exact hK hO (.refl _)
 rintro e l H ⟨rfl,rfl,hO⟩;cbv;cases h;exact hK hO (.refl _)
def c220 (N aM r)(h:LS N aM=some r):C7 prog 220 [vi aM] (.tup [vi r.1,.bool r.2]):=by
 unfold LS at h
 refine P6 cf0 func220 call220 ntmps220 ?_;intro E H0 K hE hK hO;cbv;refine B0 hE h (fun _ h=>?_) fun _ h=>?_
 ·cbv;cases h;exact hK hO (.refl _)
 cbv;refine B0 hE h (fun _ h=>?_) fun _ h=>?_
 ·cbv;cases h;exact hK hO (.refl _)
 cbv;refine B0 hE h (fun _ h=>?_) fun _ h=>?_
 ·cbv;cases h;exact hK hO (.refl _)
 cbv;cases h;exact hK hO (.refl _)
def cf221:Cf:=⟨[],[],[(5,4)],[],[],[]⟩
def c221 (N aM r) (h:Ns N aM=some r):C7 prog 221 [vi aM] (.tup [.bool r.1,.bool r.2]):=by
 unfold Ns at h
 refine P6 cf221 func221 call221 ntmps221 ?_;intro E H0 K hE hK hO;cbv;obtain⟨s1,hx,h⟩:=bind_some h;refine O1 cf221 hE J9 (fun e l H1=>e= .normal∧l=[fi 4 aM,(5,.v (.bool s1))]∧B6 Eq H0 [] H1) (by kernel_rfl) ?_ ?_
 ·clear h;have h:=hx;clear hx;cbv;refine B0 hE h (fun _ h=>?_) fun _ h=>?_
  ·cbv;cases h;exact⟨_,⟨rfl,rfl,hO⟩,.e2 .z,rfl⟩
  cbv;cases h;exact⟨_,⟨rfl,rfl,hO⟩,.e2 .z,rfl⟩
 clear hx;rintro e l H ⟨rfl,rfl,hO⟩;cbv;refine B0 hE h (fun _ h=>?_) fun _ h=>?_
 ·cbv;cases h;exact hK hO (.refl _)
 cbv;refine B0 hE h (fun _ h=>?_) fun _ h=>?_
 ·cbv;cases h;exact hK hO (.refl _)
 cbv;refine B0 hE h (fun _ h=>?_) fun _ h=>?_
 ·cbv;cases h;exact hK hO (.refl _)
 cbv;cases h;exact hK hO (.refl _)
end Go.Ab
