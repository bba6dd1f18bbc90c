/- . -/
import Derived.Test.YtnfefddbggfopaaGreatDoorA11
import Derived.Shelf.Sort.Plain
import Derived.Shelf.Slices.CompactI
import Derived.Test.YtnfefddbggfopaaGreatDoorProg
import Derived.KernelRfl
set_option linter.all false
/- The shelf laid at this program: plain. -/
open List (append_assoc append_nil)
open Go.Ab.Ar (cmp lst nt_eq)
namespace Go.Proofs
open Go.Shelf
set_option maxRecDepth 100000
def Tryz.laysNm189_ren:Ren:=
{
  f :=fun x=>
    match x with
    |189=>199
    |125=>224
    |257=>223
    |128=>246
    |129=>247
    |294=>237
    |295=>238
    |296=>239
    |297=>240
    |298=>241
    |299=>242
    |216=>243
    |300=>244
    |301=>245
    |328=>252
    |329=>253
    |330=>254
    |331=>255
    |332=>256
    |215=>257
    |343=>259
    |n=>n,
  t :=fun x=>
    match x with
    |28=>74
    |3=>3
    |46=>163
    |0=>0
    |51=>203
    |53=>206
    |4=>4
    |183=>301
    |182=>300
    |131=>101
    |5=>5
    |9=>9
    |218=>314
    |222=>318
    |228=>320
    |229=>124
    |n=>n,
  g :=fun x=>
    x}
def Tryz.laysNm189:Lays.n189 Tryz.prog Tryz.laysNm189_ren:=
{ mixed :=(by kernel_rfl),f125:=Eq.trans Tryz.func224 (congrArg some (by kernel_rfl)),
  f128:=Eq.trans Tryz.func246 (congrArg some (by kernel_rfl)),
  f129:=Eq.trans Tryz.func247 (congrArg some (by kernel_rfl)),
  f189:=Eq.trans Tryz.func199 (congrArg some (by kernel_rfl)),
  f215:=Eq.trans Tryz.func257 (congrArg some (by kernel_rfl)),
  f216:=Eq.trans Tryz.func243 (congrArg some (by kernel_rfl)),
  f257:=Eq.trans Tryz.func223 (congrArg some (by kernel_rfl)),
  f294:=Eq.trans Tryz.func237 (congrArg some (by kernel_rfl)),
  f295:=Eq.trans Tryz.func238 (congrArg some (by kernel_rfl)),
  f296:=Eq.trans Tryz.func239 (congrArg some (by kernel_rfl)),
  f297:=Eq.trans Tryz.func240 (congrArg some (by kernel_rfl)),
  f298:=Eq.trans Tryz.func241 (congrArg some (by kernel_rfl)),
  f299:=Eq.trans Tryz.func242 (congrArg some (by kernel_rfl)),
  f300:=Eq.trans Tryz.func244 (congrArg some (by kernel_rfl)),
  f301:=Eq.trans Tryz.func245 (congrArg some (by kernel_rfl)),
  f328:=Eq.trans Tryz.func252 (congrArg some (by kernel_rfl)),
  f329:=Eq.trans Tryz.func253 (congrArg some (by kernel_rfl)),
  f330:=Eq.trans Tryz.func254 (congrArg some (by kernel_rfl)),
  f331:=Eq.trans Tryz.func255 (congrArg some (by kernel_rfl)),
  f332:=Eq.trans Tryz.func256 (congrArg some (by kernel_rfl)),
  f343:=Eq.trans Tryz.func259 (congrArg some (by kernel_rfl)),t0:=Tryz.underlying0,
  a0:=Tryz.isAgg0,z0:=Tryz.sizeOf0,v0:=Tryz.zeroValue0,t3:=Tryz.underlying3,a3:=Tryz.isAgg3,
  z3:=Tryz.sizeOf3,v3:=Tryz.zeroValue3,t4:=Tryz.underlying4,a4:=Tryz.isAgg4,z4:=Tryz.sizeOf4,
  v4:=Tryz.zeroValue4,t5:=Tryz.underlying5,a5:=Tryz.isAgg5,z5:=Tryz.sizeOf5,v5:=Tryz.zeroValue5,
  t9:=Tryz.underlying9,a9:=Tryz.isAgg9,z9:=Tryz.sizeOf9,v9:=Tryz.zeroValue9,t28:=Tryz.underlying74,
  a28:=Tryz.isAgg74,z28:=Tryz.sizeOf74,v28:=Tryz.zeroValue74,t46:=Tryz.underlying163,a46:=Tryz.isAgg163,
  z46:=Tryz.sizeOf163,v46:=Tryz.zeroValue163,t51:=Tryz.underlying203,a51:=Tryz.isAgg203,
  z51:=Tryz.sizeOf203,v51:=Tryz.zeroValue203,t53:=Tryz.underlying206,a53:=Tryz.isAgg206,
  z53:=Tryz.sizeOf206,v53:=Tryz.zeroValue206,t131:=Tryz.underlying101,a131:=Tryz.isAgg101,
  z131:=Tryz.sizeOf101,v131:=Tryz.zeroValue101,t182:=Tryz.underlying300,a182:=Tryz.isAgg300,
  z182:=Tryz.sizeOf300,v182:=Tryz.zeroValue300,t183:=Tryz.underlying301,a183:=Tryz.isAgg301,
  z183:=Tryz.sizeOf301,v183:=Tryz.zeroValue301,t218:=Tryz.underlying314,a218:=Tryz.isAgg314,
  z218:=Tryz.sizeOf314,v218:=Tryz.zeroValue314,t222:=Tryz.underlying318,a222:=Tryz.isAgg318,
  z222:=Tryz.sizeOf318,v222:=Tryz.zeroValue318,t228:=Tryz.underlying320,a228:=Tryz.isAgg320,
  z228:=Tryz.sizeOf320,v228:=Tryz.zeroValue320,t229:=Tryz.underlying124,a229:=Tryz.isAgg124,
  z229:=Tryz.sizeOf124,v229:=Tryz.zeroValue124}
def Tryz.laysNm220_ren:Ren:=
{
  f :=fun x=>
    match x with
    |20=>200
    |n=>n,
  t :=fun x=>
    match x with
    |22=>74
    |3=>3
    |4=>4
    |0=>0
    |n=>n,
  g :=fun x=>
    x}
def Tryz.laysNm220:Lays2.n20 Tryz.prog Tryz.laysNm220_ren:=
{ mixed :=(by kernel_rfl),f20:=Eq.trans Tryz.func200 (congrArg some (by kernel_rfl)),
  t0:=Tryz.underlying0,a0:=Tryz.isAgg0,z0:=Tryz.sizeOf0,v0:=Tryz.zeroValue0,t3:=Tryz.underlying3,
  a3:=Tryz.isAgg3,z3:=Tryz.sizeOf3,v3:=Tryz.zeroValue3,t4:=Tryz.underlying4,a4:=Tryz.isAgg4,
  z4:=Tryz.sizeOf4,v4:=Tryz.zeroValue4,t22:=Tryz.underlying74,a22:=Tryz.isAgg74,z22:=Tryz.sizeOf74,
  v22:=Tryz.zeroValue74,i3:=Eq.refl (some (some (Value.int IntKind.i64 0),1,8))}
end Go.Proofs
namespace Go.Ab
open Go.RowKit Go.Proofs Go.Proofs.Tryz L7
abbrev vi (n:Int):V:=.int .i64 n
abbrev sr [Ar]{α:Type}(f:α→V)(l:List α):V:=.sl (lst f l) .ro
abbrev cb (b:Nat)(l:List V):En:=.blk b (.cells l)
abbrev ob [Ar]{α:Type}(q:OG)(n:Nat)(f:α→V)(l:List α):En:=.blk q.id (.arr n (q.pre++lst f l++q.rest))
abbrev fi (k:Nat)(n:Int):Nat×Sl:=(k,.v (vi n))
instance globs :N9:=⟨fun n=>match n with
 |0=>.eref [vi 0,vi 0,.bool true,.bool true,.bool false,.bool false,vi 2,vi 64,.bool false,.bool false,.bool false,.bool false,vi 2,vi 64,.bool false,.bool false,.bool false,.bool false,vi 2,vi 64,.bool false,.bool false,.bool false,.bool false,vi 1,vi 1,.bool false,.bool false,.bool false,.bool false,vi 1,vi 1,.bool true,.bool true,.bool true,.bool false,vi 1,vi 1,.bool false,.bool false,.bool true,.bool true,vi 1,vi 1,.bool false,.bool true,.bool false,.bool false,vi 2,vi 2,.bool false,.bool false,.bool false,.bool false,vi 1,vi 1,.bool true,.bool true,.bool true,.bool false,vi 1,vi 1,.bool false,.bool false,.bool true,.bool true] 0
 |_=>.bad⟩
variable [Ar][L7]
set_option maxRecDepth 100000
def J6:RG prog TT:=⟨okT,by rfl⟩
def A8:Cf:=⟨[],[],[],[],[],[]⟩
def cfA (a:List Nat):Cf:=⟨a,[],[],[],[],[]⟩
def cfB (a:List Nat)(b:List (Nat×Nat)):Cf:=⟨a,b,[],[],[],[]⟩
def cfC (a:List Nat)(b c:List (Nat×Nat)):Cf:=⟨a,b,c,[],[],[]⟩
def GZ.e2 {l r:Fl}{k1 k2:Nat}{x1 x2:V}(hr:GZ l r)(h1:CD l k1=x1:=by rfl)(h2:CD l k2=x2:=by rfl):GZ l ((k1,.v x1)::(k2,.v x2)::r):=.e h1 (.e h2 hr)
def GZ.e4 {l r:Fl}{k1 k2 k3 k4:Nat}{x1 x2 x3 x4:V}(hr:GZ l r)(h1:CD l k1=x1:=by rfl)(h2:CD l k2=x2:=by rfl)(h3:CD l k3=x3:=by rfl)(h4:CD l k4=x4:=by rfl):GZ l ((k1,.v x1)::(k2,.v x2)::(k3,.v x3)::(k4,.v x4)::r):=.e2 (.e2 hr h3 h4) h1 h2
def N2 {f:FuncId}{fn:Func}{c:Code}{n:Nat}{rs:List ResultVar}{args:List V}{r:V}(cf:Cf)(hf:prog.funcs[f]? =some fn)(hcall:∀vals w,(callFunc f vals).run prog w= .ok (.enter f vals) w)(hnt:fn.ntmps=n)
 (h:∀(E:FL) (H:A5) (K:V→A5→Prop),E=I6 prog n none→(∀{x L H'},B6 Eq H L H'→Cp x r→K x H')→B6 Eq H [] H→run E TT n cf c ⟨Cj args 0,[]⟩ H (Oa E TT rs K))
 (hb:fn.body=some c:=by rfl) (hd:K2 cf c=true:=by kernel_rfl) (hrs:fn.results.toList=rs:=by rfl) (hn:Nat.ble args.length n=true:=by rfl):C3 prog f args r:=
 Uh cf J6 hf hb hd hcall hnt hrs hn fun E H K hE hK=>h E H K hE (fun a b=>hK _ _ _ a b) (.start E0 rfl)
def c9 (N:Nat):∀n aA bD r,AV N n aA bD=some r→C3 prog 9 [(C9 aA),vi bD] (vi r):=by
 intro n
 induction n with
 |zero=>intro aA bD r h;cases h
 |succ n ih=>
 intro aA bD r h
 unfold AV at h
 refine N2 A8 func9 call9 ntmps9 ?_;intro E H0 K hE hK hO;cbv;obtain⟨s2,hx,h⟩:=A7 h;refine H5 A8 hE J6 (fun s1=>[fi 1 bD,(2,.v (.eref (E1 aA) 0)),fi 5 s1.1,fi 6 s1.2]) (fun s1 H1=>B6 Eq H0 [] H1) (fun x e l H1=>e= .exit 0∧l=[fi 5 x]∧B6 Eq H0 [] H1) (by kernel_rfl) ?_ hx ?_ hO ?_
 ·intro s1 H o hO h
  repeat' (cbv;first|apply B7 hE h<;>intro _ h|apply G9 hE|refine A9 hE h (ih _ _) .z fun _ h=>?_|refine D8 hE eBh0 h fun _ h=>?_|(cases h;exact⟨_,rfl,.e4 .z,rfl,hO⟩)|(cases h;exact⟨_,_,rfl,⟨rfl,rfl,hO⟩,.e rfl .z,rfl⟩))
 ·exact .e4 .z
 clear hx;rintro e l H ⟨rfl,rfl,hO⟩;cbv;cases h;exact hK hO .z
def c10 (N:Nat):∀n aA r,Y6 N n aA=some r→C3 prog 10 [(C9 aA)] (sr eBg8 r):=by
 intro n
 induction n with
 |zero=>intro aA r h;cases h
 |succ n ih=>
 intro aA r h
 unfold Y6 at h
 refine N2 A8 func10 call10 ntmps10 ?_;intro E H0 K hE hK hO;cbv;replace hO:=hO.tl0 (t:=.full) rfl;obtain⟨s3,hx,h⟩:=A7 h;refine J9 A8 hE J6 (γ:=E7) (fun s1 g=>[(1,.v (.eref (E1 aA) 0)),(3,.v (.sl (lst eBg8 s1.1) g)),fi 4 s1.2]) (fun s1 g H1=>K6 g∧B6 Eq H0 [.tl g] H1) (fun x e l H1=>∃u1:E7,K6 u1∧e= .exit 0∧l=[(3,.v (.sl (lst eBg8 x) u1))]∧B6 Eq H0 [.tl u1] H1) (by kernel_rfl) ?_ .full hx ?_ ?_ ?_
 ·rintro s1 t2 H o ⟨ht2,hO⟩ h
  repeat' (cbv;first|apply B7 hE h<;>intro _ h|apply G9 hE|refine A9 hE h (ih _) .z fun r5 h=>?_|refine D8 hE eBh0 h fun _ h=>?_|(cases h;exact⟨_,t6,rfl,.e rfl (.e2 .z),rfl,ht6,hO⟩)|(cases h;exact⟨_,_,rfl,⟨t2,ht2,rfl,rfl,hO⟩,.e rfl .z,rfl⟩)|refine N1 (f:=eBg8) hE N3 (by decide) hO 0 rfl ht2 (l:=s1.1) (m:=r5) .z .z h fun _ t6 H hO ht6 h=>?_)
 ·exact .e rfl (.v (.slt _ (.lstc (.eq (eBh0 aA) .z) (.lst0))) (.e rfl (.z)))
 ·exact⟨trivial,hO⟩
 clear hx;rintro e l H ⟨t8,ht8,rfl,rfl,hO⟩;cbv;cases h;exact hK hO (.ro _ _)
def c11 (N:Nat):∀n aB bD r,As N n aB bD=some r→C3 prog 11 [(U9 aB),vi bD] (vi r):=by
 intro n
 induction n with
 |zero=>intro aB bD r h;cases h
 |succ n ih=>
 intro aB bD r h
 unfold As at h
 refine N2 A8 func11 call11 ntmps11 ?_;intro E H0 K hE hK hO;cbv;obtain⟨s2,hx,h⟩:=A7 h;refine H5 A8 hE J6 (fun s1=>[fi 1 bD,(2,.v (.eref (Aq aB) 0)),fi 5 s1.1,fi 6 s1.2]) (fun s1 H1=>B6 Eq H0 [] H1) (fun x e l H1=>e= .exit 0∧l=[fi 5 x]∧B6 Eq H0 [] H1) (by kernel_rfl) ?_ hx ?_ hO ?_
 ·intro s1 H o hO h
  repeat' (cbv;first|apply B7 hE h<;>intro _ h|apply G9 hE|refine A9 hE h (ih _ _) .z fun _ h=>?_|refine D8 hE eBi0 h fun _ h=>?_|(cases h;exact⟨_,rfl,.e4 .z,rfl,hO⟩)|(cases h;exact⟨_,_,rfl,⟨rfl,rfl,hO⟩,.e rfl .z,rfl⟩))
 ·exact .e4 .z
 clear hx;rintro e l H ⟨rfl,rfl,hO⟩;cbv;cases h;exact hK hO .z
def c4 (N aA r) (h:IN N aA=some r):C3 prog 4 [(C9 aA)] (.bool r):=by
 refine N2 A8 func4 call4 ntmps4 ?_;intro E H0 K hE hK hO;cbv;refine A9 hE h (c9 N N aA 9) .z fun r1 h=>?_;cbv;apply B7 hE h<;>intro _ h
 ·cbv;cases h;exact hK hO .z
 cbv;refine A9 hE h (c10 N N aA) .z fun r2 h=>?_;cbv;obtain⟨s4,hx,h⟩:=A7 h;refine H5 A8 hE J6 (fun s3=>[(3,.v (sr eBg8 r2)),fi 4 s3]) (fun s3 H1=>B6 Eq H0 [] H1) (fun x e l H1=>match(generalizing:=false) x with| .inl y=>e= .exit 0∧l=[]∧B6 Eq H0 [] H1| .inr y=>e= .ret∧l=[(2,.b false)]∧B6 Eq H0 [] H1) (by kernel_rfl) ?_ hx ?_ hO ?_
 ·intro s3 H o hO h
  repeat' (cbv;first|apply B7 hE h<;>intro _ h|apply G9 hE|refine A9 hE h (c11 _ _ _ _) .z fun _ h=>?_|refine D8 hE eBh0 h fun _ h=>?_|(cases h;exact⟨_,_,rfl,⟨rfl,rfl,hO⟩,.b rfl (.z),rfl⟩)|(cases h;exact⟨_,rfl,.e2 .z,rfl,hO⟩)|(cases h;exact⟨_,_,rfl,⟨rfl,rfl,hO⟩,.z,rfl⟩))
 ·exact .e2 .z
 clear hx
 rcases s4 with y7|y8
 ·rintro e l H ⟨rfl,rfl,hO⟩;cbv;cases h;exact hK hO .z
 rintro e l H ⟨rfl,rfl,hO⟩;cbv;cases h;exact hK hO .z
def c103 (N aZ r)(h:EC N aZ=some r):C3 prog 103 [.int .u8 aZ] (.bool r):=by
 refine N2 A8 func103 call103 ntmps103 ?_;intro E H0 K hE hK hO;cbv;cases h;exact hK hO .z
def c104 (N aZ r)(h:FP N aZ=some r):C3 prog 104 [.int .u8 aZ] (.bool r):=by
 refine N2 A8 func104 call104 ntmps104 ?_;intro E H0 K hE hK hO;cbv;cases h;exact hK hO .z
def c68 (N aC r) (h:CN N aC=some r):C3 prog 68 [.str aC] (.bool r):=by
 refine N2 A8 func68 call68 ntmps68 ?_;intro E H0 K hE hK hO
 repeat' (cbv;first|apply B7 hE h<;>intro _ h|refine A9 hE h (c103 _ _) .z fun _ h=>?_|(cases h;exact hK hO .z)|refine MX hE h fun h=>?_)
 cbv;obtain⟨s3,hx,h⟩:=A7 h;refine H5 A8 hE J6 (fun s2=>[(0,.v (.str aC)),fi 18 (Ar.slen aC),fi 19 s2]) (fun s2 H1=>B6 Eq H0 [] H1) (fun x e l H1=>match(generalizing:=false) x with| .inl y=>e= .exit 0∧l=[]∧B6 Eq H0 [] H1| .inr y=>e= .ret∧l=[(2,.b false)]∧B6 Eq H0 [] H1) (by kernel_rfl) ?_ hx ?_ hO ?_
 ·intro s2 H o hO h
  repeat' (cbv;first|apply B7 hE h<;>intro _ h|refine A9 hE h (c104 _ _) .z fun _ h=>?_|refine A9 hE h (c103 _ _) .z fun _ h=>?_|(cases h;exact⟨_,_,rfl,⟨rfl,rfl,hO⟩,.b rfl (.z),rfl⟩)|(cases h;exact⟨_,rfl,.e rfl (.e2 .z),rfl,hO⟩)|(cases h;exact⟨_,_,rfl,⟨rfl,rfl,hO⟩,.z,rfl⟩)|refine MX hE h fun h=>?_)
 ·exact .e rfl (.e2 .z)
 clear hx
 rcases s3 with y6|y7
 ·rintro e l H ⟨rfl,rfl,hO⟩;cbv;cases h;exact hK hO .z
 rintro e l H ⟨rfl,rfl,hO⟩;cbv;cases h;exact hK hO .z
def c69 (N aC r)(h:BB N aC=some r):C3 prog 69 [.str aC] (.bool r):=by
 refine N2 A8 func69 call69 ntmps69 ?_;intro E H0 K hE hK hO;cbv;refine A9 hE h (c68 N aC) .z fun r1 h=>?_;cbv;cases h;exact hK hO .z
def c40 (N aC r) (h:ED N aC=some r):C3 prog 40 [(LV aC)] (vi r):=by
 refine N2 A8 func40 call40 ntmps40 ?_;intro E H0 K hE hK hO
 repeat' (cbv;first|apply B7 hE h<;>intro _ h|apply G9 hE|refine A9 hE h (c68 _ _) .z fun _ h=>?_|(cases h;exact hK hO .z)|refine SM hE .string V.str V.bool hO fun m2 o3 H ho3 hO=>?_)
 cbv;obtain⟨s6,hx,h⟩:=A7 h;refine J9 A8 hE J6 (γ:=Obj) (fun s4 g=>[(3,.v (.map m2)),(16,.v (sr eBi8 aC.Fields)),fi 17 (Ar.len aC.Fields),fi 18 s4.1]) (fun s4 g H1=>Jz .string V.str V.bool g s4.2∧B6 Eq H0 [.blk m2 (.obj g)] H1) (fun x e l H1=>match(generalizing:=false) x with| .inl y=>∃u1:Obj,Jz .string V.str V.bool u1 y∧e= .exit 0∧l=[]∧B6 Eq H0 [.blk m2 (.obj u1)] H1| .inr y=>∃u1:Obj,Jz .string V.str V.bool u1 y.2∧e= .ret∧l=[fi 2 y.1]∧B6 Eq H0 [.blk m2 (.obj u1)] H1) (by kernel_rfl) ?_ o3 hx ?_ ?_ ?_
 ·rintro s4 q5 H o ⟨hq5,hO⟩ h
  repeat' (cbv;first|apply B7 hE h<;>intro _ h|refine A9 hE h (c69 _ _) .z fun _ h=>?_|refine D8 hE eBi9 h fun _ h=>?_|(cases h;exact⟨_,_,rfl,⟨q5,hq5,rfl,rfl,hO⟩,.e rfl .z,rfl⟩)|(cases h;exact⟨_,o10,rfl,.e4 .z,rfl,ho10,hO⟩)|(cases h;exact⟨_,_,rfl,⟨q5,hq5,rfl,rfl,hO⟩,.z,rfl⟩)|refine VY hE (kt:=9) (et:=4) (by kernel_rfl) (by kernel_rfl) OU (false:Bool) (by kernel_rfl) rfl hO hq5 0 rfl h fun _ h=>?_|refine Mq hE (kt:=9) (et:=4) (by kernel_rfl) (by kernel_rfl) OU Hp hO hq5 0 rfl h fun _ o10 H ho10 h hO=>?_)
 ·exact .e4 .z
 ·exact⟨ho3,hO⟩
 clear hx
 rcases s6 with y12|y14
 ·rintro e l H ⟨q13,hq13,rfl,rfl,hO⟩;cbv;cases h;exact hK hO .z
 rintro e l H ⟨q15,hq15,rfl,rfl,hO⟩;cbv;cases h;exact hK hO .z
def c20 (N aF r) (h:AQ N aF=some r):C3 prog 20 [sr eBh4 aF] (vi r):=by
 refine N2 A8 func20 call20 ntmps20 ?_;intro E H0 K hE hK hO
 repeat' (cbv;first|apply B7 hE h<;>intro _ h|apply G9 hE|(cases h;exact hK hO .z)|refine SM hE .string V.str V.bool hO fun m1 o2 H ho2 hO=>?_)
 cbv;obtain⟨s5,hx,h⟩:=A7 h;refine J9 A8 hE J6 (γ:=Obj) (fun s3 g=>[(3,.v (.map m1)),(11,.v (sr eBh4 aF)),fi 12 (Ar.len aF),fi 13 s3.1]) (fun s3 g H1=>Jz .string V.str V.bool g s3.2∧B6 Eq H0 [.blk m1 (.obj g)] H1) (fun x e l H1=>match(generalizing:=false) x with| .inl y=>∃u1:Obj,Jz .string V.str V.bool u1 y∧e= .exit 0∧l=[]∧B6 Eq H0 [.blk m1 (.obj u1)] H1| .inr y=>∃u1:Obj,Jz .string V.str V.bool u1 y.2∧e= .ret∧l=[fi 2 y.1]∧B6 Eq H0 [.blk m1 (.obj u1)] H1) (by kernel_rfl) ?_ o2 hx ?_ ?_ ?_
 ·rintro s3 q4 H o ⟨hq4,hO⟩ h
  repeat' (cbv;first|apply B7 hE h<;>intro _ h|refine A9 hE h (c40 _ _) .z fun _ h=>?_|refine D8 hE eBi7 h fun _ h=>?_|(cases h;exact⟨_,_,rfl,⟨q4,hq4,rfl,rfl,hO⟩,.e rfl .z,rfl⟩)|(cases h;exact⟨_,o9,rfl,.e4 .z,rfl,ho9,hO⟩)|(cases h;exact⟨_,_,rfl,⟨q4,hq4,rfl,rfl,hO⟩,.z,rfl⟩)|refine VY hE (kt:=9) (et:=4) (by kernel_rfl) (by kernel_rfl) OU (false:Bool) (by kernel_rfl) rfl hO hq4 0 rfl h fun _ h=>?_|refine Mq hE (kt:=9) (et:=4) (by kernel_rfl) (by kernel_rfl) OU Hp hO hq4 0 rfl h fun _ o9 H ho9 h hO=>?_)
 ·exact .e4 .z
 ·exact⟨ho2,hO⟩
 clear hx
 rcases s5 with y11|y13
 ·rintro e l H ⟨q12,hq12,rfl,rfl,hO⟩;cbv;cases h;exact hK hO .z
 rintro e l H ⟨q14,hq14,rfl,rfl,hO⟩;cbv;cases h;exact hK hO .z
def c194 (N:Nat):∀n aA r,An N n aA=some r→JY prog 194 (fun yv=>[(C9 aA),yv]) (List.map (fun(x:A0)=>[(C9 x)]) r) rbB:=by
 intro n
 induction n with
 |zero=>intro aA r h;cases h
 |succ n ih=>
 intro aA r h
 unfold An at h
 obtain⟨⟨w0,u0⟩,h1,hr⟩:=A7 h;clear h;have hr:=O8 hr;subst hr;have h:=h1;clear h1;refine V1 A8 J6 func194 (by rfl) (by kernel_rfl) call194 ntmps194 (by rfl) (fun _=>rfl) ?_;intro yv I D hI hD hy tl F E H K hE hO hK hKD
 have hO:B6 (I (List.map (fun(x:A0)=>[(C9 x)]) (w0++[])++tl)) F [] H:=by rw[append_nil];exact hO
 cbv;obtain⟨w1,h,he⟩:=Z4 h
 rw[he,append_assoc]at hO
 clear he;have hO:B6 (I ([(C9 aA)]::(List.map (fun(x:A0)=>[(C9 x)]) (w1++[])++tl))) F [] _:=hO;refine DF hE hI hD hy hO .z (fun H hO=>?_) (fun H hO=>?_)
 ·cbv;apply Ms hE (nt_eq _);cbv;apply G9 hE;cbv;obtain⟨w3,w4,s7,hx,h,he⟩:=U1 h
  rw[he,append_assoc]at hO
  clear he;refine MY A8 hE J6 (γ:=Unit) (fun s2 g=>[(1,.v (yv)),(12,.v (sr eBg8 aA.cT)),fi 13 (Ar.len aA.cT),fi 14 s2]) (fun s2 g w H1=>B6 (I (List.map (fun(x:A0)=>[(C9 x)]) w++tl)) F [] H1) (fun x e l w H1=>e= .exit 0∧l=[]∧B6 (I (List.map (fun(x:A0)=>[(C9 x)]) w++tl)) F [] H1) (fun e l H1=>(e= .ret∧l=[(4,.b false)]∧B6 D F [] H1)) (by kernel_rfl) ?_ (w':=w4++[]) () hx ?_ ?_ ?_ ?_
  ·rintro s2 _ w5 w6 H o hO h
   skip
   cbv;apply B7 hE h<;>intro _ h
   ·cbv;refine D8 hE eBh0 h fun x8 h=>?_;cbv;obtain⟨l9,hl,h⟩:=A7 h;obtain⟨w10,h,he⟩:=Z4 h
    rw[he,append_assoc]at hO
    clear he
    rw[List.map_append,append_assoc]at hO
    refine AB8 hE hI hD hy (ih x8 l9 hl) hO .z (fun v H hb hO=>?_) (fun v H hb hO=>?_)
    ·cases hb;clear hl;cbv;apply Ms hE (nt_eq _);cbv;obtain⟨hw,rfl⟩:=F9 h
     rw[←hw]at hO
     exact⟨_,(),rfl,.e4 .z,rfl,hO⟩
    cases hb;clear h hl;cbv;apply Mr hE (nt_eq _);cbv;exact .inr ⟨_,⟨rfl,rfl,hO⟩,.b rfl (.z),rfl⟩
   cbv;obtain⟨hw,rfl⟩:=F9 h
   rw[←hw]at hO
   exact .inl ⟨_,_,rfl,⟨rfl,rfl,hO⟩,.z,rfl⟩
  ·exact .e4 .z
  ·exact hO
  ·rintro e l H ⟨rfl,rfl,hO⟩;cbv;obtain⟨hw,_⟩:=F9 h
   rw[←hw]at hO
   exact hK _ _ _ hO rfl
  rintro e l H hX;obtain⟨rfl,rfl,hO⟩:=hX;clear h;cbv;exact hKD _ _ _ hO rfl
 clear h;cbv;apply Mr hE (nt_eq _);cbv;exact hKD _ _ _ hO rfl
def c193 (N aH r) (h:DW N aH=some r):JY prog 193 (fun yv=>[yv,.eref (E1 aH) 0]) (List.map (fun(x:A0)=>[(C9 x)]) r) rbN:=by
 obtain⟨⟨w0,u0⟩,h1,hr⟩:=A7 h;clear h;have hr:=O8 hr;subst hr;have h:=h1;clear h1;refine V1 A8 J6 func193 (by rfl) (by kernel_rfl) call193 ntmps193 (by rfl) (fun _=>rfl) ?_;intro yv I D hI hD hy tl F E H K hE hO hK hKD
 have hO:B6 (I (List.map (fun(x:A0)=>[(C9 x)]) (w0++[])++tl)) F [] H:=by rw[append_nil];exact hO
 cbv;obtain⟨l1,hl,h⟩:=A7 h;obtain⟨w2,h,he⟩:=Z4 h
 rw[he,append_assoc]at hO
 clear he
 rw[List.map_append,append_assoc]at hO
 refine AB8 hE hI hD hy (c194 N N aH l1 hl) hO .z (fun v H hb hO=>?_) (fun v H hb hO=>?_)
 ·cases hb;clear hl;cbv;obtain⟨hw,_⟩:=F9 h
  rw[←hw]at hO
  exact hK _ _ _ hO trivial
 cases hb;clear h hl;cbv;exact hKD _ _ _ hO trivial
def c156 (N aA r)(h:AA N aA=some r):Fg prog 156 [(C9 aA)] (fun v=>Jm prog v (r.map fun(x:A0)=>[(C9 x)])):=by
 refine Y0 A8 J6 func156 (by rfl) (by kernel_rfl) call156 ntmps156 (by rfl) (by rfl) ?_;intro E H0 K hE hK;have hO:B6 Eq H0 [] H0:=.start E0 rfl;cbv;exact hK _ _ _ hO (X8 call193 (c193 N aA r h))
def cf108:=cfC [5,6,7] [(11,5)] [(18,7)]
def c108 (N aA r) (h:Dw N aA=some r):C3 prog 108 [(C9 aA)] (.tup [vi r.1,vi r.2.1,.bool r.2.2]):=by
 refine N2 cf108 func108 call108 ntmps108 ?_;intro E H0 K hE hK hO;cbv;refine E5 hE hO fun b1 H hO=>?_;cbv;refine E5 hE hO fun b2 H hO=>?_;cbv;refine E5 hE hO fun b3 H hO=>?_;cbv;refine B9 hE hO 2 rfl rfl fun H hO=>?_;cbv;refine B9 hE hO 1 rfl rfl fun H hO=>?_;cbv;refine B9 hE hO 0 rfl rfl fun H hO=>?_;cbv;refine Ap hE h (c156 N aA) .z fun r4 v5 hv5 h=>?_;cbv;obtain⟨o10,hx,h⟩:=A7 h;refine DG cf108 hE J6 (ι:=Unit) (enc:=fun(x:A0)=>[(C9 x)]) (fun(s7:Bool×Int×Int) F H=>B6 Eq F [cb b3 [.bool s7.1],cb b2 [vi s7.2.1],cb b1 [vi s7.2.2]] H) (fun(r:Unit) e F H=>False) (fun i s7 y6=>[(5,.v (.ref b1 0)),(6,.v (.ref b2 0)),(7,.v (.ref b3 0)),(8,.v (.eref (E1 y6) 0))]) (fun i s7 y6 F H=>B6 Eq F [cb b3 [.bool s7.1],cb b2 [vi s7.2.1],cb b1 [vi s7.2.2]] H) (fun _=>B6.stable E0 _) (fun _ _=>⟨fun h=>h.elim,fun _ _ h=>h.elim⟩) (fun _ _ _=>B6.stable E0 _) hv5 hx (hO) (by decide) (fun _=>rfl) (by kernel_rfl) (by kernel_rfl) ?_ ?_ ?_ ?_
 ·rintro E i9 y6 s7 F8 H hE hO;clear hx h;cbv;exact⟨(),hO,.e4 .z,rfl⟩
 ·rintro E i9 _ y6 s7 F8 H o hE hF h hO;cbv;refine AB9 hE (g:=fun x=>(KV x)) (l:=M8) rfl (fun _=>rfl) rfl rfl h fun x11 h=>?_;cbv;obtain⟨s12,hx,h⟩:=A7 h;refine L5 cf108 hE J6 (fun e l H1=>e= .normal∧l=[(6,.v (.ref b2 0)),(7,.v (.ref b3 0)),(8,.v (.eref (E1 y6) 0)),(9,.v (.eref (GN x11) 0))]∧B6 Eq F8 [cb b3 [.bool s12.1],cb b2 [vi s7.2.1],cb b1 [vi s12.2]] H1) (by kernel_rfl) ?_ ?_
  ·clear h;have h:=hx
   repeat' (cbv;first|apply B7 hE h<;>intro _ h|apply D0 hE hO 0 rfl|apply D0 hE hO 2 rfl|refine B9 hE hO 0 rfl rfl fun H hO=>?_|refine B9 hE hO 2 rfl rfl fun H hO=>?_|(cases h;exact⟨_,⟨rfl,rfl,hO⟩,.e4 .z,rfl⟩))
  clear hx;rintro e l H ⟨rfl,rfl,hO⟩
  repeat' (cbv;first|apply B7 hE h<;>intro _ h|apply D0 hE hO 0 rfl|apply D0 hE hO 1 rfl|refine B9 hE hO 0 rfl rfl fun H hO=>?_|refine B9 hE hO 1 rfl rfl fun H hO=>?_|(cases h;exact⟨_,rfl,hO⟩))
 ·rintro d13 s15 H rfl hd hO;have hO:B6 Eq H0 [cb b3 [.bool s15.1],cb b2 [vi s15.2.1],cb b1 [vi s15.2.2],.blk d13 DB] H:=B6.dblk hd hO;clear hd;cbv;apply D0 hE hO 2 rfl;cbv;apply D0 hE hO 1 rfl;cbv;apply D0 hE hO 0 rfl;cbv;refine Er hE hO 3 rfl fun H hO=>?_;cbv;cases h;exact hK hO .z
 rintro d r e H rfl hd hO;exact hO.elim
def c158 (N:Nat):∀n aA r,Ao N n aA=some r→C3 prog 158 [(C9 aA)] (.tup [vi r.1,vi r.2]):=by
 intro n
 induction n with
 |zero=>intro aA r h;cases h
 |succ n ih=>
 intro aA r h
 unfold Ao at h
 refine N2 A8 func158 call158 ntmps158 ?_;intro E H0 K hE hK hO;cbv;apply G9 hE;cbv;obtain⟨s2,hx,h⟩:=A7 h;refine H5 A8 hE J6 (fun s1=>[fi 4 s1.1,fi 5 s1.2.1,(11,.v (sr eBg8 aA.cT)),fi 12 (Ar.len aA.cT),fi 13 s1.2.2]) (fun s1 H1=>B6 Eq H0 [] H1) (fun x e l H1=>e= .exit 0∧l=[fi 4 x.1,fi 5 x.2]∧B6 Eq H0 [] H1) (by kernel_rfl) ?_ hx ?_ hO ?_
 ·intro s1 H o hO h;cbv;apply B7 hE h<;>intro _ h
  ·cbv;refine D8 hE eBh0 h fun x3 h=>?_;cbv;refine A9 hE h (ih x3) .z fun r4 h=>?_;cbv;cases h;exact⟨_,rfl,.e rfl (.e4 .z),rfl,hO⟩
  cbv;cases h;exact⟨_,_,rfl,⟨rfl,rfl,hO⟩,.e2 .z,rfl⟩
 ·exact .e rfl (.e4 .z)
 clear hx;rintro e l H ⟨rfl,rfl,hO⟩;cbv;cases h;exact hK hO .z
def c114 (N:Nat):∀n aB r,Dq N n aB=some r→C3 prog 114 [(U9 aB)] (.tup [vi r.1,vi r.2]):=by
 intro n
 induction n with
 |zero=>intro aB r h;cases h
 |succ n ih=>
 intro aB r h
 unfold Dq at h
 refine N2 A8 func114 call114 ntmps114 ?_;intro E H0 K hE hK hO;cbv;apply G9 hE;cbv;obtain⟨s2,hx,h⟩:=A7 h;refine H5 A8 hE J6 (fun s1=>[fi 4 s1.1,fi 5 s1.2.1,(11,.v (sr eBh2 aB.cT)),fi 12 (Ar.len aB.cT),fi 13 s1.2.2]) (fun s1 H1=>B6 Eq H0 [] H1) (fun x e l H1=>e= .exit 0∧l=[fi 4 x.1,fi 5 x.2]∧B6 Eq H0 [] H1) (by kernel_rfl) ?_ hx ?_ hO ?_
 ·intro s1 H o hO h;cbv;apply B7 hE h<;>intro _ h
  ·cbv;refine D8 hE eBi0 h fun x3 h=>?_;cbv;refine A9 hE h (ih x3) .z fun r4 h=>?_;cbv;cases h;exact⟨_,rfl,.e rfl (.e4 .z),rfl,hO⟩
  cbv;cases h;exact⟨_,_,rfl,⟨rfl,rfl,hO⟩,.e2 .z,rfl⟩
 ·exact .e rfl (.e4 .z)
 clear hx;rintro e l H ⟨rfl,rfl,hO⟩;cbv;cases h;exact hK hO .z
def c115 (N:Nat):∀(n:Nat) (aB:B1) (aY:V) (aS:B1→Option Int) (bH:∀y1 q,aS y1=some q→AM prog aY [(U9 y1)] (vi q)) (r:Int),Ea N n aB aS=some r→C3 prog 115 [(U9 aB),aY] (vi r):=by
 intro n
 induction n with
 |zero=>intro aB aY aS bH r h;cases h
 |succ n ih=>
 intro aB aY aS bH r h
 unfold Ea at h
 refine N2 A8 func115 call115 ntmps115 ?_;intro E H0 K hE hK hO;cbv;refine DI hE (g:=fun r1=>vi r1) h (fun r1 hx=>bH aB r1 hx) .z fun r1 h=>?_;cbv;apply B7 hE h<;>intro _ h
 ·cbv;cases h;exact hK hO .z
 cbv;apply G9 hE;cbv;obtain⟨s3,hx,h⟩:=A7 h;refine H5 A8 hE J6 (fun s2=>[(1,.v (aY)),(16,.v (sr eBh2 aB.cT)),fi 17 (Ar.len aB.cT),fi 18 s2]) (fun s2 H1=>B6 Eq H0 [] H1) (fun x e l H1=>match(generalizing:=false) x with| .inl y=>e= .exit 0∧l=[]∧B6 Eq H0 [] H1| .inr y=>e= .ret∧l=[fi 4 y]∧B6 Eq H0 [] H1) (by kernel_rfl) ?_ hx ?_ hO ?_
 ·intro s2 H o hO h;cbv;apply B7 hE h<;>intro _ h
  ·cbv;refine D8 hE eBi0 h fun x4 h=>?_;cbv;refine A9 hE h (ih x4 aY aS bH) .z fun r5 h=>?_;cbv;apply B7 hE h<;>intro _ h
   ·cbv;cases h;exact⟨_,_,rfl,⟨rfl,rfl,hO⟩,.e rfl .z,rfl⟩
   cbv;cases h;exact⟨_,rfl,.e4 .z,rfl,hO⟩
  cbv;cases h;exact⟨_,_,rfl,⟨rfl,rfl,hO⟩,.z,rfl⟩
 ·exact .e4 .z
 clear hx
 rcases s3 with y6|y7
 ·rintro e l H ⟨rfl,rfl,hO⟩;cbv;cases h;exact hK hO .z
 rintro e l H ⟨rfl,rfl,hO⟩;cbv;cases h;exact hK hO .z
def c160 (N aI r)(h:KK N aI=some r):C3 prog 160 [vi aI] (.tup [vi r.1,.bool r.2]):=by
 refine N2 A8 func160 call160 ntmps160 ?_;intro E H0 K hE hK hO
 repeat' (cbv;first|apply B7 hE h<;>intro _ h|(cases h;exact hK hO .z))
def cf161:=cfC [] [] [(5,4)]
def c161 (N aI r) (h:Nc N aI=some r):C3 prog 161 [vi aI] (.tup [.bool r.1,.bool r.2]):=by
 refine N2 cf161 func161 call161 ntmps161 ?_;intro E H0 K hE hK hO;cbv;obtain⟨s1,hx,h⟩:=A7 h;refine L5 cf161 hE J6 (fun e l H1=>e= .normal∧l=[fi 4 aI,(5,.v (.bool s1))]∧B6 Eq H0 [] H1) (by kernel_rfl) ?_ ?_
 ·clear h;have h:=hx;cbv;apply B7 hE h<;>intro _ h
  ·cbv;cases h;exact⟨_,⟨rfl,rfl,hO⟩,.e2 .z,rfl⟩
  cbv;cases h;exact⟨_,⟨rfl,rfl,hO⟩,.e2 .z,rfl⟩
 clear hx;rintro e l H ⟨rfl,rfl,hO⟩
 repeat' (cbv;first|apply B7 hE h<;>intro _ h|(cases h;exact hK hO .z))
def c163 (N cC aN r)(h:HV N cC aN=some r):C3 prog 163 [vi cC,(MN aN)] (.bool r):=by
 refine N2 A8 func163 call163 ntmps163 ?_;intro E H0 K hE hK hO;cbv;cases h;exact hK hO .z
def c221 (N aN r)(h:Kg N aN=some r):C3 prog 221 [(MN aN)] (vi r):=by
 refine N2 A8 func221 call221 ntmps221 ?_;intro E H0 K hE hK hO
 repeat' (cbv;first|apply B7 hE h<;>intro _ h|(cases h;exact hK hO .z))
def cf197:=cfC [] [] [(5,5)]
def c197 (N aN r) (h:IG N aN=some r):C3 prog 197 [(MN aN)] (vi r):=by
 refine N2 cf197 func197 call197 ntmps197 ?_;intro E H0 K hE hK hO;cbv;obtain⟨s1,hx,h⟩:=A7 h;refine L5 cf197 hE J6 (fun e l H1=>e= .normal∧l=[(1,.v (.eref (Ak8 aN) 0)),fi 4 aN.Kind,(5,.v (.bool s1))]∧B6 Eq H0 [] H1) (by kernel_rfl) ?_ ?_
 ·clear h;have h:=hx;cbv;apply B7 hE h<;>intro _ h
  ·cbv;cases h;exact⟨_,⟨rfl,rfl,hO⟩,.e rfl (.e2 .z),rfl⟩
  cbv;cases h;exact⟨_,⟨rfl,rfl,hO⟩,.e rfl (.e2 .z),rfl⟩
 clear hx;rintro e l H ⟨rfl,rfl,hO⟩
 repeat' (cbv;first|apply B7 hE h<;>intro _ h|refine A9 hE h (c221 _ _) .z fun _ h=>?_|(cases h;exact hK hO .z))
def c162 (N aB r)(h:HW N aB=some r):C3 prog 162 [(U9 aB)] (vi r):=by
 refine N2 A8 func162 call162 ntmps162 ?_;intro E H0 K hE hK hO
 repeat' (cbv;first|apply B7 hE h<;>intro _ h|refine A9 hE h (c197 _ _) .z fun _ h=>?_|refine A9 hE h (c163 _ _ _) .z fun _ h=>?_|(cases h;exact hK hO .z))
def cf116:=cfC [] [] [(73,15)]
def c116 (N aB r) (h:JW N aB=some r):C3 prog 116 [(U9 aB)] (vi r):=by
 refine N2 cf116 func116 call116 ntmps116 ?_;intro E H0 K hE hK hO
 repeat' (cbv;first|apply B7 hE h<;>intro _ h|apply G9 hE|refine A9 hE h (c160 _ _) .z fun _ h=>?_|refine A9 hE h (c161 _ _) .z fun r2 h=>?_|(cases h;exact hK hO .z))
 cbv;obtain⟨s3,hx,h⟩:=A7 h;refine L5 cf116 hE J6 (fun e l H1=>match(generalizing:=false) s3 with| .inl y=>e= .normal∧l=[(1,.v (.eref (Aq aB) 0)),(5,.v (.bool r2.1)),(6,.v (.bool r2.2)),(7,.v (.bool (cmp .eql aB.Op 4))),(8,.v (.bool (Ar.or (cmp .eql aB.Op 4) (cmp .eql aB.Op 0))))]∧B6 Eq H0 [] H1| .inr y=>e= .ret∧l=[fi 2 y]∧B6 Eq H0 [] H1) (by kernel_rfl) ?_ ?_
 ·clear h;have h:=hx
  repeat' (cbv;first|apply B7 hE h<;>intro _ h|refine A9 hE h (c162 _ _) .z fun _ h=>?_|(cases h;exact⟨_,⟨rfl,rfl,hO⟩,.e rfl .z,rfl⟩)|(cases h;exact⟨_,⟨rfl,rfl,hO⟩,.e rfl (.e4 .z),rfl⟩))
 clear hx
 rcases s3 with y5|y6
 ·rintro e l H ⟨rfl,rfl,hO⟩;cbv;apply B7 hE h<;>intro _ h
  ·cbv;cases h;exact hK hO .z
  cbv;cases h;exact hK hO .z
 rintro e l H ⟨rfl,rfl,hO⟩;cbv;cases h;exact hK hO .z
def c75 (N aB r)(h:HX N aB=some r):C3 prog 75 [(U9 aB)] (vi r):=by
 refine N2 A8 func75 call75 ntmps75 ?_;intro E H0 K hE hK hO
 repeat' (cbv;first|apply B7 hE h<;>intro _ h|refine A9 hE h (c114 _ _ _) .z fun _ h=>?_|refine A9 hE (g:=fun r2=>vi r2) h (fun r2 hx=>c115 N N aB (.func (.func 116) [] []) (fun y1=>JW N y1) (fun y1 r hx=>C3.value (F:=[]) (C:=[]) (c116 N y1 r hx)) r2 hx) .z fun r2 h=>?_|(cases h;exact hK hO .z))
def cf188:=cfB [] [(6,10)]
def c188 (N:Nat):∀n aD aE r,BM N n aD aE=some r→C3 prog 188 [(U9 aD),(U9 aE)] (.bool r):=by
 intro n
 induction n with
 |zero=>intro aD aE r h;cases h
 |succ n ih=>
 intro aD aE r h
 unfold BM at h
 refine N2 cf188 func188 call188 ntmps188 ?_;intro E H0 K hE hK hO
 repeat' (cbv;first|apply B7 hE h<;>intro _ h|apply G9 hE|(cases h;exact hK hO .z))
 cbv;obtain⟨s2,hx,h⟩:=A7 h;refine H5 cf188 hE J6 (fun s1=>[(2,.v (.eref (Aq aD) 0)),(3,.v (.eref (Aq aE) 0)),fi 50 (Ar.len aD.cT),fi 51 s1]) (fun s1 H1=>B6 Eq H0 [] H1) (fun x e l H1=>match(generalizing:=false) x with| .inl y=>e= .exit 0∧l=[]∧B6 Eq H0 [] H1| .inr y=>e= .ret∧l=[(4,.b false)]∧B6 Eq H0 [] H1) (by kernel_rfl) ?_ hx ?_ hO ?_
 ·intro s1 H o hO h
  repeat' (cbv;first|apply B7 hE h<;>intro _ h|refine A9 hE h (ih _ _) .z fun _ h=>?_|refine D8 hE eBi0 h fun _ h=>?_|(cases h;exact⟨_,_,rfl,⟨rfl,rfl,hO⟩,.b rfl (.z),rfl⟩)|(cases h;exact⟨_,rfl,.e4 .z,rfl,hO⟩)|(cases h;exact⟨_,_,rfl,⟨rfl,rfl,hO⟩,.z,rfl⟩))
 ·exact .e4 .z
 clear hx
 rcases s2 with y6|y7
 ·rintro e l H ⟨rfl,rfl,hO⟩;cbv;cases h;exact hK hO .z
 rintro e l H ⟨rfl,rfl,hO⟩;cbv;cases h;exact hK hO .z
def c195 (N bF aK bN r)(h:AG N bF aK bN=some r):C3 prog 195 [.bool bF,vi aK,vi bN] (.bool r):=by
 refine N2 A8 func195 call195 ntmps195 ?_;intro E H0 K hE hK hO;cbv;cases h;exact hK hO .z
def c196 (N bF aK r)(h:T6 N bF aK=some r):C3 prog 196 [.bool bF,vi aK] (.bool r):=by
 refine N2 A8 func196 call196 ntmps196 ?_;intro E H0 K hE hK hO;cbv;cases h;exact hK hO .z
def cf159:=cfC [] [] [(64,10)]
def c159 (N aA r) (h:Au N aA=some r):C3 prog 159 [(C9 aA)] (vi r):=by
 refine N2 cf159 func159 call159 ntmps159 ?_;intro E H0 K hE hK hO
 repeat' (cbv;first|apply B7 hE h<;>intro _ h|apply G9 hE|refine A9 hE h (c195 _ _ _ _) .z fun _ h=>?_|(cases h;exact hK hO .z)|refine AB9 hE (g:=fun x=>(KV x)) (l:=M8) rfl (fun _=>rfl) rfl rfl h fun x1 h=>?_)
 cbv;obtain⟨s6,hx,h⟩:=A7 h;refine L5 cf159 hE J6 (fun e l H1=>match(generalizing:=false) s6 with| .inl y=>e= .normal∧l=[(1,.v (.eref (E1 aA) 0)),(3,.v (.eref (GN x1) 0))]∧B6 Eq H0 [] H1| .inr y=>e= .ret∧l=[fi 2 y]∧B6 Eq H0 [] H1) (by kernel_rfl) ?_ ?_
 ·clear h;have h:=hx
  repeat' (cbv;first|apply B7 hE h<;>intro _ h|refine A9 hE h (c75 _ _) .z fun _ h=>?_|(cases h;exact⟨_,⟨rfl,rfl,hO⟩,.e rfl .z,rfl⟩)|(cases h;exact⟨_,⟨rfl,rfl,hO⟩,.e2 .z,rfl⟩))
 clear hx
 rcases s6 with y8|y18
 ·rintro e l H ⟨rfl,rfl,hO⟩
  repeat' (cbv;first|apply B7 hE h<;>intro _ h|refine A9 hE h (c188 _ _ _ _) (.r (.cons (.agg (.r (.cons (.lit _ (B5)) .z))) .z)) fun _ h=>?_|refine A9 hE h (c196 _ _ _) .z fun _ h=>?_|(cases h;exact hK hO .z))
 rintro e l H ⟨rfl,rfl,hO⟩;cbv;cases h;exact hK hO .z
def cf112:=cfA [2]
def c112 (N aA r) (h:M3 N aA=some r):C3 prog 112 [(C9 aA)] (vi r):=by
 refine N2 cf112 func112 call112 ntmps112 ?_;intro E H0 K hE hK hO
 repeat' (cbv;first|apply B7 hE h<;>intro _ h|refine A9 hE h (c158 _ _ _) .z fun _ h=>?_|refine Ap hE h (c156 _ _) .z fun _ _ hv4 h=>?_|apply D0 hE hO 0 rfl|refine B9 hE hO 0 rfl rfl fun H hO=>?_|refine E5 hE hO fun b1 H hO=>?_|(cases h;exact hK hO .z))
 cbv;obtain⟨o9,hx,h⟩:=A7 h;refine DG cf112 hE J6 (ι:=Unit) (enc:=fun(x:A0)=>[(C9 x)]) (fun(s6:Unit) F H=>B6 Eq F [cb b1 [vi 0]] H) (fun(r:Int) e F H=>e= .ret∧B6 Eq F [cb b1 [vi r]] H) (fun i s6 y5=>[(2,.v (.ref b1 0)),(5,.v (.eref (E1 y5) 0))]) (fun i s6 y5 F H=>B6 Eq F [cb b1 [vi 0]] H) (fun _=>B6.stable E0 _) (fun _ _=>G5.con (B6.stable E0 _)) (fun _ _ _=>B6.stable E0 _) hv4 hx (hO) (by decide) (fun _=>rfl) (by kernel_rfl) (by kernel_rfl) ?_ ?_ ?_ ?_
 ·rintro E i8 y5 s6 F7 H hE hO;clear hx h;cbv;exact⟨(),hO,.e2 .z,rfl⟩
 ·rintro E i8 _ y5 s6 F7 H o hE hF h hO;cbv;refine A9 hE h (c159 N y5) .z fun r10 h=>?_;cbv;apply B7 hE h<;>intro _ h
  ·cbv;refine B9 hE hO 0 rfl rfl fun H hO=>?_;cbv;cases h;exact⟨_,rfl,rfl,⟨rfl,hO⟩⟩
  cbv;cases h;exact⟨_,rfl,hO⟩
 ·rintro d11 s13 H rfl hd hO;have hO:B6 Eq H0 [cb b1 [vi 0],.blk d11 DB] H:=B6.dblk hd hO;clear hd;cbv;refine B9 hE hO 0 rfl rfl fun H hO=>?_;cbv;refine Er hE hO 1 rfl fun H hO=>?_;cbv;apply D0 hE hO 0 rfl;cbv;cases h;exact hK hO .z
 rintro d11 y14 e H rfl hd hX
 rcases hX with⟨rfl,hO⟩
 have hO:B6 Eq H0 [cb b1 [vi y14],.blk d11 DB] H:=B6.dblk hd hO;clear hd;cbv;refine Er hE hO 1 rfl fun H hO=>?_;cbv;apply D0 hE hO 0 rfl;cbv;cases h;exact hK hO .z
def cf149:=cfA [2]
def c149 (N aA r) (h:FW N aA=some r):C3 prog 149 [(C9 aA)] (vi r):=by
 refine N2 cf149 func149 call149 ntmps149 ?_;intro E H0 K hE hK hO
 repeat' (cbv;first|apply B7 hE h<;>intro _ h|refine A9 hE h (c112 _ _) .z fun _ h=>?_|refine Ap hE h (c156 _ _) .z fun _ _ hv4 h=>?_|apply D0 hE hO 0 rfl|refine B9 hE hO 0 rfl rfl fun H hO=>?_|refine E5 hE hO fun b1 H hO=>?_|(cases h;exact hK hO .z))
 cbv;obtain⟨o9,hx,h⟩:=A7 h;refine DG cf149 hE J6 (ι:=Unit) (enc:=fun(x:A0)=>[(C9 x)]) (fun(s6:Unit) F H=>B6 Eq F [cb b1 [vi 0]] H) (fun(r:Int) e F H=>e= .ret∧B6 Eq F [cb b1 [vi r]] H) (fun i s6 y5=>[(2,.v (.ref b1 0)),(4,.v (.eref (E1 y5) 0))]) (fun i s6 y5 F H=>B6 Eq F [cb b1 [vi 0]] H) (fun _=>B6.stable E0 _) (fun _ _=>G5.con (B6.stable E0 _)) (fun _ _ _=>B6.stable E0 _) hv4 hx (hO) (by decide) (fun _=>rfl) (by kernel_rfl) (by kernel_rfl) ?_ ?_ ?_ ?_
 ·rintro E i8 y5 s6 F7 H hE hO;clear hx h;cbv;exact⟨(),hO,.e2 .z,rfl⟩
 ·rintro E i8 _ y5 s6 F7 H o hE hF h hO;cbv;apply B7 hE h<;>intro _ h
  ·cbv;refine B9 hE hO 0 rfl rfl fun H hO=>?_;cbv;cases h;exact⟨_,rfl,rfl,⟨rfl,hO⟩⟩
  cbv;cases h;exact⟨_,rfl,hO⟩
 ·rintro d10 s12 H rfl hd hO;have hO:B6 Eq H0 [cb b1 [vi 0],.blk d10 DB] H:=B6.dblk hd hO;clear hd;cbv;refine B9 hE hO 0 rfl rfl fun H hO=>?_;cbv;refine Er hE hO 1 rfl fun H hO=>?_;cbv;apply D0 hE hO 0 rfl;cbv;cases h;exact hK hO .z
 rintro d10 y13 e H rfl hd hX
 rcases hX with⟨rfl,hO⟩
 have hO:B6 Eq H0 [cb b1 [vi y13],.blk d10 DB] H:=B6.dblk hd hO;clear hd;cbv;refine Er hE hO 1 rfl fun H hO=>?_;cbv;apply D0 hE hO 0 rfl;cbv;cases h;exact hK hO .z
def c105 (N aA r)(h:Dx N aA=some r):C3 prog 105 [(C9 aA)] (vi r):=by
 refine N2 A8 func105 call105 ntmps105 ?_;intro E H0 K hE hK hO
 repeat' (cbv;first|apply B7 hE h<;>intro _ h|refine A9 hE h (c149 _ _) .z fun _ h=>?_|refine A9 hE h (c108 _ _) .z fun _ h=>?_|(cases h;exact hK hO .z))
def c74 (N:Nat) (aC:List A0) (aY:V) (aS:A0→Option Bool) (bH:∀y1 q,aS y1=some q→AM prog aY [(C9 y1)] (.bool q)) (r:Int) (h:H8 N aC aS=some r):C3 prog 74 [sr eBg8 aC,aY] (vi r):=by
 refine N2 A8 func74 call74 ntmps74 ?_;intro E H0 K hE hK hO;cbv;apply G9 hE;cbv;obtain⟨s2,hx,h⟩:=A7 h;refine H5 A8 hE J6 (fun s1=>[(0,.v (sr eBg8 aC)),(1,.v (aY)),fi 7 (Ar.len aC),fi 8 s1]) (fun s1 H1=>B6 Eq H0 [] H1) (fun x e l H1=>match(generalizing:=false) x with| .inl y=>e= .exit 0∧l=[]∧B6 Eq H0 [] H1| .inr y=>e= .ret∧l=[fi 4 y]∧B6 Eq H0 [] H1) (by kernel_rfl) ?_ hx ?_ hO ?_
 ·intro s1 H o hO h
  repeat' (cbv;first|apply B7 hE h<;>intro _ h|refine DI hE (g:=fun r4=>.bool r4) h (fun r4 hx=>bH x3 r4 hx) .z fun r4 h=>?_|refine D8 hE eBh0 h fun x3 h=>?_|(cases h;exact⟨_,_,rfl,⟨rfl,rfl,hO⟩,.e rfl .z,rfl⟩)|(cases h;exact⟨_,rfl,.e4 .z,rfl,hO⟩)|(cases h;exact⟨_,_,rfl,⟨rfl,rfl,hO⟩,.z,rfl⟩))
 ·exact .e4 .z
 clear hx
 rcases s2 with y5|y6
 ·rintro e l H ⟨rfl,rfl,hO⟩;cbv;cases h;exact hK hO .z
 rintro e l H ⟨rfl,rfl,hO⟩;cbv;cases h;exact hK hO .z
def cf192:=cfA [8]
def c192 (N:Nat) (aT:List A0) (aW:List A0) (bX:V) (bO:A0→A0→Option Bool) (cO:∀y1 y2 q,bO y1 y2=some q→AM prog bX [(C9 y1),(C9 y2)] (.bool q)) (r:Bool) (h:M9 N aT aW bO=some r):C3 prog 192 [sr eBg8 aT,sr eBg8 aW,bX] (.bool r):=by
 refine N2 cf192 func192 call192 ntmps192 ?_;intro E H0 K hE hK hO
 repeat' (cbv;first|apply B7 hE h<;>intro _ h|apply G9 hE|(cases h;exact hK hO .z))
 cbv;obtain⟨s2,hx,h⟩:=A7 h;refine H5 cf192 hE J6 (fun s1=>[(1,.v (sr eBg8 aW)),(2,.v (bX)),(15,.v (sr eBg8 aT)),fi 16 (Ar.len aT),fi 17 s1]) (fun s1 H1=>B6 Eq H0 [] H1) (fun x e l H1=>match(generalizing:=false) x with| .inl y=>e= .exit 0∧l=[]∧B6 Eq H0 [] H1| .inr y=>e= .ret∧l=[(6,.b false)]∧B6 Eq H0 [] H1) (by kernel_rfl) ?_ hx ?_ hO ?_
 ·intro s1 H o hO h;cbv;apply B7 hE h<;>intro _ h
  ·cbv;refine D8 hE eBh0 h fun x3 h=>?_
   repeat' (cbv;first|apply B7 hE h<;>intro _ h|refine DI hE (g:=fun r6=>.bool r6) h (fun r6 hx=>cO x3 x5 r6 hx) .z fun r6 h=>?_|refine D8 hE eBh0 h fun x5 h=>?_|apply D0 hE hO 0 rfl|refine B9 hE hO 0 rfl rfl fun H hO=>?_|refine E5 hE hO fun _ H hO=>?_|(cases h;exact⟨_,_,rfl,⟨rfl,rfl,hO.tail⟩,.b rfl (.z),rfl⟩)|(cases h;exact⟨_,rfl,.e rfl (.e4 .z),rfl,hO.tail⟩))
  cbv;cases h;exact⟨_,_,rfl,⟨rfl,rfl,hO⟩,.z,rfl⟩
 ·exact .e rfl (.e4 .z)
 clear hx
 rcases s2 with y7|y8
 ·rintro e l H ⟨rfl,rfl,hO⟩;cbv;cases h;exact hK hO .z
 rintro e l H ⟨rfl,rfl,hO⟩;cbv;cases h;exact hK hO .z
def c155 (N:Nat):∀n aD aE r,AZ N n aD aE=some r→C3 prog 155 [(C9 aD),(C9 aE)] (.bool r):=by
 intro n
 induction n with
 |zero=>intro aD aE r h;cases h
 |succ n ih=>
 intro aD aE r h
 unfold AZ at h
 refine N2 A8 func155 call155 ntmps155 ?_;intro E H0 K hE hK hO
 repeat' (cbv;first|apply B7 hE h<;>intro _ h|refine A9 hE h (c188 _ _ _ _) .z fun _ h=>?_|refine A9 hE (g:=fun r2=>.bool r2) h (fun r2 hx=>c192 N aD.cT aE.cT (.func (.func 155) [] []) (fun y1 y2=>AZ N n y1 y2) (fun y1 y2 r hx=>C3.value (F:=[]) (C:=[]) (ih y1 y2 r hx)) r2 hx) .z fun r2 h=>?_|(cases h;exact hK hO .z))
def c154 (N bJ aH r)(h:Ck N bJ aH=some r):C3 prog 154 [(C9 bJ),.eref (E1 aH) 0] (.bool r):=by
 refine N2 A8 func154 call154 ntmps154 ?_;intro E H0 K hE hK hO;cbv;refine A9 hE h (c155 N N aH bJ) .z fun r1 h=>?_;cbv;cases h;exact hK hO .z
def c107 (N aF aA r)(h:M2 N aF aA=some r):C3 prog 107 [sr eBg8 aF,(C9 aA)] (vi r):=by
 refine N2 A8 func107 call107 ntmps107 ?_;intro E H0 K hE hK hO;cbv;refine A9 hE (g:=fun r1=>vi r1) h (fun r1 hx=>c74 N aF (.func (.func 154) [] [.eref (E1 aA) 0]) (fun y1=>Ck N y1 aA) (fun y1 r hx=>C3.value (F:=[]) (C:=[.eref (E1 aA) 0]) (c154 N y1 aA r hx)) r1 hx) .z fun r1 h=>?_;cbv;cases h;exact hK hO .z
def c183 (N aH r) (h:Eb N aH=some r):JY prog 183 (fun yv=>[yv,.eref (E1 aH) 0]) (List.map (fun(x:(C4×A6))=>[(K1 x.1),(C2 x.2)]) r) rbN:=by
 obtain⟨⟨w0,u0⟩,h1,hr⟩:=A7 h;clear h;have hr:=O8 hr;subst hr;have h:=h1;clear h1;refine V1 A8 J6 func183 (by rfl) (by kernel_rfl) call183 ntmps183 (by rfl) (fun _=>rfl) ?_;intro yv I D hI hD hy tl F E H K hE hO hK hKD
 have hO:B6 (I (List.map (fun(x:(C4×A6))=>[(K1 x.1),(C2 x.2)]) (w0++[])++tl)) F [] H:=by rw[append_nil];exact hO
 cbv;obtain⟨w1,h,he⟩:=Z4 h
 rw[he,append_assoc]at hO
 clear he;have hO:B6 (I ([.agg [vi 0,vi 0,vi aH.Var,vi aH.Typ,vi aH.cU.Op,sr eBh2 aH.cU.cT,vi aH.cU.Var,vi aH.cU.Field,vi aH.cU.Kind,vi aH.cU.Value.Kind,vi aH.cU.Value.Num,.str aH.cU.Value.Text,sr (V.int .i64) ([]),sr (V.int .i64) ([]),sr eBh2 ([]),sr eBi1 ([]),sr (V.int .i64) ([])],.agg [.bool true,vi 0,sr eBg8 ([]),vi 0,vi 0,vi 0,vi 0,vi 0,sr eBh2 ([]),vi 0,vi 0,vi 0,vi 0,vi 0,.str (⟨#[]⟩)]]::(List.map (fun(x:(C4×A6))=>[(K1 x.1),(C2 x.2)]) (w1++[])++tl))) F [] _:=hO;refine DF hE hI hD hy hO (.cons (.agg (.r (.r (.r (.r (.r (.r (.r (.r (.r (.r (.r (.r (.cons (.lit _ (B5)) (.cons (.lit _ (B5)) (.cons (.lit _ (B5)) (.cons (.lit _ (B5)) (.cons (.lit _ (B5)) .z)))))))))))))))))) (.cons (.agg (.r (.r (.cons (.lit _ (B5)) (.r (.r (.r (.r (.r (.cons (.lit _ (B5)) .z)))))))))) .z)) (fun H hO=>?_) (fun H hO=>?_)
 ·cbv;obtain⟨hw,_⟩:=F9 h
  rw[←hw]at hO
  exact hK _ _ _ hO trivial
 clear h;cbv;exact hKD _ _ _ hO trivial
def cf230:=cfA [7]
def c230 (N aC r)(h:P6 N aC=some r):PB prog 230 [sr eBg8 aC] 14 (lst eBg8 r):=by
 intro H0;refine Dr (T:=TT) cf230 J6 func230 (by rfl) (by kernel_rfl) call230 ntmps230 (by rfl) (by rfl) ?_;intro E K hE hK hN;have hO:B6 Eq H0 [] H0:=.start E0 rfl;cbv;refine AB6 hE rfl (fun hx=>?_) ?_
 ·cbv;exact hN (Zg hx h) [] H0 hO
 cbv;refine Ai0 (f:=eBg8) hE N3 (by decide) hO (.inr rfl) (m:=aC) (Ct (f:=eBg8) hE N3 .z) h fun l q H hq hO h=>?_;cbv;cases h;exact hK q _ _ (AN hE hq) hO
end Go.Ab
