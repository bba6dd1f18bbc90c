/- . -/
import Derived.Test.YtjhobbohibnioaaGreatDoorG10
import Derived.Shelf.Strconv.Itoa1
import Derived.Shelf.Sort.Plain
import Derived.Shelf.Slices.CompactI
import Derived.Shelf.SlSortCmp.NoneTotal
import Derived.Test.YtjhobbohibnioaaGreatDoorProg
import Derived.KernelRfl
set_option linter.all false
/- The shelf laid at this program: plain. -/
open List (append_assoc)
open Go.Ab.Ar (cmp nt_eq)
namespace Go.Proofs
open Go.Shelf
set_option maxRecDepth 100000
def Tryz.laysNm189_ren:Ren:=
{
  f :=fun x=>
    match x with
    |189=>297
    |125=>125
    |257=>332
    |128=>167
    |129=>168
    |294=>348
    |295=>349
    |296=>350
    |297=>351
    |298=>352
    |299=>353
    |216=>354
    |300=>355
    |301=>356
    |328=>373
    |329=>220
    |330=>221
    |331=>374
    |332=>375
    |215=>131
    |343=>389
    |n=>n,
  t :=fun x=>
    match x with
    |28=>181
    |3=>3
    |46=>173
    |0=>0
    |51=>230
    |53=>232
    |4=>4
    |183=>224
    |182=>223
    |131=>127
    |5=>5
    |9=>9
    |218=>272
    |222=>276
    |228=>307
    |229=>187
    |n=>n,
  g :=fun x=>
    x}
def Tryz.laysNm189:Lays.n189 Tryz.prog Tryz.laysNm189_ren:=
{ mixed :=(by kernel_rfl),f125:=Eq.trans Tryz.func125 (congrArg some (by kernel_rfl)),
  f128:=Eq.trans Tryz.func167 (congrArg some (by kernel_rfl)),
  f129:=Eq.trans Tryz.func168 (congrArg some (by kernel_rfl)),
  f189:=Eq.trans Tryz.func297 (congrArg some (by kernel_rfl)),
  f215:=Eq.trans Tryz.func131 (congrArg some (by kernel_rfl)),
  f216:=Eq.trans Tryz.func354 (congrArg some (by kernel_rfl)),
  f257:=Eq.trans Tryz.func332 (congrArg some (by kernel_rfl)),
  f294:=Eq.trans Tryz.func348 (congrArg some (by kernel_rfl)),
  f295:=Eq.trans Tryz.func349 (congrArg some (by kernel_rfl)),
  f296:=Eq.trans Tryz.func350 (congrArg some (by kernel_rfl)),
  f297:=Eq.trans Tryz.func351 (congrArg some (by kernel_rfl)),
  f298:=Eq.trans Tryz.func352 (congrArg some (by kernel_rfl)),
  f299:=Eq.trans Tryz.func353 (congrArg some (by kernel_rfl)),
  f300:=Eq.trans Tryz.func355 (congrArg some (by kernel_rfl)),
  f301:=Eq.trans Tryz.func356 (congrArg some (by kernel_rfl)),
  f328:=Eq.trans Tryz.func373 (congrArg some (by kernel_rfl)),
  f329:=Eq.trans Tryz.func220 (congrArg some (by kernel_rfl)),
  f330:=Eq.trans Tryz.func221 (congrArg some (by kernel_rfl)),
  f331:=Eq.trans Tryz.func374 (congrArg some (by kernel_rfl)),
  f332:=Eq.trans Tryz.func375 (congrArg some (by kernel_rfl)),
  f343:=Eq.trans Tryz.func389 (congrArg some (by kernel_rfl)),t0:=Tryz.underlying0,
  a0:=Tryz.isAgg0,z0:=Tryz.sizeOf0,v0:=Tryz.zeroValue0,t3:=Tryz.underlying3,a3:=Tryz.isAgg3,
  z3:=Tryz.sizeOf3,v3:=Tryz.zeroValue3,t4:=Tryz.underlying4,a4:=Tryz.isAgg4,z4:=Tryz.sizeOf4,
  v4:=Tryz.zeroValue4,t5:=Tryz.underlying5,a5:=Tryz.isAgg5,z5:=Tryz.sizeOf5,v5:=Tryz.zeroValue5,
  t9:=Tryz.underlying9,a9:=Tryz.isAgg9,z9:=Tryz.sizeOf9,v9:=Tryz.zeroValue9,t28:=Tryz.underlying181,
  a28:=Tryz.isAgg181,z28:=Tryz.sizeOf181,v28:=Tryz.zeroValue181,t46:=Tryz.underlying173,
  a46:=Tryz.isAgg173,z46:=Tryz.sizeOf173,v46:=Tryz.zeroValue173,t51:=Tryz.underlying230,
  a51:=Tryz.isAgg230,z51:=Tryz.sizeOf230,v51:=Tryz.zeroValue230,t53:=Tryz.underlying232,
  a53:=Tryz.isAgg232,z53:=Tryz.sizeOf232,v53:=Tryz.zeroValue232,t131:=Tryz.underlying127,
  a131:=Tryz.isAgg127,z131:=Tryz.sizeOf127,v131:=Tryz.zeroValue127,t182:=Tryz.underlying223,
  a182:=Tryz.isAgg223,z182:=Tryz.sizeOf223,v182:=Tryz.zeroValue223,t183:=Tryz.underlying224,
  a183:=Tryz.isAgg224,z183:=Tryz.sizeOf224,v183:=Tryz.zeroValue224,t218:=Tryz.underlying272,
  a218:=Tryz.isAgg272,z218:=Tryz.sizeOf272,v218:=Tryz.zeroValue272,t222:=Tryz.underlying276,
  a222:=Tryz.isAgg276,z222:=Tryz.sizeOf276,v222:=Tryz.zeroValue276,t228:=Tryz.underlying307,
  a228:=Tryz.isAgg307,z228:=Tryz.sizeOf307,v228:=Tryz.zeroValue307,t229:=Tryz.underlying187,
  a229:=Tryz.isAgg187,z229:=Tryz.sizeOf187,v229:=Tryz.zeroValue187}
def Tryz.laysNm220_ren:Ren:=
{
  f :=fun x=>
    match x with
    |20=>298
    |n=>n,
  t :=fun x=>
    match x with
    |22=>181
    |3=>3
    |4=>4
    |0=>0
    |n=>n,
  g :=fun x=>
    x}
def Tryz.laysNm220:Lays2.n20 Tryz.prog Tryz.laysNm220_ren:=
{ mixed :=(by kernel_rfl),f20:=Eq.trans Tryz.func298 (congrArg some (by kernel_rfl)),
  t0:=Tryz.underlying0,a0:=Tryz.isAgg0,z0:=Tryz.sizeOf0,v0:=Tryz.zeroValue0,t3:=Tryz.underlying3,
  a3:=Tryz.isAgg3,z3:=Tryz.sizeOf3,v3:=Tryz.zeroValue3,t4:=Tryz.underlying4,a4:=Tryz.isAgg4,
  z4:=Tryz.sizeOf4,v4:=Tryz.zeroValue4,t22:=Tryz.underlying181,a22:=Tryz.isAgg181,z22:=Tryz.sizeOf181,
  v22:=Tryz.zeroValue181,i3:=Eq.refl (some (some (Value.int IntKind.i64 0),1,8))}
def Tryz.laysSlsf6_58_ren:Ren:=
{
  f :=fun x=>
    match x with
    |6=>58
    |15=>125
    |14=>124
    |28=>167
    |29=>168
    |20=>159
    |21=>160
    |22=>161
    |23=>162
    |24=>163
    |25=>164
    |26=>165
    |27=>166
    |46=>219
    |47=>220
    |48=>221
    |49=>222
    |50=>223
    |57=>263
    |n=>n,
  t :=fun x=>
    match x with
    |22=>37
    |24=>46
    |25=>53
    |3=>3
    |39=>173
    |0=>0
    |53=>230
    |55=>232
    |4=>4
    |46=>224
    |45=>223
    |50=>127
    |5=>5
    |9=>9
    |66=>272
    |70=>276
    |76=>307
    |77=>187
    |n=>n,
  g :=fun x=>
    x}
def Tryz.laysSlsf6_58:SlLaysF0.n6 Tryz.prog Tryz.laysSlsf6_58_ren:=
{ mixed :=(by kernel_rfl),
  f6 :=
    Exists.intro "slices.SortFunc[[]tidegate/api.Derivation,tidegate/api.Derivation]"
      ⟨of_decide_eq_true (id ((by kernel_rfl))),
        Eq.trans Tryz.func58
          (congrArg some (by kernel_rfl))⟩,
  f14 :=
    Exists.intro "slices.pdqsortCmpFunc[tidegate/api.Derivation]"
      ⟨of_decide_eq_true (id ((by kernel_rfl))),
        Eq.trans Tryz.func124
          (congrArg some (by kernel_rfl))⟩,
  f15:=Eq.trans Tryz.func125 (congrArg some (by kernel_rfl)),
  f20 :=
    Exists.intro "slices.insertionSortCmpFunc[tidegate/api.Derivation]"
      ⟨of_decide_eq_true (id ((by kernel_rfl))),
        Eq.trans Tryz.func159
          (congrArg some (by kernel_rfl))⟩,
  f21 :=
    Exists.intro "slices.heapSortCmpFunc[tidegate/api.Derivation]"
      ⟨of_decide_eq_true (id ((by kernel_rfl))),
        Eq.trans Tryz.func160
          (congrArg some (by kernel_rfl))⟩,
  f22 :=
    Exists.intro "slices.breakPatternsCmpFunc[tidegate/api.Derivation]"
      ⟨of_decide_eq_true (id ((by kernel_rfl))),
        Eq.trans Tryz.func161
          (congrArg some (by kernel_rfl))⟩,
  f23 :=
    Exists.intro "slices.choosePivotCmpFunc[tidegate/api.Derivation]"
      ⟨of_decide_eq_true (id ((by kernel_rfl))),
        Eq.trans Tryz.func162
          (congrArg some (by kernel_rfl))⟩,
  f24 :=
    Exists.intro "slices.reverseRangeCmpFunc[tidegate/api.Derivation]"
      ⟨of_decide_eq_true (id ((by kernel_rfl))),
        Eq.trans Tryz.func163
          (congrArg some (by kernel_rfl))⟩,
  f25 :=
    Exists.intro "slices.partialInsertionSortCmpFunc[tidegate/api.Derivation]"
      ⟨of_decide_eq_true (id ((by kernel_rfl))),
        Eq.trans Tryz.func164
          (congrArg some (by kernel_rfl))⟩,
  f26 :=
    Exists.intro "slices.partitionEqualCmpFunc[tidegate/api.Derivation]"
      ⟨of_decide_eq_true (id ((by kernel_rfl))),
        Eq.trans Tryz.func165
          (congrArg some (by kernel_rfl))⟩,
  f27 :=
    Exists.intro "slices.partitionCmpFunc[tidegate/api.Derivation]"
      ⟨of_decide_eq_true (id ((by kernel_rfl))),
        Eq.trans Tryz.func166
          (congrArg some (by kernel_rfl))⟩,
  f28:=Eq.trans Tryz.func167 (congrArg some (by kernel_rfl)),
  f29:=Eq.trans Tryz.func168 (congrArg some (by kernel_rfl)),
  f46 :=
    Exists.intro "slices.siftDownCmpFunc[tidegate/api.Derivation]"
      ⟨of_decide_eq_true (id ((by kernel_rfl))),
        Eq.trans Tryz.func219
          (congrArg some (by kernel_rfl))⟩,
  f47:=Eq.trans Tryz.func220 (congrArg some (by kernel_rfl)),
  f48:=Eq.trans Tryz.func221 (congrArg some (by kernel_rfl)),
  f49 :=
    Exists.intro "slices.medianAdjacentCmpFunc[tidegate/api.Derivation]"
      ⟨of_decide_eq_true (id ((by kernel_rfl))),
        Eq.trans Tryz.func222
          (congrArg some (by kernel_rfl))⟩,
  f50 :=
    Exists.intro "slices.medianCmpFunc[tidegate/api.Derivation]"
      ⟨of_decide_eq_true (id ((by kernel_rfl))),
        Eq.trans Tryz.func223
          (congrArg some (by kernel_rfl))⟩,
  f57 :=
    Exists.intro "slices.order2CmpFunc[tidegate/api.Derivation]"
      ⟨of_decide_eq_true (id ((by kernel_rfl))),
        Eq.trans Tryz.func263
          (congrArg some (by kernel_rfl))⟩,
  t0:=Tryz.underlying0,a0:=Tryz.isAgg0,z0:=Tryz.sizeOf0,v0:=Tryz.zeroValue0,t3:=Tryz.underlying3,
  a3:=Tryz.isAgg3,z3:=Tryz.sizeOf3,v3:=Tryz.zeroValue3,t4:=Tryz.underlying4,a4:=Tryz.isAgg4,
  z4:=Tryz.sizeOf4,v4:=Tryz.zeroValue4,t5:=Tryz.underlying5,a5:=Tryz.isAgg5,z5:=Tryz.sizeOf5,
  v5:=Tryz.zeroValue5,t9:=Tryz.underlying9,a9:=Tryz.isAgg9,z9:=Tryz.sizeOf9,v9:=Tryz.zeroValue9,
  t22:=Tryz.underlying37,a22:=Tryz.isAgg37,z22:=Tryz.sizeOf37,v22:=Tryz.zeroValue37,
  t25:=Tryz.underlying53,a25:=Tryz.isAgg53,z25:=Tryz.sizeOf53,v25:=Tryz.zeroValue53,
  t39:=Tryz.underlying173,a39:=Tryz.isAgg173,z39:=Tryz.sizeOf173,v39:=Tryz.zeroValue173,
  t45:=Tryz.underlying223,a45:=Tryz.isAgg223,z45:=Tryz.sizeOf223,v45:=Tryz.zeroValue223,
  t46:=Tryz.underlying224,a46:=Tryz.isAgg224,z46:=Tryz.sizeOf224,v46:=Tryz.zeroValue224,
  t50:=Tryz.underlying127,a50:=Tryz.isAgg127,z50:=Tryz.sizeOf127,v50:=Tryz.zeroValue127,
  t53:=Tryz.underlying230,a53:=Tryz.isAgg230,z53:=Tryz.sizeOf230,v53:=Tryz.zeroValue230,
  t55:=Tryz.underlying232,a55:=Tryz.isAgg232,z55:=Tryz.sizeOf232,v55:=Tryz.zeroValue232,
  t66:=Tryz.underlying272,a66:=Tryz.isAgg272,z66:=Tryz.sizeOf272,v66:=Tryz.zeroValue272,
  t70:=Tryz.underlying276,a70:=Tryz.isAgg276,z70:=Tryz.sizeOf276,v70:=Tryz.zeroValue276,
  t76:=Tryz.underlying307,a76:=Tryz.isAgg307,z76:=Tryz.sizeOf307,v76:=Tryz.zeroValue307,
  t77:=Tryz.underlying187,a77:=Tryz.isAgg187,z77:=Tryz.sizeOf187,v77:=Tryz.zeroValue187}
def Tryz.laysSlsf6_180_ren:Ren:=
{
  f :=fun x=>
    match x with
    |6=>180
    |15=>125
    |14=>231
    |28=>167
    |29=>168
    |20=>270
    |21=>271
    |22=>272
    |23=>273
    |24=>274
    |25=>275
    |26=>276
    |27=>277
    |46=>310
    |47=>220
    |48=>221
    |49=>311
    |50=>312
    |57=>337
    |n=>n,
  t :=fun x=>
    match x with
    |22=>101
    |24=>109
    |25=>248
    |3=>3
    |39=>173
    |0=>0
    |53=>230
    |55=>232
    |4=>4
    |46=>224
    |45=>223
    |50=>127
    |5=>5
    |9=>9
    |66=>272
    |70=>276
    |76=>307
    |77=>187
    |n=>n,
  g :=fun x=>
    x}
def Tryz.laysSlsf6_180:SlLaysF0.n6 Tryz.prog Tryz.laysSlsf6_180_ren:=
{ mixed :=(by kernel_rfl),
  f6 :=
    Exists.intro "slices.SortFunc[[]tidegate/derivation.pair,tidegate/derivation.pair]"
      ⟨of_decide_eq_true (id ((by kernel_rfl))),
        Eq.trans Tryz.func180
          (congrArg some (by kernel_rfl))⟩,
  f14 :=
    Exists.intro "slices.pdqsortCmpFunc[tidegate/derivation.pair]"
      ⟨of_decide_eq_true (id ((by kernel_rfl))),
        Eq.trans Tryz.func231
          (congrArg some (by kernel_rfl))⟩,
  f15:=Eq.trans Tryz.func125 (congrArg some (by kernel_rfl)),
  f20 :=
    Exists.intro "slices.insertionSortCmpFunc[tidegate/derivation.pair]"
      ⟨of_decide_eq_true (id ((by kernel_rfl))),
        Eq.trans Tryz.func270
          (congrArg some (by kernel_rfl))⟩,
  f21 :=
    Exists.intro "slices.heapSortCmpFunc[tidegate/derivation.pair]"
      ⟨of_decide_eq_true (id ((by kernel_rfl))),
        Eq.trans Tryz.func271
          (congrArg some (by kernel_rfl))⟩,
  f22 :=
    Exists.intro "slices.breakPatternsCmpFunc[tidegate/derivation.pair]"
      ⟨of_decide_eq_true (id ((by kernel_rfl))),
        Eq.trans Tryz.func272
          (congrArg some (by kernel_rfl))⟩,
  f23 :=
    Exists.intro "slices.choosePivotCmpFunc[tidegate/derivation.pair]"
      ⟨of_decide_eq_true (id ((by kernel_rfl))),
        Eq.trans Tryz.func273
          (congrArg some (by kernel_rfl))⟩,
  f24 :=
    Exists.intro "slices.reverseRangeCmpFunc[tidegate/derivation.pair]"
      ⟨of_decide_eq_true (id ((by kernel_rfl))),
        Eq.trans Tryz.func274
          (congrArg some (by kernel_rfl))⟩,
  f25 :=
    Exists.intro "slices.partialInsertionSortCmpFunc[tidegate/derivation.pair]"
      ⟨of_decide_eq_true (id ((by kernel_rfl))),
        Eq.trans Tryz.func275
          (congrArg some (by kernel_rfl))⟩,
  f26 :=
    Exists.intro "slices.partitionEqualCmpFunc[tidegate/derivation.pair]"
      ⟨of_decide_eq_true (id ((by kernel_rfl))),
        Eq.trans Tryz.func276
          (congrArg some (by kernel_rfl))⟩,
  f27 :=
    Exists.intro "slices.partitionCmpFunc[tidegate/derivation.pair]"
      ⟨of_decide_eq_true (id ((by kernel_rfl))),
        Eq.trans Tryz.func277
          (congrArg some (by kernel_rfl))⟩,
  f28:=Eq.trans Tryz.func167 (congrArg some (by kernel_rfl)),
  f29:=Eq.trans Tryz.func168 (congrArg some (by kernel_rfl)),
  f46 :=
    Exists.intro "slices.siftDownCmpFunc[tidegate/derivation.pair]"
      ⟨of_decide_eq_true (id ((by kernel_rfl))),
        Eq.trans Tryz.func310
          (congrArg some (by kernel_rfl))⟩,
  f47:=Eq.trans Tryz.func220 (congrArg some (by kernel_rfl)),
  f48:=Eq.trans Tryz.func221 (congrArg some (by kernel_rfl)),
  f49 :=
    Exists.intro "slices.medianAdjacentCmpFunc[tidegate/derivation.pair]"
      ⟨of_decide_eq_true (id ((by kernel_rfl))),
        Eq.trans Tryz.func311
          (congrArg some (by kernel_rfl))⟩,
  f50 :=
    Exists.intro "slices.medianCmpFunc[tidegate/derivation.pair]"
      ⟨of_decide_eq_true (id ((by kernel_rfl))),
        Eq.trans Tryz.func312
          (congrArg some (by kernel_rfl))⟩,
  f57 :=
    Exists.intro "slices.order2CmpFunc[tidegate/derivation.pair]"
      ⟨of_decide_eq_true (id ((by kernel_rfl))),
        Eq.trans Tryz.func337
          (congrArg some (by kernel_rfl))⟩,
  t0:=Tryz.underlying0,a0:=Tryz.isAgg0,z0:=Tryz.sizeOf0,v0:=Tryz.zeroValue0,t3:=Tryz.underlying3,
  a3:=Tryz.isAgg3,z3:=Tryz.sizeOf3,v3:=Tryz.zeroValue3,t4:=Tryz.underlying4,a4:=Tryz.isAgg4,
  z4:=Tryz.sizeOf4,v4:=Tryz.zeroValue4,t5:=Tryz.underlying5,a5:=Tryz.isAgg5,z5:=Tryz.sizeOf5,
  v5:=Tryz.zeroValue5,t9:=Tryz.underlying9,a9:=Tryz.isAgg9,z9:=Tryz.sizeOf9,v9:=Tryz.zeroValue9,
  t22:=Tryz.underlying101,a22:=Tryz.isAgg101,z22:=Tryz.sizeOf101,v22:=Tryz.zeroValue101,
  t25:=Tryz.underlying248,a25:=Tryz.isAgg248,z25:=Tryz.sizeOf248,v25:=Tryz.zeroValue248,
  t39:=Tryz.underlying173,a39:=Tryz.isAgg173,z39:=Tryz.sizeOf173,v39:=Tryz.zeroValue173,
  t45:=Tryz.underlying223,a45:=Tryz.isAgg223,z45:=Tryz.sizeOf223,v45:=Tryz.zeroValue223,
  t46:=Tryz.underlying224,a46:=Tryz.isAgg224,z46:=Tryz.sizeOf224,v46:=Tryz.zeroValue224,
  t50:=Tryz.underlying127,a50:=Tryz.isAgg127,z50:=Tryz.sizeOf127,v50:=Tryz.zeroValue127,
  t53:=Tryz.underlying230,a53:=Tryz.isAgg230,z53:=Tryz.sizeOf230,v53:=Tryz.zeroValue230,
  t55:=Tryz.underlying232,a55:=Tryz.isAgg232,z55:=Tryz.sizeOf232,v55:=Tryz.zeroValue232,
  t66:=Tryz.underlying272,a66:=Tryz.isAgg272,z66:=Tryz.sizeOf272,v66:=Tryz.zeroValue272,
  t70:=Tryz.underlying276,a70:=Tryz.isAgg276,z70:=Tryz.sizeOf276,v70:=Tryz.zeroValue276,
  t76:=Tryz.underlying307,a76:=Tryz.isAgg307,z76:=Tryz.sizeOf307,v76:=Tryz.zeroValue307,
  t77:=Tryz.underlying187,a77:=Tryz.isAgg187,z77:=Tryz.sizeOf187,v77:=Tryz.zeroValue187}
end Go.Proofs
namespace Go.Proofs
open Go.Shelf Go.RowKit Go.Lib Go.Sort Go.Ab
set_option maxRecDepth 100000
def Tryz.sorts58:XR Tryz.prog 58 5:=Vy Tryz.laysSlsf6_58 Tryz.isAgg46 Tryz.sizeOf46
def Tryz.sorts180:XR Tryz.prog 180 2:=Vy Tryz.laysSlsf6_180 Tryz.isAgg109 Tryz.sizeOf109
end Go.Proofs
namespace Go.Ab
open Go.RowKit Go.Proofs Go.Proofs.Tryz R0
abbrev vi (n:Int):V:=.int .i64 n
abbrev sr [Ar]{α:Type}(f:α→V)(l:List α):V:=.sl (Ar.lst f l) .ro
abbrev cb (b:Nat)(l:List V):En:=.blk b (.cells l)
abbrev ob [Ar]{α:Type}(q:OG)(n:Nat)(f:α→V)(l:List α):En:=.blk q.id (.arr n (q.pre++Ar.lst f l++q.rest))
abbrev fi (k:Nat)(n:Int):Nat×Sl:=(k,.v (vi n))
instance globs :O6:=⟨fun n=>match n with
 |0=>.eref [vi 0,vi 0,.bool true,.bool true,.bool false,.bool false,vi 2,vi 64,.bool false,.bool false,.bool false,.bool false,vi 2,vi 64,.bool false,.bool false,.bool false,.bool false,vi 2,vi 64,.bool false,.bool false,.bool false,.bool false,vi 1,vi 1,.bool false,.bool false,.bool false,.bool false,vi 1,vi 1,.bool true,.bool true,.bool true,.bool false,vi 1,vi 1,.bool false,.bool false,.bool true,.bool true,vi 1,vi 1,.bool false,.bool true,.bool false,.bool false,vi 2,vi 2,.bool false,.bool false,.bool false,.bool false,vi 1,vi 1,.bool true,.bool true,.bool true,.bool false,vi 1,vi 1,.bool false,.bool false,.bool true,.bool true] 0
 |_=>.bad⟩
variable [Ar][R0]
set_option maxRecDepth 100000
def S3:Vm prog TT:=⟨okT,by rfl⟩
def cf0:Cf:=⟨[],[],[],[],[],[]⟩
def JS.e2 {l r:Fl}{k1 k2:Nat}{x1 x2:V}(hr:JS l r)(h1:CZ l k1=x1:=by rfl)(h2:CZ l k2=x2:=by rfl):JS l ((k1,.v x1)::(k2,.v x2)::r):=.e h1 (.e h2 hr)
def JS.e4 {l r:Fl}{k1 k2 k3 k4:Nat}{x1 x2 x3 x4:V}(hr:JS l r)(h1:CZ l k1=x1:=by rfl)(h2:CZ l k2=x2:=by rfl)(h3:CZ l k3=x3:=by rfl)(h4:CZ l k4=x4:=by rfl):JS l ((k1,.v x1)::(k2,.v x2)::(k3,.v x3)::(k4,.v x4)::r):=.e2 (.e2 hr h3 h4) h1 h2
def Q9 {f:FuncId}{fn:Func}{c:Code}{n:Nat}{rs:List ResultVar}{args:List V}{r:V}(cf:Cf)(hf:prog.funcs[f]? =some fn)(hcall:∀vals w,(callFunc f vals).run prog w= .ok (.enter f vals) w)(hnt:fn.ntmps=n)
 (h:∀(E:FN) (H:A5) (K:V→A5→Prop),E=I0 prog n none→(∀{x L H'},C8 Eq H L H'→DF x r→K x H')→C8 Eq H [] H→run E TT n cf c ⟨CN args 0,[]⟩ H (Qe E TT rs K))
 (hb:fn.body=some c:=by rfl) (hd:M6 cf c=true:=by kernel_rfl) (hrs:fn.results.toList=rs:=by rfl) (hn:Nat.ble args.length n=true:=by rfl):C2 prog f args r:=
 Vj cf S3 hf hb hd hcall hnt hrs hn fun E H K hE hK=>h E H K hE (fun a b=>hK _ _ _ a b) (.start M2 rfl)
def ZO:Go.TypeDesc:=Go.TypeDesc.struct #[{name:= "source",type:=3,offset:=0,embedded:=false,tag:= "",pkgPath:= "tidegate/stream",byteOffset:=0},{name:= "seq",type:=3,offset:=1,embedded:=false,tag:= "",pkgPath:= "tidegate/stream",byteOffset:=8}]
def Ar0:UQ prog ZO eBq0:=VP (g:=fun(x:I1)=>[x.source,x.seq]) (fun x=>(eBq3 x).trans rfl) (fun _=>rfl) (fun x y h=>by cases x;cases y;cases h;rfl) (by kernel_rfl)
def Bm3:Go.TypeDesc:=Go.TypeDesc.struct #[{name:= "node",type:=3,offset:=0,embedded:=false,tag:= "",pkgPath:= "tidegate/derivation",byteOffset:=0},{name:= "first",type:=3,offset:=1,embedded:=false,tag:= "",pkgPath:= "tidegate/derivation",byteOffset:=8},{name:= "last",type:=3,offset:=2,embedded:=false,tag:= "",pkgPath:= "tidegate/derivation",byteOffset:=16},{name:= "outer",type:=3,offset:=3,embedded:=false,tag:= "",pkgPath:= "tidegate/derivation",byteOffset:=24}]
def Bd3:UQ prog Bm3 eBp2:=VP (g:=fun(x:C5)=>[x.node,x.first,x.last,x.outer]) (fun x=>(eBq8 x).trans rfl) (fun _=>rfl) (fun x y h=>by cases x;cases y;cases h;rfl) (by kernel_rfl)
def c68 (N bW r) (h:Gi N bW=some r):C2 prog 68 [sr (V.int .i64) bW] (vi r):=by
 refine Q9 cf0 func68 call68 ntmps68 ?_;intro E H0 K hE hK hO;cbv;apply K9 hE;cbv;obtain⟨s2,hx,h⟩:=bind_some h;refine I7 cf0 hE S3 (fun s1=>[fi 3 0,(6,.v (sr (V.int .i64) bW)),fi 7 (Ar.len bW),fi 8 s1]) (fun s1 H1=>C8 Eq H0 [] H1) (fun x e l H1=>match(generalizing:=false) x with| .inl y=>e= .exit 0∧l=[fi 3 0]∧C8 Eq H0 [] H1| .inr y=>e= .ret∧l=[fi 2 y]∧C8 Eq H0 [] H1) (by kernel_rfl) ?_ hx ?_ hO ?_
 ·intro s1 H o hO h
  repeat' (cbv;first|apply C7 hE h<;>intro _ h|refine F6 hE (fun _=>rfl) h fun _ h=>?_|(cases h;exact⟨_,_,rfl,⟨rfl,rfl,hO⟩,.e rfl .z,rfl⟩)|(cases h;exact⟨_,rfl,.e4 .z,rfl,hO⟩))
 ·exact .e4 .z
 clear hx
 rcases s2 with y4|y5
 ·rintro e l H ⟨rfl,rfl,hO⟩;cbv;cases h;exact hK hO .z
 rintro e l H ⟨rfl,rfl,hO⟩;cbv;cases h;exact hK hO .z
def c131 (N aG r)(h:Gx N aG=some r):C2 prog 131 [vi aG] (.bool r):=by
 refine Q9 cf0 func131 call131 ntmps131 ?_;intro E H0 K hE hK hO;cbv;cases h;exact hK hO .z
def c70 (N aG aS r)(h:O8 N aG aS=some r):C2 prog 70 [vi aG,vi aS] (vi r):=by
 refine Q9 cf0 func70 call70 ntmps70 ?_;intro E H0 K hE hK hO
 repeat' (cbv;first|apply C7 hE h<;>intro _ h|refine B3 hE h (c131 _ _) .z fun _ h=>?_|(cases h;exact hK hO .z))
def cf116:Cf:=⟨[2],[],[],[],[],[]⟩
def c116 (N aC r)(h:DS N aC=some r):C2 prog 116 [(BO aC)] ((DU r)):=by
 refine Q9 cf116 func116 call116 ntmps116 ?_;intro E H0 K hE hK hO;cbv;refine F2 hE hO fun b1 H hO=>?_;cbv;refine D1 hE hO 0 rfl rfl fun H hO=>?_;cbv;apply C6 hE hO 0 rfl;cbv;cases h;exact hK hO .z
def cf72:Cf:=⟨[],[(1,3),(3,14)],[],[],[],[]⟩
def c72 (N aB aF r)(h:CH N aB aF=some r):C2 prog 72 [(BO aB),(BO aF)] (vi r):=by
 refine Q9 cf72 func72 call72 ntmps72 ?_;intro E H0 K hE hK hO
 repeat' (cbv;first|apply C7 hE h<;>intro _ h|refine B3 hE h (c116 _ _) .z fun _ h=>?_|refine B3 hE h (c70 _ _ _) .z fun _ h=>?_|refine B3 hE h (c68 _ _) (.cons (.lit _ (H8 (rfl) (H8 (rfl) (H8 (rfl) (F3))))) .z) fun _ h=>?_|refine E9 hE (g:=fun r1=>(DU r1)) h (c116 _ _) .z fun r1 h=>?_|refine E9 hE (g:=fun r3=>vi r3) h (c70 _ _ _) .z fun r3 h=>?_|refine E9 hE (g:=fun r4=>vi r4) h (c70 _ _ _) .z fun r4 h=>?_|(cases h;exact hK hO .z))
def cf73:Cf:=⟨[8],[],[],[],[],[]⟩
def c73 (N:Nat) (bR:List A4) (bU:List A4) (aY:V) (aV:A4→A4→Option Int) (bS:∀y1 y2 q,aV y1 y2=some q→AA prog aY [(G2 y1),(G2 y2)] (vi q)) (r:Int) (h:J3 N bR bU aV=some r):C2 prog 73 [sr eBo3 bR,sr eBo3 bU,aY] (vi r):=by
 refine Q9 cf73 func73 call73 ntmps73 ?_;intro E H0 K hE hK hO;cbv;apply K9 hE;cbv;obtain⟨s2,hx,h⟩:=bind_some h;refine I7 cf73 hE S3 (fun s1=>[(0,.v (sr eBo3 bR)),(1,.v (sr eBo3 bU)),(2,.v (aY)),(11,.v (sr eBo3 bR)),fi 12 (Ar.len bR),fi 13 s1]) (fun s1 H1=>C8 Eq H0 [] H1) (fun x e l H1=>match(generalizing:=false) x with| .inl y=>e= .exit 0∧l=[(0,.v (sr eBo3 bR)),(1,.v (sr eBo3 bU))]∧C8 Eq H0 [] H1| .inr y=>e= .ret∧l=[fi 6 y]∧C8 Eq H0 [] H1) (by kernel_rfl) ?_ hx ?_ hO ?_
 ·intro s1 H o hO h;cbv;apply C7 hE h<;>intro _ h
  ·cbv;refine F6 hE eBo4 h fun x3 h=>?_
   repeat' (cbv;first|apply C7 hE h<;>intro _ h|apply K9 hE|refine BR hE (g:=fun r6=>vi r6) h (fun r6 hx=>bS x3 x5 r6 hx) .z fun r6 h=>?_|refine F6 hE eBo4 h fun x5 h=>?_|apply C6 hE hO 0 rfl|refine D1 hE hO 0 rfl rfl fun H hO=>?_|refine F2 hE hO fun _ H hO=>?_|(cases h;exact⟨_,_,rfl,⟨rfl,rfl,hO.tail⟩,.e rfl .z,rfl⟩)|(cases h;exact⟨_,rfl,.e2 (.e4 .z),rfl,hO.tail⟩))
  cbv;cases h;exact⟨_,_,rfl,⟨rfl,rfl,hO⟩,.e2 .z,rfl⟩
 ·exact .e2 (.e4 .z)
 clear hx
 rcases s2 with y7|y8
 ·rintro e l H ⟨rfl,rfl,hO⟩
  repeat' (cbv;first|apply C7 hE h<;>intro _ h|apply K9 hE|(cases h;exact hK hO .z))
 rintro e l H ⟨rfl,rfl,hO⟩;cbv;cases h;exact hK hO .z
def c21 (N:Nat):∀n aB aF r,P8 N n aB aF=some r→C2 prog 21 [(G2 aB),(G2 aF)] (vi r):=by
 intro n
 induction n with
 |zero=>intro aB aF r h;cases h
 |succ n ih=>
 intro aB aF r h
 unfold P8 at h
 refine Q9 cf0 func21 call21 ntmps21 ?_;intro E H0 K hE hK hO
 repeat' (cbv;first|apply C7 hE h<;>intro _ h|refine B3 hE h (c72 _ _ _) (.cons (.agg (.r (.r (.r (.r (.cons (.lit _ (F3)) .z)))))) (.cons (.agg (.r (.r (.r (.r (.cons (.lit _ (F3)) .z)))))) .z)) fun _ h=>?_|refine B3 hE (g:=fun r2=>vi r2) h (fun r2 hx=>c73 N aB.Kids aF.Kids (.func (.func 21) [] []) (fun y1 y2=>P8 N n y1 y2) (fun y1 y2 r hx=>C2.value (F:=[]) (C:=[]) (ih y1 y2 r hx)) r2 hx) .z fun r2 h=>?_|(cases h;exact hK hO .z))
def c29 (N:Nat):∀n aJ r,S9 N n aJ=some r→C2 prog 29 [(G2 aJ)] (vi r):=by
 intro n
 induction n with
 |zero=>intro aJ r h;cases h
 |succ n ih=>
 intro aJ r h
 unfold S9 at h
 refine Q9 cf0 func29 call29 ntmps29 ?_;intro E H0 K hE hK hO;cbv;apply K9 hE;cbv;obtain⟨s2,hx,h⟩:=bind_some h;refine I7 cf0 hE S3 (fun s1=>[fi 3 s1.1,(7,.v (sr eBo3 aJ.Kids)),fi 8 (Ar.len aJ.Kids),fi 9 s1.2]) (fun s1 H1=>C8 Eq H0 [] H1) (fun x e l H1=>e= .exit 0∧l=[fi 3 x]∧C8 Eq H0 [] H1) (by kernel_rfl) ?_ hx ?_ hO ?_
 ·intro s1 H o hO h;cbv;apply C7 hE h<;>intro _ h
  ·cbv;refine F6 hE eBo4 h fun x3 h=>?_;cbv;refine B3 hE h (ih x3) .z fun r4 h=>?_;cbv;cases h;exact⟨_,rfl,.e4 .z,rfl,hO⟩
  cbv;cases h;exact⟨_,_,rfl,⟨rfl,rfl,hO⟩,.e rfl .z,rfl⟩
 ·exact .e4 .z
 clear hx;rintro e l H ⟨rfl,rfl,hO⟩;cbv;cases h;exact hK hO .z
def c217 (N:Nat):∀n aA r,AI N n aA=some r→Qv prog 217 (fun yv=>[(D5 aA),yv]) (List.map (fun(x:A2)=>[(D5 x)]) r) rbB:=by
 intro n
 induction n with
 |zero=>intro aA r h;cases h
 |succ n ih=>
 intro aA r h
 unfold AI at h
 obtain⟨⟨w0,u0⟩,h1,hr⟩:=bind_some h;clear h;have hr:=M1 hr;subst hr;have h:=h1;clear h1;refine Ed cf0 S3 func217 (by rfl) (by kernel_rfl) call217 ntmps217 (by rfl) (fun _=>rfl) ?_;intro yv I D hI hD hy tl F E H K hE hO hK hKD
 have hO:C8 (I (List.map (fun(x:A2)=>[(D5 x)]) (w0++[])++tl)) F [] H:=by rw[List.append_nil];exact hO
 cbv;obtain⟨w1,h,he⟩:=CB h
 rw[he,append_assoc]at hO
 clear he;have hO:C8 (I ([(D5 aA)]::(List.map (fun(x:A2)=>[(D5 x)]) (w1++[])++tl))) F [] _:=hO;refine Nu hE hI hD hy hO .z (fun H hO=>?_) (fun H hO=>?_)
 ·cbv;apply TP hE (nt_eq _);cbv;apply K9 hE;cbv;obtain⟨w3,w4,s7,hx,h,he⟩:=Z1 h
  rw[he,append_assoc]at hO
  clear he;refine Aq7 cf0 hE S3 (γ:=Unit) (fun s2 g=>[(1,.v (yv)),(12,.v (sr eBo6 aA.cQ)),fi 13 (Ar.len aA.cQ),fi 14 s2]) (fun s2 g w H1=>C8 (I (List.map (fun(x:A2)=>[(D5 x)]) w++tl)) F [] H1) (fun x e l w H1=>e= .exit 0∧l=[]∧C8 (I (List.map (fun(x:A2)=>[(D5 x)]) w++tl)) F [] H1) (fun e l H1=>(e= .ret∧l=[(4,.b false)]∧C8 D F [] H1)) (by kernel_rfl) ?_ (w':=w4++[]) () hx ?_ ?_ ?_ ?_
  ·rintro s2 _ w5 w6 H o hO h
   skip
   cbv;apply C7 hE h<;>intro _ h
   ·cbv;refine F6 hE eBo7 h fun x8 h=>?_;cbv;obtain⟨l9,hl,h⟩:=bind_some h;obtain⟨w10,h,he⟩:=CB h
    rw[he,append_assoc]at hO
    clear he
    rw[List.map_append,append_assoc]at hO
    refine Xk hE hI hD hy (ih x8 l9 hl) hO .z (fun v H hb hO=>?_) (fun v H hb hO=>?_)
    ·cases hb;clear hl;cbv;apply TP hE (nt_eq _);cbv;obtain⟨hw,rfl⟩:=J5 h
     rw[←hw]at hO
     exact⟨_,(),rfl,.e4 .z,rfl,hO⟩
    cases hb;clear h hl;cbv;apply TO hE (nt_eq _);cbv;exact .inr ⟨_,⟨rfl,rfl,hO⟩,.b rfl (.z),rfl⟩
   cbv;obtain⟨hw,rfl⟩:=J5 h
   rw[←hw]at hO
   exact .inl ⟨_,_,rfl,⟨rfl,rfl,hO⟩,.z,rfl⟩
  ·exact .e4 .z
  ·exact hO
  ·rintro e l H ⟨rfl,rfl,hO⟩;cbv;obtain⟨hw,_⟩:=J5 h
   rw[←hw]at hO
   exact hK _ _ _ hO rfl
  rintro e l H hX;obtain⟨rfl,rfl,hO⟩:=hX;clear h;cbv;exact hKD _ _ _ hO rfl
 clear h;cbv;apply TO hE (nt_eq _);cbv;exact hKD _ _ _ hO rfl
def c216 (N aO r) (h:Ey N aO=some r):Qv prog 216 (fun yv=>[yv,.eref (E0 aO) 0]) (List.map (fun(x:A2)=>[(D5 x)]) r) rbN:=by
 obtain⟨⟨w0,u0⟩,h1,hr⟩:=bind_some h;clear h;have hr:=M1 hr;subst hr;have h:=h1;clear h1;refine Ed cf0 S3 func216 (by rfl) (by kernel_rfl) call216 ntmps216 (by rfl) (fun _=>rfl) ?_;intro yv I D hI hD hy tl F E H K hE hO hK hKD
 have hO:C8 (I (List.map (fun(x:A2)=>[(D5 x)]) (w0++[])++tl)) F [] H:=by rw[List.append_nil];exact hO
 cbv;obtain⟨l1,hl,h⟩:=bind_some h;obtain⟨w2,h,he⟩:=CB h
 rw[he,append_assoc]at hO
 clear he
 rw[List.map_append,append_assoc]at hO
 refine Xk hE hI hD hy (c217 N N aO l1 hl) hO .z (fun v H hb hO=>?_) (fun v H hb hO=>?_)
 ·cases hb;clear hl;cbv;obtain⟨hw,_⟩:=J5 h
  rw[←hw]at hO
  exact hK _ _ _ hO trivial
 cases hb;clear h hl;cbv;exact hKD _ _ _ hO trivial
def c157 (N aA r)(h:Z3 N aA=some r):Nb prog 157 [(D5 aA)] (fun v=>UR prog v (r.map fun(x:A2)=>[(D5 x)])):=by
 refine Og cf0 S3 func157 (by rfl) (by kernel_rfl) call157 ntmps157 (by rfl) (by rfl) ?_;intro E H0 K hE hK;have hO:C8 Eq H0 [] H0:=.start M2 rfl;cbv;exact hK _ _ _ hO (Ob call216 (c216 N aA r h))
def c214 (N:Nat):∀n aA r,V8 N n aA=some r→C2 prog 214 [(D5 aA)] (.tup [vi r.1,vi r.2]):=by
 intro n
 induction n with
 |zero=>intro aA r h;cases h
 |succ n ih=>
 intro aA r h
 unfold V8 at h
 refine Q9 cf0 func214 call214 ntmps214 ?_;intro E H0 K hE hK hO;cbv;apply K9 hE;cbv;obtain⟨s2,hx,h⟩:=bind_some h;refine I7 cf0 hE S3 (fun s1=>[fi 4 s1.1,fi 5 s1.2.1,(11,.v (sr eBo6 aA.cQ)),fi 12 (Ar.len aA.cQ),fi 13 s1.2.2]) (fun s1 H1=>C8 Eq H0 [] H1) (fun x e l H1=>e= .exit 0∧l=[fi 4 x.1,fi 5 x.2]∧C8 Eq H0 [] H1) (by kernel_rfl) ?_ hx ?_ hO ?_
 ·intro s1 H o hO h;cbv;apply C7 hE h<;>intro _ h
  ·cbv;refine F6 hE eBo7 h fun x3 h=>?_;cbv;refine B3 hE h (ih x3) .z fun r4 h=>?_;cbv;cases h;exact⟨_,rfl,.e rfl (.e4 .z),rfl,hO⟩
  cbv;cases h;exact⟨_,_,rfl,⟨rfl,rfl,hO⟩,.e2 .z,rfl⟩
 ·exact .e rfl (.e4 .z)
 clear hx;rintro e l H ⟨rfl,rfl,hO⟩;cbv;cases h;exact hK hO .z
def c259 (N bJ aP bK r)(h:Ba N bJ aP bK=some r):C2 prog 259 [.bool bJ,vi aP,vi bK] (.bool r):=by
 refine Q9 cf0 func259 call259 ntmps259 ?_;intro E H0 K hE hK hO;cbv;cases h;exact hK hO .z
def c294 (N:Nat):∀n aC r,DR N n aC=some r→C2 prog 294 [(Bk aC)] (.tup [vi r.1,vi r.2]):=by
 intro n
 induction n with
 |zero=>intro aC r h;cases h
 |succ n ih=>
 intro aC r h
 unfold DR at h
 refine Q9 cf0 func294 call294 ntmps294 ?_;intro E H0 K hE hK hO;cbv;apply K9 hE;cbv;obtain⟨s2,hx,h⟩:=bind_some h;refine I7 cf0 hE S3 (fun s1=>[fi 4 s1.1,fi 5 s1.2.1,(11,.v (sr eBp5 aC.cQ)),fi 12 (Ar.len aC.cQ),fi 13 s1.2.2]) (fun s1 H1=>C8 Eq H0 [] H1) (fun x e l H1=>e= .exit 0∧l=[fi 4 x.1,fi 5 x.2]∧C8 Eq H0 [] H1) (by kernel_rfl) ?_ hx ?_ hO ?_
 ·intro s1 H o hO h;cbv;apply C7 hE h<;>intro _ h
  ·cbv;refine F6 hE eBp7 h fun x3 h=>?_;cbv;refine B3 hE h (ih x3) .z fun r4 h=>?_;cbv;cases h;exact⟨_,rfl,.e rfl (.e4 .z),rfl,hO⟩
  cbv;cases h;exact⟨_,_,rfl,⟨rfl,rfl,hO⟩,.e2 .z,rfl⟩
 ·exact .e rfl (.e4 .z)
 clear hx;rintro e l H ⟨rfl,rfl,hO⟩;cbv;cases h;exact hK hO .z
def c295 (N:Nat):∀(n:Nat) (aC:B5) (bC:V) (aT:B5→Option Int) (bQ:∀y1 q,aT y1=some q→AA prog bC [(Bk y1)] (vi q)) (r:Int),EB N n aC aT=some r→C2 prog 295 [(Bk aC),bC] (vi r):=by
 intro n
 induction n with
 |zero=>intro aC bC aT bQ r h;cases h
 |succ n ih=>
 intro aC bC aT bQ r h
 unfold EB at h
 refine Q9 cf0 func295 call295 ntmps295 ?_;intro E H0 K hE hK hO;cbv;refine BR hE (g:=fun r1=>vi r1) h (fun r1 hx=>bQ aC r1 hx) (.refl _) fun r1 h=>?_;cbv;refine C7 hE h (fun _ h=>?_) fun _ h=>?_
 ·cbv;cases h;exact hK hO (.refl _)
 cbv;refine K9 hE ?_;cbv;obtain⟨s3,hx,h⟩:=bind_some h;refine I7 cf0 hE S3 (fun s2=>[(1,.v (bC)),(16,.v (sr eBp5 aC.cQ)),fi 17 (Ar.len aC.cQ),fi 18 s2]) (fun s2 H1=>C8 Eq H0 [] H1) (fun x e l H1=>match(generalizing:=false) x with| .inl y=>e= .exit 0∧l=[]∧C8 Eq H0 [] H1| .inr y=>e= .ret∧l=[fi 4 y]∧C8 Eq H0 [] H1) (by kernel_rfl) ?_ hx ?_ hO ?_
 ·intro s2 H o hO h;clear hx;cbv;refine C7 hE h (fun _ h=>?_) fun _ h=>?_
  ·cbv;refine F6 hE eBp7 h fun x4 h=>?_;cbv;refine B3 hE h (ih x4 bC aT bQ) (.refl _) fun r5 h=>?_;cbv;refine C7 hE h (fun _ h=>?_) fun _ h=>?_
   ·cbv;cases h;exact⟨_,_,rfl,⟨rfl,rfl,hO⟩,.e rfl .z,rfl⟩
   cbv;cases h;exact⟨_,rfl,.e4 .z,rfl,hO⟩
  cbv;cases h;exact⟨_,_,rfl,⟨rfl,rfl,hO⟩,.z,rfl⟩
 ·exact .e4 .z
 clear hx
 rcases s3 with y6|y7
 ·rintro e l H ⟨rfl,rfl,hO⟩;cbv;cases h;exact hK hO (.refl _)
 rintro e l H ⟨rfl,rfl,hO⟩;cbv;cases h;exact hK hO (.refl _)
def c329 (N aL r)(h:KZ N aL=some r):C2 prog 329 [vi aL] (.tup [vi r.1,.bool r.2]):=by
 refine Q9 cf0 func329 call329 ntmps329 ?_;intro E H0 K hE hK hO
 repeat' (cbv;first|apply C7 hE h<;>intro _ h|(cases h;exact hK hO .z))
def cf330:Cf:=⟨[],[],[(5,4)],[],[],[]⟩
def c330 (N aL r) (h:NA N aL=some r):C2 prog 330 [vi aL] (.tup [.bool r.1,.bool r.2]):=by
 refine Q9 cf330 func330 call330 ntmps330 ?_;intro E H0 K hE hK hO;cbv;obtain⟨s1,hx,h⟩:=bind_some h;refine R8 cf330 hE S3 (fun e l H1=>e= .normal∧l=[fi 4 aL,(5,.v (.bool s1))]∧C8 Eq H0 [] H1) (by kernel_rfl) ?_ ?_
 ·clear h;have h:=hx;cbv;apply C7 hE h<;>intro _ h
  ·cbv;cases h;exact⟨_,⟨rfl,rfl,hO⟩,.e2 .z,rfl⟩
  cbv;cases h;exact⟨_,⟨rfl,rfl,hO⟩,.e2 .z,rfl⟩
 clear hx;rintro e l H ⟨rfl,rfl,hO⟩
 repeat' (cbv;first|apply C7 hE h<;>intro _ h|(cases h;exact hK hO .z))
def c358 (N aK r)(h:KI N aK=some r):C2 prog 358 [(H5 aK)] (vi r):=by
 refine Q9 cf0 func358 call358 ntmps358 ?_;intro E H0 K hE hK hO
 repeat' (cbv;first|apply C7 hE h<;>intro _ h|(cases h;exact hK hO .z))
def cf336:Cf:=⟨[],[],[(5,5)],[],[],[]⟩
def c336 (N aK r) (h:Bo N aK=some r):C2 prog 336 [(H5 aK)] (vi r):=by
 refine Q9 cf336 func336 call336 ntmps336 ?_;intro E H0 K hE hK hO;cbv;obtain⟨s1,hx,h⟩:=bind_some h;refine R8 cf336 hE S3 (fun e l H1=>e= .normal∧l=[(1,.v (.eref (Y3 aK) 0)),fi 4 aK.Kind,(5,.v (.bool s1))]∧C8 Eq H0 [] H1) (by kernel_rfl) ?_ ?_
 ·clear h;have h:=hx;cbv;apply C7 hE h<;>intro _ h
  ·cbv;cases h;exact⟨_,⟨rfl,rfl,hO⟩,.e rfl (.e2 .z),rfl⟩
  cbv;cases h;exact⟨_,⟨rfl,rfl,hO⟩,.e rfl (.e2 .z),rfl⟩
 clear hx;rintro e l H ⟨rfl,rfl,hO⟩
 repeat' (cbv;first|apply C7 hE h<;>intro _ h|refine B3 hE h (c358 _ _) .z fun _ h=>?_|(cases h;exact hK hO .z))
def c347 (N aM aK r)(h:KY N aM aK=some r):C2 prog 347 [vi aM,(H5 aK)] (.bool r):=by
 refine Q9 cf0 func347 call347 ntmps347 ?_;intro E H0 K hE hK hO;cbv;cases h;exact hK hO .z
def c331 (N aC r)(h:Iu N aC=some r):C2 prog 331 [(Bk aC)] (vi r):=by
 refine Q9 cf0 func331 call331 ntmps331 ?_;intro E H0 K hE hK hO
 repeat' (cbv;first|apply C7 hE h<;>intro _ h|refine B3 hE h (c336 _ _) .z fun _ h=>?_|refine B3 hE h (c347 _ _ _) .z fun _ h=>?_|(cases h;exact hK hO .z))
def cf296:Cf:=⟨[],[],[(73,15)],[],[],[]⟩
def c296 (N aC r) (h:Ky N aC=some r):C2 prog 296 [(Bk aC)] (vi r):=by
 refine Q9 cf296 func296 call296 ntmps296 ?_;intro E H0 K hE hK hO
 repeat' (cbv;first|apply C7 hE h<;>intro _ h|apply K9 hE|refine B3 hE h (c329 _ _) .z fun _ h=>?_|refine B3 hE h (c330 _ _) .z fun r2 h=>?_|(cases h;exact hK hO .z))
 cbv;obtain⟨s3,hx,h⟩:=bind_some h;refine R8 cf296 hE S3 (fun e l H1=>match(generalizing:=false) s3 with| .inl y=>e= .normal∧l=[(1,.v (.eref (EF aC) 0)),(5,.v (.bool r2.1)),(6,.v (.bool r2.2)),(7,.v (.bool (cmp .eql aC.Op 4))),(8,.v (.bool (Ar.or (cmp .eql aC.Op 4) (cmp .eql aC.Op 0))))]∧C8 Eq H0 [] H1| .inr y=>e= .ret∧l=[fi 2 y]∧C8 Eq H0 [] H1) (by kernel_rfl) ?_ ?_
 ·clear h;have h:=hx
  repeat' (cbv;first|apply C7 hE h<;>intro _ h|refine B3 hE h (c331 _ _) .z fun _ h=>?_|(cases h;exact⟨_,⟨rfl,rfl,hO⟩,.e rfl .z,rfl⟩)|(cases h;exact⟨_,⟨rfl,rfl,hO⟩,.e rfl (.e4 .z),rfl⟩))
 clear hx
 rcases s3 with y5|y6
 ·rintro e l H ⟨rfl,rfl,hO⟩;cbv;apply C7 hE h<;>intro _ h
  ·cbv;cases h;exact hK hO .z
  cbv;cases h;exact hK hO .z
 rintro e l H ⟨rfl,rfl,hO⟩;cbv;cases h;exact hK hO .z
def c260 (N aC r)(h:Iw N aC=some r):C2 prog 260 [(Bk aC)] (vi r):=by
 refine Q9 cf0 func260 call260 ntmps260 ?_;intro E H0 K hE hK hO
 repeat' (cbv;first|apply C7 hE h<;>intro _ h|refine B3 hE h (c294 _ _ _) .z fun _ h=>?_|refine B3 hE (g:=fun r2=>vi r2) h (fun r2 hx=>c295 N N aC (.func (.func 296) [] []) (fun y1=>Ky N y1) (fun y1 r hx=>C2.value (F:=[]) (C:=[]) (c296 N y1 r hx)) r2 hx) .z fun r2 h=>?_|(cases h;exact hK hO .z))
def cf261:Cf:=⟨[],[(6,10)],[],[],[],[]⟩
def c261 (N:Nat):∀n aB aF r,HT N n aB aF=some r→C2 prog 261 [(Bk aB),(Bk aF)] (.bool r):=by
 intro n
 induction n with
 |zero=>intro aB aF r h;cases h
 |succ n ih=>
 intro aB aF r h
 unfold HT at h
 refine Q9 cf261 func261 call261 ntmps261 ?_;intro E H0 K hE hK hO
 repeat' (cbv;first|apply C7 hE h<;>intro _ h|apply K9 hE|(cases h;exact hK hO .z))
 cbv;obtain⟨s2,hx,h⟩:=bind_some h;refine I7 cf261 hE S3 (fun s1=>[(2,.v (.eref (EF aB) 0)),(3,.v (.eref (EF aF) 0)),fi 50 (Ar.len aB.cQ),fi 51 s1]) (fun s1 H1=>C8 Eq H0 [] H1) (fun x e l H1=>match(generalizing:=false) x with| .inl y=>e= .exit 0∧l=[]∧C8 Eq H0 [] H1| .inr y=>e= .ret∧l=[(4,.b false)]∧C8 Eq H0 [] H1) (by kernel_rfl) ?_ hx ?_ hO ?_
 ·intro s1 H o hO h
  repeat' (cbv;first|apply C7 hE h<;>intro _ h|refine B3 hE h (ih _ _) .z fun _ h=>?_|refine F6 hE eBp7 h fun _ h=>?_|(cases h;exact⟨_,_,rfl,⟨rfl,rfl,hO⟩,.b rfl (.z),rfl⟩)|(cases h;exact⟨_,rfl,.e4 .z,rfl,hO⟩)|(cases h;exact⟨_,_,rfl,⟨rfl,rfl,hO⟩,.z,rfl⟩))
 ·exact .e4 .z
 clear hx
 rcases s2 with y6|y7
 ·rintro e l H ⟨rfl,rfl,hO⟩;cbv;cases h;exact hK hO .z
 rintro e l H ⟨rfl,rfl,hO⟩;cbv;cases h;exact hK hO .z
def c262 (N bJ aP r)(h:V1 N bJ aP=some r):C2 prog 262 [.bool bJ,vi aP] (.bool r):=by
 refine Q9 cf0 func262 call262 ntmps262 ?_;intro E H0 K hE hK hO;cbv;cases h;exact hK hO .z
def cf215:Cf:=⟨[],[],[(64,10)],[],[],[]⟩
def c215 (N aA r) (h:AO N aA=some r):C2 prog 215 [(D5 aA)] (vi r):=by
 refine Q9 cf215 func215 call215 ntmps215 ?_;intro E H0 K hE hK hO
 repeat' (cbv;first|apply C7 hE h<;>intro _ h|apply K9 hE|refine B3 hE h (c259 _ _ _ _) .z fun _ h=>?_|(cases h;exact hK hO .z)|refine AK8 hE (g:=fun x=>(Lm x)) (l:=N2) rfl (fun _=>rfl) rfl rfl h fun x1 h=>?_)
 cbv;obtain⟨s6,hx,h⟩:=bind_some h;refine R8 cf215 hE S3 (fun e l H1=>match(generalizing:=false) s6 with| .inl y=>e= .normal∧l=[(1,.v (.eref (E0 aA) 0)),(3,.v (.eref (Ho x1) 0))]∧C8 Eq H0 [] H1| .inr y=>e= .ret∧l=[fi 2 y]∧C8 Eq H0 [] H1) (by kernel_rfl) ?_ ?_
 ·clear h;have h:=hx
  repeat' (cbv;first|apply C7 hE h<;>intro _ h|refine B3 hE h (c260 _ _) .z fun _ h=>?_|(cases h;exact⟨_,⟨rfl,rfl,hO⟩,.e rfl .z,rfl⟩)|(cases h;exact⟨_,⟨rfl,rfl,hO⟩,.e2 .z,rfl⟩))
 clear hx
 rcases s6 with y8|y18
 ·rintro e l H ⟨rfl,rfl,hO⟩
  repeat' (cbv;first|apply C7 hE h<;>intro _ h|refine B3 hE h (c261 _ _ _ _) (.r (.cons (.agg (.r (.cons (.lit _ (F3)) .z))) .z)) fun _ h=>?_|refine B3 hE h (c262 _ _ _) .z fun _ h=>?_|(cases h;exact hK hO .z))
 rintro e l H ⟨rfl,rfl,hO⟩;cbv;cases h;exact hK hO .z
def cf156:Cf:=⟨[2],[],[],[],[],[]⟩
def c156 (N aA r) (h:CR N aA=some r):C2 prog 156 [(D5 aA)] (vi r):=by
 refine Q9 cf156 func156 call156 ntmps156 ?_;intro E H0 K hE hK hO
 repeat' (cbv;first|apply C7 hE h<;>intro _ h|refine B3 hE h (c214 _ _ _) .z fun _ h=>?_|refine JC hE h (c157 _ _) .z fun _ _ hv4 h=>?_|apply C6 hE hO 0 rfl|refine D1 hE hO 0 rfl rfl fun H hO=>?_|refine F2 hE hO fun b1 H hO=>?_|(cases h;exact hK hO .z))
 cbv;obtain⟨o9,hx,h⟩:=bind_some h;refine PQ cf156 hE S3 (ι:=Unit) (enc:=fun(x:A2)=>[(D5 x)]) (fun(s6:Unit) F H=>C8 Eq F [cb b1 [vi 0]] H) (fun(r:Int) e F H=>e= .ret∧C8 Eq F [cb b1 [vi r]] H) (fun i s6 y5=>[(2,.v (.ref b1 0)),(5,.v (.eref (E0 y5) 0))]) (fun i s6 y5 F H=>C8 Eq F [cb b1 [vi 0]] H) (fun _=>C8.stable M2 _) (fun _ _=>G5.con (C8.stable M2 _)) (fun _ _ _=>C8.stable M2 _) hv4 hx (hO) (by decide) (fun _=>rfl) (by kernel_rfl) (by kernel_rfl) ?_ ?_ ?_ ?_
 ·rintro E i8 y5 s6 F7 H hE hO;clear hx h;cbv;exact⟨(),hO,.e2 .z,rfl⟩
 ·rintro E i8 _ y5 s6 F7 H o hE hF h hO;cbv;refine B3 hE h (c215 N y5) .z fun r10 h=>?_;cbv;apply C7 hE h<;>intro _ h
  ·cbv;refine D1 hE hO 0 rfl rfl fun H hO=>?_;cbv;cases h;exact⟨_,rfl,rfl,⟨rfl,hO⟩⟩
  cbv;cases h;exact⟨_,rfl,hO⟩
 ·rintro d11 s13 H rfl hd hO;have hO:C8 Eq H0 [cb b1 [vi 0],.blk d11 DB] H:=C8.dblk hd hO;clear hd;cbv;refine D1 hE hO 0 rfl rfl fun H hO=>?_;cbv;refine Kr hE hO 1 rfl fun H hO=>?_;cbv;apply C6 hE hO 0 rfl;cbv;cases h;exact hK hO .z
 rintro d11 y14 e H rfl hd hX
 rcases hX with⟨rfl,hO⟩
 have hO:C8 Eq H0 [cb b1 [vi y14],.blk d11 DB] H:=C8.dblk hd hO;clear hd;cbv;refine Kr hE hO 1 rfl fun H hO=>?_;cbv;apply C6 hE hO 0 rfl;cbv;cases h;exact hK hO .z
def cf117:Cf:=⟨[2],[],[],[],[],[]⟩
def c117 (N aA r) (h:Gt N aA=some r):C2 prog 117 [(D5 aA)] (vi r):=by
 refine Q9 cf117 func117 call117 ntmps117 ?_;intro E H0 K hE hK hO
 repeat' (cbv;first|apply C7 hE h<;>intro _ h|refine B3 hE h (c156 _ _) .z fun _ h=>?_|refine JC hE h (c157 _ _) .z fun _ _ hv4 h=>?_|apply C6 hE hO 0 rfl|refine D1 hE hO 0 rfl rfl fun H hO=>?_|refine F2 hE hO fun b1 H hO=>?_|(cases h;exact hK hO .z))
 cbv;obtain⟨o9,hx,h⟩:=bind_some h;refine PQ cf117 hE S3 (ι:=Unit) (enc:=fun(x:A2)=>[(D5 x)]) (fun(s6:Unit) F H=>C8 Eq F [cb b1 [vi 0]] H) (fun(r:Int) e F H=>e= .ret∧C8 Eq F [cb b1 [vi r]] H) (fun i s6 y5=>[(2,.v (.ref b1 0)),(4,.v (.eref (E0 y5) 0))]) (fun i s6 y5 F H=>C8 Eq F [cb b1 [vi 0]] H) (fun _=>C8.stable M2 _) (fun _ _=>G5.con (C8.stable M2 _)) (fun _ _ _=>C8.stable M2 _) hv4 hx (hO) (by decide) (fun _=>rfl) (by kernel_rfl) (by kernel_rfl) ?_ ?_ ?_ ?_
 ·rintro E i8 y5 s6 F7 H hE hO;clear hx h;cbv;exact⟨(),hO,.e2 .z,rfl⟩
 ·rintro E i8 _ y5 s6 F7 H o hE hF h hO;cbv;apply C7 hE h<;>intro _ h
  ·cbv;refine D1 hE hO 0 rfl rfl fun H hO=>?_;cbv;cases h;exact⟨_,rfl,rfl,⟨rfl,hO⟩⟩
  cbv;cases h;exact⟨_,rfl,hO⟩
 ·rintro d10 s12 H rfl hd hO;have hO:C8 Eq H0 [cb b1 [vi 0],.blk d10 DB] H:=C8.dblk hd hO;clear hd;cbv;refine D1 hE hO 0 rfl rfl fun H hO=>?_;cbv;refine Kr hE hO 1 rfl fun H hO=>?_;cbv;apply C6 hE hO 0 rfl;cbv;cases h;exact hK hO .z
 rintro d10 y13 e H rfl hd hX
 rcases hX with⟨rfl,hO⟩
 have hO:C8 Eq H0 [cb b1 [vi y13],.blk d10 DB] H:=C8.dblk hd hO;clear hd;cbv;refine Kr hE hO 1 rfl fun H hO=>?_;cbv;apply C6 hE hO 0 rfl;cbv;cases h;exact hK hO .z
def cf118:Cf:=⟨[5,6,7],[(11,5)],[(18,7)],[],[],[]⟩
def c118 (N aA r) (h:Gu N aA=some r):C2 prog 118 [(D5 aA)] (.tup [vi r.1,vi r.2.1,.bool r.2.2]):=by
 refine Q9 cf118 func118 call118 ntmps118 ?_;intro E H0 K hE hK hO;cbv;refine F2 hE hO fun b1 H hO=>?_;cbv;refine F2 hE hO fun b2 H hO=>?_;cbv;refine F2 hE hO fun b3 H hO=>?_;cbv;refine D1 hE hO 2 rfl rfl fun H hO=>?_;cbv;refine D1 hE hO 1 rfl rfl fun H hO=>?_;cbv;refine D1 hE hO 0 rfl rfl fun H hO=>?_;cbv;refine JC hE h (c157 N aA) .z fun r4 v5 hv5 h=>?_;cbv;obtain⟨o10,hx,h⟩:=bind_some h;refine PQ cf118 hE S3 (ι:=Unit) (enc:=fun(x:A2)=>[(D5 x)]) (fun(s7:Bool×Int×Int) F H=>C8 Eq F [cb b3 [.bool s7.1],cb b2 [vi s7.2.1],cb b1 [vi s7.2.2]] H) (fun(r:Unit) e F H=>False) (fun i s7 y6=>[(5,.v (.ref b1 0)),(6,.v (.ref b2 0)),(7,.v (.ref b3 0)),(8,.v (.eref (E0 y6) 0))]) (fun i s7 y6 F H=>C8 Eq F [cb b3 [.bool s7.1],cb b2 [vi s7.2.1],cb b1 [vi s7.2.2]] H) (fun _=>C8.stable M2 _) (fun _ _=>⟨fun h=>h.elim,fun _ _ h=>h.elim⟩) (fun _ _ _=>C8.stable M2 _) hv5 hx (hO) (by decide) (fun _=>rfl) (by kernel_rfl) (by kernel_rfl) ?_ ?_ ?_ ?_
 ·rintro E i9 y6 s7 F8 H hE hO;clear hx h;cbv;exact⟨(),hO,.e4 .z,rfl⟩
 ·rintro E i9 _ y6 s7 F8 H o hE hF h hO;cbv;refine AK8 hE (g:=fun x=>(Lm x)) (l:=N2) rfl (fun _=>rfl) rfl rfl h fun x11 h=>?_;cbv;obtain⟨s12,hx,h⟩:=bind_some h;refine R8 cf118 hE S3 (fun e l H1=>e= .normal∧l=[(6,.v (.ref b2 0)),(7,.v (.ref b3 0)),(8,.v (.eref (E0 y6) 0)),(9,.v (.eref (Ho x11) 0))]∧C8 Eq F8 [cb b3 [.bool s12.1],cb b2 [vi s7.2.1],cb b1 [vi s12.2]] H1) (by kernel_rfl) ?_ ?_
  ·clear h;have h:=hx
   repeat' (cbv;first|apply C7 hE h<;>intro _ h|apply C6 hE hO 0 rfl|apply C6 hE hO 2 rfl|refine D1 hE hO 0 rfl rfl fun H hO=>?_|refine D1 hE hO 2 rfl rfl fun H hO=>?_|(cases h;exact⟨_,⟨rfl,rfl,hO⟩,.e4 .z,rfl⟩))
  clear hx;rintro e l H ⟨rfl,rfl,hO⟩
  repeat' (cbv;first|apply C7 hE h<;>intro _ h|apply C6 hE hO 0 rfl|apply C6 hE hO 1 rfl|refine D1 hE hO 0 rfl rfl fun H hO=>?_|refine D1 hE hO 1 rfl rfl fun H hO=>?_|(cases h;exact⟨_,rfl,hO⟩))
 ·rintro d13 s15 H rfl hd hO;have hO:C8 Eq H0 [cb b3 [.bool s15.1],cb b2 [vi s15.2.1],cb b1 [vi s15.2.2],.blk d13 DB] H:=C8.dblk hd hO;clear hd;cbv;apply C6 hE hO 2 rfl;cbv;apply C6 hE hO 1 rfl;cbv;apply C6 hE hO 0 rfl;cbv;refine Kr hE hO 3 rfl fun H hO=>?_;cbv;cases h;exact hK hO .z
 rintro d r e H rfl hd hO;exact hO.elim
def c55 (N aA r)(h:CF N aA=some r):C2 prog 55 [(D5 aA)] (vi r):=by
 refine Q9 cf0 func55 call55 ntmps55 ?_;intro E H0 K hE hK hO
 repeat' (cbv;first|apply C7 hE h<;>intro _ h|refine B3 hE h (c117 _ _) .z fun _ h=>?_|refine B3 hE h (c118 _ _) .z fun _ h=>?_|(cases h;exact hK hO .z))
def c119 (N aC r)(h:JT N aC=some r):C2 prog 119 [(BO aC)] (.bool r):=by
 refine Q9 cf0 func119 call119 ntmps119 ?_;intro E H0 K hE hK hO;cbv;cases h;exact hK hO .z
def cf120:Cf:=⟨[2],[],[],[],[],[]⟩
def c120 (N aC r)(h:HN N aC=some r):C2 prog 120 [(BO aC)] ((PA r)):=by
 refine Q9 cf120 func120 call120 ntmps120 ?_;intro E H0 K hE hK hO;cbv;refine F2 hE hO fun b1 H hO=>?_;cbv;refine D1 hE hO 0 rfl rfl fun H hO=>?_;cbv;apply C6 hE hO 0 rfl;cbv;cases h;exact hK hO .z
def cf56:Cf:=⟨[5],[(9,9)],[],[],[],[]⟩
def c56 (N aH r) (h:Ct N aH=some r):C2 prog 56 [sr eBo2 aH] (vi r):=by
 refine Q9 cf56 func56 call56 ntmps56 ?_;intro E H0 K hE hK hO
 repeat' (cbv;first|apply C7 hE h<;>intro _ h|apply K9 hE|(cases h;exact hK hO .z)|refine Bl4 hE ZO eBq0 V.bool hO fun m1 o2 H ho2 hO=>?_)
 cbv;obtain⟨s5,hx,h⟩:=bind_some h;refine Bd cf56 hE S3 (γ:=Obj) (fun s3 g=>[(0,.v (sr eBo2 aH)),(3,.v (.map m1)),(10,.v (sr eBo2 aH)),fi 11 (Ar.len aH),fi 12 s3.1]) (fun s3 g H1=>Mok ZO eBq0 V.bool g s3.2∧C8 Eq H0 [.blk m1 (.obj g)] H1) (fun x e l H1=>match(generalizing:=false) x with| .inl y=>∃u1:Obj,Mok ZO eBq0 V.bool u1 y∧e= .exit 0∧l=[]∧C8 Eq H0 [.blk m1 (.obj u1)] H1| .inr y=>∃u1:Obj,Mok ZO eBq0 V.bool u1 y.2∧e= .ret∧l=[fi 2 y.1]∧C8 Eq H0 [.blk m1 (.obj u1)] H1) (by kernel_rfl) ?_ o2 hx ?_ ?_ ?_
 ·rintro s3 q4 H o ⟨hq4,hO⟩ h;cbv;apply C7 hE h<;>intro _ h
  ·cbv;refine F6 hE eBo8 h fun x6 h=>?_;cbv;refine F2 hE hO fun b7 H hO=>?_;cbv;refine D1 hE hO 0 rfl rfl fun H hO=>?_;cbv;apply C6 hE hO 0 rfl;cbv;refine B3 hE h (c119 N x6) .z fun r8 h=>?_;cbv;apply C7 hE h<;>intro _ h
   ·cbv;cases h;exact⟨_,_,rfl,⟨q4,hq4,rfl,rfl,hO.tail⟩,.e rfl .z,rfl⟩
   cbv;apply C7 hE h<;>intro _ h
   ·repeat' (cbv;first|apply C7 hE h<;>intro _ h|refine B3 hE h (c72 _ _ _) .z fun _ h=>?_|refine B3 hE h (c120 _ _) .z fun r11 h=>?_|refine F6 hE eBo8 h fun _ h=>?_|apply C6 hE hO 0 rfl|(cases h;exact⟨_,_,rfl,⟨q4,hq4,rfl,rfl,hO.tail⟩,.e rfl .z,rfl⟩)|refine Ai7 (eBq3 r11) ?_)
    refine AK5 hE (kt:=167) (et:=4) (by kernel_rfl) (by kernel_rfl) Ar0 (false:Bool) (by kernel_rfl) rfl hO hq4 1 rfl h fun r12 h=>?_;cbv;apply C7 hE h<;>intro _ h
    ·cbv;cases h;exact⟨_,_,rfl,⟨q4,hq4,rfl,rfl,hO.tail⟩,.e rfl .z,rfl⟩
    cbv;apply C6 hE hO 0 rfl;cbv;refine B3 hE h (c120 N x6) .z fun r13 h=>?_;cbv;refine Xj (eBq3 r13) ?_;refine AK4 hE (kt:=167) (et:=4) (by kernel_rfl) (by kernel_rfl) Ar0 VN hO hq4 1 rfl h fun l15 o14 H ho14 h hO=>?_;cbv;cases h;exact⟨_,o14,rfl,.e rfl (.e4 .z),rfl,ho14,hO.tail⟩
   cbv;apply C6 hE hO 0 rfl;cbv;refine B3 hE h (c120 N x6) .z fun r16 h=>?_;cbv;refine Ai7 (eBq3 r16) ?_;refine AK5 hE (kt:=167) (et:=4) (by kernel_rfl) (by kernel_rfl) Ar0 (false:Bool) (by kernel_rfl) rfl hO hq4 1 rfl h fun r17 h=>?_;cbv;apply C7 hE h<;>intro _ h
   ·cbv;cases h;exact⟨_,_,rfl,⟨q4,hq4,rfl,rfl,hO.tail⟩,.e rfl .z,rfl⟩
   cbv;apply C6 hE hO 0 rfl;cbv;refine B3 hE h (c120 N x6) .z fun r18 h=>?_;cbv;refine Xj (eBq3 r18) ?_;refine AK4 hE (kt:=167) (et:=4) (by kernel_rfl) (by kernel_rfl) Ar0 VN hO hq4 1 rfl h fun l20 o19 H ho19 h hO=>?_;cbv;cases h;exact⟨_,o19,rfl,.e rfl (.e4 .z),rfl,ho19,hO.tail⟩
  cbv;cases h;exact⟨_,_,rfl,⟨q4,hq4,rfl,rfl,hO⟩,.z,rfl⟩
 ·exact .e rfl (.e4 .z)
 ·exact⟨ho2,hO⟩
 clear hx
 rcases s5 with y21|y23
 ·rintro e l H ⟨q22,hq22,rfl,rfl,hO⟩;cbv;cases h;exact hK hO .z
 rintro e l H ⟨q24,hq24,rfl,rfl,hO⟩;cbv;cases h;exact hK hO .z
def cf300:Cf:=⟨[2],[],[],[],[],[]⟩
def c300 (N aP r)(h:Am N aP=some r):C2 prog 300 [vi aP] ((H5 r)):=by
 refine Q9 cf300 func300 call300 ntmps300 ?_;intro E H0 K hE hK hO;cbv;refine F2 hE hO fun b1 H hO=>?_;cbv;refine D1 hE hO 0 rfl rfl fun H hO=>?_;cbv;apply C6 hE hO 0 rfl;cbv;cases h;exact hK hO .z
def cf301:Cf:=⟨[5],[],[],[],[],[]⟩
def c301 (N:Nat)(aB:Int)(aF:Int)(cF:V)(aU:Int→Option A9)(cN:∀y1 q,aU y1=some q→AA prog cF [vi y1] ((H5 q)))(r:A9)(h:Fv N aB aF aU=some r):C2 prog 301 [vi aB,vi aF,.eref [cF] 0] ((H5 r)):=by
 refine Q9 cf301 func301 call301 ntmps301 ?_;intro E H0 K hE hK hO;cbv;refine F2 hE hO fun b1 H hO=>?_;cbv;refine BR hE (g:=fun r2=>(H5 r2)) h (fun r2 hx=>cN (Ar.ar .add .i64 aB aF) r2 hx) .z fun r2 h=>?_;cbv;refine D1 hE hO 0 rfl rfl fun H hO=>?_;cbv;apply C6 hE hO 0 rfl;cbv;cases h;exact hK hO .z
def cf302:Cf:=⟨[5],[],[],[],[],[]⟩
def c302 (N:Nat)(aB:Int)(aF:Int)(cF:V)(aU:Int→Option A9)(cN:∀y1 q,aU y1=some q→AA prog cF [vi y1] ((H5 q)))(r:A9)(h:Fu N aB aF aU=some r):C2 prog 302 [vi aB,vi aF,.eref [cF] 0] ((H5 r)):=by
 refine Q9 cf302 func302 call302 ntmps302 ?_;intro E H0 K hE hK hO;cbv;refine F2 hE hO fun b1 H hO=>?_;cbv;refine BR hE (g:=fun r2=>(H5 r2)) h (fun r2 hx=>cN (Ar.ar .sub .i64 aB aF) r2 hx) .z fun r2 h=>?_;cbv;refine D1 hE hO 0 rfl rfl fun H hO=>?_;cbv;apply C6 hE hO 0 rfl;cbv;cases h;exact hK hO .z
def cf269:Cf:=⟨[2,3],[],[],[],[],[]⟩
def c269 (N aF r)(h:On N aF=some r):C2 prog 269 [.bool aF] ((H5 r)):=by
 refine Q9 cf269 func269 call269 ntmps269 ?_;intro E H0 K hE hK hO
 repeat' (cbv;first|apply C7 hE h<;>intro _ h|apply C6 hE hO 0 rfl|apply C6 hE hO 1 rfl|refine D1 hE hO 0 rfl rfl fun H hO=>?_|refine D1 hE hO 1 rfl rfl fun H hO=>?_|refine F2 hE hO fun _ H hO=>?_|(cases h;exact hK hO .z))
def cf229:Cf:=⟨[2],[],[],[],[],[]⟩
def c229 (N aF r)(h:CG N aF=some r):C2 prog 229 [.bool aF] ((H5 r)):=by
 refine Q9 cf229 func229 call229 ntmps229 ?_;intro E H0 K hE hK hO;cbv;refine F2 hE hO fun b1 H hO=>?_;cbv;refine B3 hE h (c269 N aF) .z fun r2 h=>?_;cbv;refine D1 hE hO 0 rfl rfl fun H hO=>?_;cbv;apply C6 hE hO 0 rfl;cbv;cases h;exact hK hO .z
def cf303:Cf:=⟨[4],[],[],[],[],[]⟩
def c303 (N aB aF r)(h:Ft N aB aF=some r):C2 prog 303 [vi aB,vi aF] ((H5 r)):=by
 refine Q9 cf303 func303 call303 ntmps303 ?_;intro E H0 K hE hK hO
 repeat' (cbv;first|refine B3 hE h (c229 _ _) .z fun _ h=>?_|apply C6 hE hO 0 rfl|refine D1 hE hO 0 rfl rfl fun H hO=>?_|refine F2 hE hO fun _ H hO=>?_|(cases h;exact hK hO .z))
def cf304:Cf:=⟨[4],[],[],[],[],[]⟩
def c304 (N aB aF r)(h:Fs N aB aF=some r):C2 prog 304 [vi aB,vi aF] ((H5 r)):=by
 refine Q9 cf304 func304 call304 ntmps304 ?_;intro E H0 K hE hK hO
 repeat' (cbv;first|refine B3 hE h (c229 _ _) .z fun _ h=>?_|apply C6 hE hO 0 rfl|refine D1 hE hO 0 rfl rfl fun H hO=>?_|refine F2 hE hO fun _ H hO=>?_|(cases h;exact hK hO .z))
def cf305:Cf:=⟨[4],[],[],[],[],[]⟩
def c305 (N aB aF r)(h:Fq N aB aF=some r):C2 prog 305 [vi aB,vi aF] ((H5 r)):=by
 refine Q9 cf305 func305 call305 ntmps305 ?_;intro E H0 K hE hK hO
 repeat' (cbv;first|refine B3 hE h (c229 _ _) .z fun _ h=>?_|apply C6 hE hO 0 rfl|refine D1 hE hO 0 rfl rfl fun H hO=>?_|refine F2 hE hO fun _ H hO=>?_|(cases h;exact hK hO .z))
def cf306:Cf:=⟨[4],[],[],[],[],[]⟩
def c306 (N aB aF r)(h:Fp N aB aF=some r):C2 prog 306 [vi aB,vi aF] ((H5 r)):=by
 refine Q9 cf306 func306 call306 ntmps306 ?_;intro E H0 K hE hK hO
 repeat' (cbv;first|refine B3 hE h (c229 _ _) .z fun _ h=>?_|apply C6 hE hO 0 rfl|refine D1 hE hO 0 rfl rfl fun H hO=>?_|refine F2 hE hO fun _ H hO=>?_|(cases h;exact hK hO .z))
def cf307:Cf:=⟨[4],[],[],[],[],[]⟩
def c307 (N aB aO r)(h:Fo N aB aO=some r):C2 prog 307 [vi aB,vi aO] ((H5 r)):=by
 refine Q9 cf307 func307 call307 ntmps307 ?_;intro E H0 K hE hK hO
 repeat' (cbv;first|refine B3 hE h (c229 _ _) .z fun _ h=>?_|apply C6 hE hO 0 rfl|refine D1 hE hO 0 rfl rfl fun H hO=>?_|refine F2 hE hO fun _ H hO=>?_|(cases h;exact hK hO .z))
def c267 (N r)(h:Sh N=some r):An3 prog 267 [] XA Xz:=by
 refine Am7 (T:=TT) cf0 S3 func267 (by rfl) (by kernel_rfl) call267 ntmps267 (by rfl) (by rfl) ?_;intro E H0 K hE hK;have hO:C8 Eq H0 [] H0:=.start M2 rfl
 repeat' (cbv;first|exact hK _ _ 0 _ rfl hO|refine Bl6 hE hO fun _ H hO=>?_|refine Bg2 hE (kt:=3) (et:=338) (by kernel_rfl) (by kernel_rfl) hO 0 rfl rfl fun H hO=>?_)
def c333 (N aG aK r)(h:Y5 N aG aK=some r):C2 prog 333 [(DH aG),vi aK] (sr eBo2 r):=by
 refine Q9 cf0 func333 call333 ntmps333 ?_;intro E H0 K hE hK hO;cbv;apply K9 hE;cbv;apply C7 hE h<;>intro _ h
 ·cbv;cases h;exact hK hO (.lit _ (F3))
 cbv;refine F6 hE eBr2 h fun x1 h=>?_;cbv;cases h;exact hK hO .z
end Go.Ab
