/- GVSh GVSo GVCo1 -/
import Derived.Test.YtjhobbohibnioaaGreatDoorD11
import Derived.Shelf.Strconv.Itoa1
import Derived.Shelf.Sort.Plain
import Derived.Shelf.Slices.CompactI
import Derived.Shelf.SlSortCmp.NoneTotal
import Derived.Test.YtjhobbohibnioaaGreatDoorProg
import Derived.KernelRfl
set_option linter.all false
/- The shelf laid at this program: plain. -/
open List (append_assoc)
open Go.Ab.Ar (cmp nt_eq)
namespace Go.Proofs
open Go.Shelf
set_option maxRecDepth 100000
def Tryz.laysNm189_ren :Ren:=
{
  f :=fun x=>
    match x with
    |189=>297
    |125=>125
    |257=>332
    |128=>167
    |129=>168
    |294=>348
    |295=>349
    |296=>350
    |297=>351
    |298=>352
    |299=>353
    |216=>354
    |300=>355
    |301=>356
    |328=>373
    |329=>220
    |330=>221
    |331=>374
    |332=>375
    |215=>131
    |343=>389
    |n=>n,
  t :=fun x=>
    match x with
    |28=>181
    |3=>3
    |46=>173
    |0=>0
    |51=>230
    |53=>232
    |4=>4
    |183=>224
    |182=>223
    |131=>127
    |5=>5
    |9=>9
    |218=>272
    |222=>276
    |228=>307
    |229=>187
    |n=>n,
  g :=fun x=>
    x}
theorem Tryz.laysNm189 :Lays.n189 Tryz.prog Tryz.laysNm189_ren:=
{ mixed :=(by kernel_rfl),f125:=Eq.trans Tryz.func125 (congrArg some (by kernel_rfl)),
  f128:=Eq.trans Tryz.func167 (congrArg some (by kernel_rfl)),
  f129:=Eq.trans Tryz.func168 (congrArg some (by kernel_rfl)),
  f189:=Eq.trans Tryz.func297 (congrArg some (by kernel_rfl)),
  f215:=Eq.trans Tryz.func131 (congrArg some (by kernel_rfl)),
  f216:=Eq.trans Tryz.func354 (congrArg some (by kernel_rfl)),
  f257:=Eq.trans Tryz.func332 (congrArg some (by kernel_rfl)),
  f294:=Eq.trans Tryz.func348 (congrArg some (by kernel_rfl)),
  f295:=Eq.trans Tryz.func349 (congrArg some (by kernel_rfl)),
  f296:=Eq.trans Tryz.func350 (congrArg some (by kernel_rfl)),
  f297:=Eq.trans Tryz.func351 (congrArg some (by kernel_rfl)),
  f298:=Eq.trans Tryz.func352 (congrArg some (by kernel_rfl)),
  f299:=Eq.trans Tryz.func353 (congrArg some (by kernel_rfl)),
  f300:=Eq.trans Tryz.func355 (congrArg some (by kernel_rfl)),
  f301:=Eq.trans Tryz.func356 (congrArg some (by kernel_rfl)),
  f328:=Eq.trans Tryz.func373 (congrArg some (by kernel_rfl)),
  f329:=Eq.trans Tryz.func220 (congrArg some (by kernel_rfl)),
  f330:=Eq.trans Tryz.func221 (congrArg some (by kernel_rfl)),
  f331:=Eq.trans Tryz.func374 (congrArg some (by kernel_rfl)),
  f332:=Eq.trans Tryz.func375 (congrArg some (by kernel_rfl)),
  f343:=Eq.trans Tryz.func389 (congrArg some (by kernel_rfl)),t0:=Tryz.underlying0,
  a0:=Tryz.isAgg0,z0:=Tryz.sizeOf0,v0:=Tryz.zeroValue0,t3:=Tryz.underlying3,a3:=Tryz.isAgg3,
  z3:=Tryz.sizeOf3,v3:=Tryz.zeroValue3,t4:=Tryz.underlying4,a4:=Tryz.isAgg4,z4:=Tryz.sizeOf4,
  v4:=Tryz.zeroValue4,t5:=Tryz.underlying5,a5:=Tryz.isAgg5,z5:=Tryz.sizeOf5,v5:=Tryz.zeroValue5,
  t9:=Tryz.underlying9,a9:=Tryz.isAgg9,z9:=Tryz.sizeOf9,v9:=Tryz.zeroValue9,t28:=Tryz.underlying181,
  a28:=Tryz.isAgg181,z28:=Tryz.sizeOf181,v28:=Tryz.zeroValue181,t46:=Tryz.underlying173,
  a46:=Tryz.isAgg173,z46:=Tryz.sizeOf173,v46:=Tryz.zeroValue173,t51:=Tryz.underlying230,
  a51:=Tryz.isAgg230,z51:=Tryz.sizeOf230,v51:=Tryz.zeroValue230,t53:=Tryz.underlying232,
  a53:=Tryz.isAgg232,z53:=Tryz.sizeOf232,v53:=Tryz.zeroValue232,t131:=Tryz.underlying127,
  a131:=Tryz.isAgg127,z131:=Tryz.sizeOf127,v131:=Tryz.zeroValue127,t182:=Tryz.underlying223,
  a182:=Tryz.isAgg223,z182:=Tryz.sizeOf223,v182:=Tryz.zeroValue223,t183:=Tryz.underlying224,
  a183:=Tryz.isAgg224,z183:=Tryz.sizeOf224,v183:=Tryz.zeroValue224,t218:=Tryz.underlying272,
  a218:=Tryz.isAgg272,z218:=Tryz.sizeOf272,v218:=Tryz.zeroValue272,t222:=Tryz.underlying276,
  a222:=Tryz.isAgg276,z222:=Tryz.sizeOf276,v222:=Tryz.zeroValue276,t228:=Tryz.underlying307,
  a228:=Tryz.isAgg307,z228:=Tryz.sizeOf307,v228:=Tryz.zeroValue307,t229:=Tryz.underlying187,
  a229:=Tryz.isAgg187,z229:=Tryz.sizeOf187,v229:=Tryz.zeroValue187}
def Tryz.laysNm220_ren :Ren:=
{
  f :=fun x=>
    match x with
    |20=>298
    |n=>n,
  t :=fun x=>
    match x with
    |22=>181
    |3=>3
    |4=>4
    |0=>0
    |n=>n,
  g :=fun x=>
    x}
theorem Tryz.laysNm220 :Lays2.n20 Tryz.prog Tryz.laysNm220_ren:=
{ mixed :=(by kernel_rfl),f20:=Eq.trans Tryz.func298 (congrArg some (by kernel_rfl)),
  t0:=Tryz.underlying0,a0:=Tryz.isAgg0,z0:=Tryz.sizeOf0,v0:=Tryz.zeroValue0,t3:=Tryz.underlying3,
  a3:=Tryz.isAgg3,z3:=Tryz.sizeOf3,v3:=Tryz.zeroValue3,t4:=Tryz.underlying4,a4:=Tryz.isAgg4,
  z4:=Tryz.sizeOf4,v4:=Tryz.zeroValue4,t22:=Tryz.underlying181,a22:=Tryz.isAgg181,z22:=Tryz.sizeOf181,
  v22:=Tryz.zeroValue181,i3:=Eq.refl (some (some (Value.int IntKind.i64 0),1,8))}
def Tryz.laysSlsf6_58_ren :Ren:=
{
  f :=fun x=>
    match x with
    |6=>58
    |15=>125
    |14=>124
    |28=>167
    |29=>168
    |20=>159
    |21=>160
    |22=>161
    |23=>162
    |24=>163
    |25=>164
    |26=>165
    |27=>166
    |46=>219
    |47=>220
    |48=>221
    |49=>222
    |50=>223
    |57=>263
    |n=>n,
  t :=fun x=>
    match x with
    |22=>37
    |24=>46
    |25=>53
    |3=>3
    |39=>173
    |0=>0
    |53=>230
    |55=>232
    |4=>4
    |46=>224
    |45=>223
    |50=>127
    |5=>5
    |9=>9
    |66=>272
    |70=>276
    |76=>307
    |77=>187
    |n=>n,
  g :=fun x=>
    x}
theorem Tryz.laysSlsf6_58 :SlLaysF0.n6 Tryz.prog Tryz.laysSlsf6_58_ren:=
{ mixed :=(by kernel_rfl),
  f6 :=
    Exists.intro "slices.SortFunc[[]tidegate/api.Derivation,tidegate/api.Derivation]"
      ⟨of_decide_eq_true (id ((by kernel_rfl))),
        Eq.trans Tryz.func58
          (congrArg some (by kernel_rfl))⟩,
  f14 :=
    Exists.intro "slices.pdqsortCmpFunc[tidegate/api.Derivation]"
      ⟨of_decide_eq_true (id ((by kernel_rfl))),
        Eq.trans Tryz.func124
          (congrArg some (by kernel_rfl))⟩,
  f15:=Eq.trans Tryz.func125 (congrArg some (by kernel_rfl)),
  f20 :=
    Exists.intro "slices.insertionSortCmpFunc[tidegate/api.Derivation]"
      ⟨of_decide_eq_true (id ((by kernel_rfl))),
        Eq.trans Tryz.func159
          (congrArg some (by kernel_rfl))⟩,
  f21 :=
    Exists.intro "slices.heapSortCmpFunc[tidegate/api.Derivation]"
      ⟨of_decide_eq_true (id ((by kernel_rfl))),
        Eq.trans Tryz.func160
          (congrArg some (by kernel_rfl))⟩,
  f22 :=
    Exists.intro "slices.breakPatternsCmpFunc[tidegate/api.Derivation]"
      ⟨of_decide_eq_true (id ((by kernel_rfl))),
        Eq.trans Tryz.func161
          (congrArg some (by kernel_rfl))⟩,
  f23 :=
    Exists.intro "slices.choosePivotCmpFunc[tidegate/api.Derivation]"
      ⟨of_decide_eq_true (id ((by kernel_rfl))),
        Eq.trans Tryz.func162
          (congrArg some (by kernel_rfl))⟩,
  f24 :=
    Exists.intro "slices.reverseRangeCmpFunc[tidegate/api.Derivation]"
      ⟨of_decide_eq_true (id ((by kernel_rfl))),
        Eq.trans Tryz.func163
          (congrArg some (by kernel_rfl))⟩,
  f25 :=
    Exists.intro "slices.partialInsertionSortCmpFunc[tidegate/api.Derivation]"
      ⟨of_decide_eq_true (id ((by kernel_rfl))),
        Eq.trans Tryz.func164
          (congrArg some (by kernel_rfl))⟩,
  f26 :=
    Exists.intro "slices.partitionEqualCmpFunc[tidegate/api.Derivation]"
      ⟨of_decide_eq_true (id ((by kernel_rfl))),
        Eq.trans Tryz.func165
          (congrArg some (by kernel_rfl))⟩,
  f27 :=
    Exists.intro "slices.partitionCmpFunc[tidegate/api.Derivation]"
      ⟨of_decide_eq_true (id ((by kernel_rfl))),
        Eq.trans Tryz.func166
          (congrArg some (by kernel_rfl))⟩,
  f28:=Eq.trans Tryz.func167 (congrArg some (by kernel_rfl)),
  f29:=Eq.trans Tryz.func168 (congrArg some (by kernel_rfl)),
  f46 :=
    Exists.intro "slices.siftDownCmpFunc[tidegate/api.Derivation]"
      ⟨of_decide_eq_true (id ((by kernel_rfl))),
        Eq.trans Tryz.func219
          (congrArg some (by kernel_rfl))⟩,
  f47:=Eq.trans Tryz.func220 (congrArg some (by kernel_rfl)),
  f48:=Eq.trans Tryz.func221 (congrArg some (by kernel_rfl)),
  f49 :=
    Exists.intro "slices.medianAdjacentCmpFunc[tidegate/api.Derivation]"
      ⟨of_decide_eq_true (id ((by kernel_rfl))),
        Eq.trans Tryz.func222
          (congrArg some (by kernel_rfl))⟩,
  f50 :=
    Exists.intro "slices.medianCmpFunc[tidegate/api.Derivation]"
      ⟨of_decide_eq_true (id ((by kernel_rfl))),
        Eq.trans Tryz.func223
          (congrArg some (by kernel_rfl))⟩,
  f57 :=
    Exists.intro "slices.order2CmpFunc[tidegate/api.Derivation]"
      ⟨of_decide_eq_true (id ((by kernel_rfl))),
        Eq.trans Tryz.func263
          (congrArg some (by kernel_rfl))⟩,
  t0:=Tryz.underlying0,a0:=Tryz.isAgg0,z0:=Tryz.sizeOf0,v0:=Tryz.zeroValue0,t3:=Tryz.underlying3,
  a3:=Tryz.isAgg3,z3:=Tryz.sizeOf3,v3:=Tryz.zeroValue3,t4:=Tryz.underlying4,a4:=Tryz.isAgg4,
  z4:=Tryz.sizeOf4,v4:=Tryz.zeroValue4,t5:=Tryz.underlying5,a5:=Tryz.isAgg5,z5:=Tryz.sizeOf5,
  v5:=Tryz.zeroValue5,t9:=Tryz.underlying9,a9:=Tryz.isAgg9,z9:=Tryz.sizeOf9,v9:=Tryz.zeroValue9,
  t22:=Tryz.underlying37,a22:=Tryz.isAgg37,z22:=Tryz.sizeOf37,v22:=Tryz.zeroValue37,
  t25:=Tryz.underlying53,a25:=Tryz.isAgg53,z25:=Tryz.sizeOf53,v25:=Tryz.zeroValue53,
  t39:=Tryz.underlying173,a39:=Tryz.isAgg173,z39:=Tryz.sizeOf173,v39:=Tryz.zeroValue173,
  t45:=Tryz.underlying223,a45:=Tryz.isAgg223,z45:=Tryz.sizeOf223,v45:=Tryz.zeroValue223,
  t46:=Tryz.underlying224,a46:=Tryz.isAgg224,z46:=Tryz.sizeOf224,v46:=Tryz.zeroValue224,
  t50:=Tryz.underlying127,a50:=Tryz.isAgg127,z50:=Tryz.sizeOf127,v50:=Tryz.zeroValue127,
  t53:=Tryz.underlying230,a53:=Tryz.isAgg230,z53:=Tryz.sizeOf230,v53:=Tryz.zeroValue230,
  t55:=Tryz.underlying232,a55:=Tryz.isAgg232,z55:=Tryz.sizeOf232,v55:=Tryz.zeroValue232,
  t66:=Tryz.underlying272,a66:=Tryz.isAgg272,z66:=Tryz.sizeOf272,v66:=Tryz.zeroValue272,
  t70:=Tryz.underlying276,a70:=Tryz.isAgg276,z70:=Tryz.sizeOf276,v70:=Tryz.zeroValue276,
  t76:=Tryz.underlying307,a76:=Tryz.isAgg307,z76:=Tryz.sizeOf307,v76:=Tryz.zeroValue307,
  t77:=Tryz.underlying187,a77:=Tryz.isAgg187,z77:=Tryz.sizeOf187,v77:=Tryz.zeroValue187}
def Tryz.laysSlsf6_180_ren :Ren:=
{
  f :=fun x=>
    match x with
    |6=>180
    |15=>125
    |14=>231
    |28=>167
    |29=>168
    |20=>270
    |21=>271
    |22=>272
    |23=>273
    |24=>274
    |25=>275
    |26=>276
    |27=>277
    |46=>310
    |47=>220
    |48=>221
    |49=>311
    |50=>312
    |57=>337
    |n=>n,
  t :=fun x=>
    match x with
    |22=>101
    |24=>109
    |25=>248
    |3=>3
    |39=>173
    |0=>0
    |53=>230
    |55=>232
    |4=>4
    |46=>224
    |45=>223
    |50=>127
    |5=>5
    |9=>9
    |66=>272
    |70=>276
    |76=>307
    |77=>187
    |n=>n,
  g :=fun x=>
    x}
theorem Tryz.laysSlsf6_180 :SlLaysF0.n6 Tryz.prog Tryz.laysSlsf6_180_ren:=
{ mixed :=(by kernel_rfl),
  f6 :=
    Exists.intro "slices.SortFunc[[]tidegate/derivation.pair,tidegate/derivation.pair]"
      ⟨of_decide_eq_true (id ((by kernel_rfl))),
        Eq.trans Tryz.func180
          (congrArg some (by kernel_rfl))⟩,
  f14 :=
    Exists.intro "slices.pdqsortCmpFunc[tidegate/derivation.pair]"
      ⟨of_decide_eq_true (id ((by kernel_rfl))),
        Eq.trans Tryz.func231
          (congrArg some (by kernel_rfl))⟩,
  f15:=Eq.trans Tryz.func125 (congrArg some (by kernel_rfl)),
  f20 :=
    Exists.intro "slices.insertionSortCmpFunc[tidegate/derivation.pair]"
      ⟨of_decide_eq_true (id ((by kernel_rfl))),
        Eq.trans Tryz.func270
          (congrArg some (by kernel_rfl))⟩,
  f21 :=
    Exists.intro "slices.heapSortCmpFunc[tidegate/derivation.pair]"
      ⟨of_decide_eq_true (id ((by kernel_rfl))),
        Eq.trans Tryz.func271
          (congrArg some (by kernel_rfl))⟩,
  f22 :=
    Exists.intro "slices.breakPatternsCmpFunc[tidegate/derivation.pair]"
      ⟨of_decide_eq_true (id ((by kernel_rfl))),
        Eq.trans Tryz.func272
          (congrArg some (by kernel_rfl))⟩,
  f23 :=
    Exists.intro "slices.choosePivotCmpFunc[tidegate/derivation.pair]"
      ⟨of_decide_eq_true (id ((by kernel_rfl))),
        Eq.trans Tryz.func273
          (congrArg some (by kernel_rfl))⟩,
  f24 :=
    Exists.intro "slices.reverseRangeCmpFunc[tidegate/derivation.pair]"
      ⟨of_decide_eq_true (id ((by kernel_rfl))),
        Eq.trans Tryz.func274
          (congrArg some (by kernel_rfl))⟩,
  f25 :=
    Exists.intro "slices.partialInsertionSortCmpFunc[tidegate/derivation.pair]"
      ⟨of_decide_eq_true (id ((by kernel_rfl))),
        Eq.trans Tryz.func275
          (congrArg some (by kernel_rfl))⟩,
  f26 :=
    Exists.intro "slices.partitionEqualCmpFunc[tidegate/derivation.pair]"
      ⟨of_decide_eq_true (id ((by kernel_rfl))),
        Eq.trans Tryz.func276
          (congrArg some (by kernel_rfl))⟩,
  f27 :=
    Exists.intro "slices.partitionCmpFunc[tidegate/derivation.pair]"
      ⟨of_decide_eq_true (id ((by kernel_rfl))),
        Eq.trans Tryz.func277
          (congrArg some (by kernel_rfl))⟩,
  f28:=Eq.trans Tryz.func167 (congrArg some (by kernel_rfl)),
  f29:=Eq.trans Tryz.func168 (congrArg some (by kernel_rfl)),
  f46 :=
    Exists.intro "slices.siftDownCmpFunc[tidegate/derivation.pair]"
      ⟨of_decide_eq_true (id ((by kernel_rfl))),
        Eq.trans Tryz.func310
          (congrArg some (by kernel_rfl))⟩,
  f47:=Eq.trans Tryz.func220 (congrArg some (by kernel_rfl)),
  f48:=Eq.trans Tryz.func221 (congrArg some (by kernel_rfl)),
  f49 :=
    Exists.intro "slices.medianAdjacentCmpFunc[tidegate/derivation.pair]"
      ⟨of_decide_eq_true (id ((by kernel_rfl))),
        Eq.trans Tryz.func311
          (congrArg some (by kernel_rfl))⟩,
  f50 :=
    Exists.intro "slices.medianCmpFunc[tidegate/derivation.pair]"
      ⟨of_decide_eq_true (id ((by kernel_rfl))),
        Eq.trans Tryz.func312
          (congrArg some (by kernel_rfl))⟩,
  f57 :=
    Exists.intro "slices.order2CmpFunc[tidegate/derivation.pair]"
      ⟨of_decide_eq_true (id ((by kernel_rfl))),
        Eq.trans Tryz.func337
          (congrArg some (by kernel_rfl))⟩,
  t0:=Tryz.underlying0,a0:=Tryz.isAgg0,z0:=Tryz.sizeOf0,v0:=Tryz.zeroValue0,t3:=Tryz.underlying3,
  a3:=Tryz.isAgg3,z3:=Tryz.sizeOf3,v3:=Tryz.zeroValue3,t4:=Tryz.underlying4,a4:=Tryz.isAgg4,
  z4:=Tryz.sizeOf4,v4:=Tryz.zeroValue4,t5:=Tryz.underlying5,a5:=Tryz.isAgg5,z5:=Tryz.sizeOf5,
  v5:=Tryz.zeroValue5,t9:=Tryz.underlying9,a9:=Tryz.isAgg9,z9:=Tryz.sizeOf9,v9:=Tryz.zeroValue9,
  t22:=Tryz.underlying101,a22:=Tryz.isAgg101,z22:=Tryz.sizeOf101,v22:=Tryz.zeroValue101,
  t25:=Tryz.underlying248,a25:=Tryz.isAgg248,z25:=Tryz.sizeOf248,v25:=Tryz.zeroValue248,
  t39:=Tryz.underlying173,a39:=Tryz.isAgg173,z39:=Tryz.sizeOf173,v39:=Tryz.zeroValue173,
  t45:=Tryz.underlying223,a45:=Tryz.isAgg223,z45:=Tryz.sizeOf223,v45:=Tryz.zeroValue223,
  t46:=Tryz.underlying224,a46:=Tryz.isAgg224,z46:=Tryz.sizeOf224,v46:=Tryz.zeroValue224,
  t50:=Tryz.underlying127,a50:=Tryz.isAgg127,z50:=Tryz.sizeOf127,v50:=Tryz.zeroValue127,
  t53:=Tryz.underlying230,a53:=Tryz.isAgg230,z53:=Tryz.sizeOf230,v53:=Tryz.zeroValue230,
  t55:=Tryz.underlying232,a55:=Tryz.isAgg232,z55:=Tryz.sizeOf232,v55:=Tryz.zeroValue232,
  t66:=Tryz.underlying272,a66:=Tryz.isAgg272,z66:=Tryz.sizeOf272,v66:=Tryz.zeroValue272,
  t70:=Tryz.underlying276,a70:=Tryz.isAgg276,z70:=Tryz.sizeOf276,v70:=Tryz.zeroValue276,
  t76:=Tryz.underlying307,a76:=Tryz.isAgg307,z76:=Tryz.sizeOf307,v76:=Tryz.zeroValue307,
  t77:=Tryz.underlying187,a77:=Tryz.isAgg187,z77:=Tryz.sizeOf187,v77:=Tryz.zeroValue187}
end Go.Proofs
namespace Go.Proofs
open Go.Shelf Go.RowKit Go.Lib Go.Sort Go.Ab
set_option maxRecDepth 100000
theorem Tryz.sorts58 :QU Tryz.prog 58 5:=OL Tryz.laysSlsf6_58 Tryz.isAgg46 Tryz.sizeOf46
theorem Tryz.sorts180 :QU Tryz.prog 180 2:=OL Tryz.laysSlsf6_180 Tryz.isAgg109 Tryz.sizeOf109
end Go.Proofs
namespace Go.Ab
open Go.RowKit Go.Proofs Go.Proofs.Tryz I8
abbrev vi (n:Int):V:=.int .i64 n
abbrev sr [Ar]{α:Type}(f:α→V)(l:List α):V:=.sl (Ar.lst f l) .ro
abbrev cb (b:Nat)(l:List V):En:=.blk b (.cells l)
abbrev ob [Ar]{α:Type}(q:OG)(n:Nat)(f:α→V)(l:List α):En:=.blk q.id (.arr n (q.pre++Ar.lst f l++q.rest))
abbrev fi (k:Nat)(n:Int):Nat×Sl:=(k,.v (vi n))
instance globs :J9:=⟨fun n=>match n with
 |0=>.eref [vi 0,vi 0,.bool true,.bool true,.bool false,.bool false,vi 2,vi 64,.bool false,.bool false,.bool false,.bool false,vi 2,vi 64,.bool false,.bool false,.bool false,.bool false,vi 2,vi 64,.bool false,.bool false,.bool false,.bool false,vi 1,vi 1,.bool false,.bool false,.bool false,.bool false,vi 1,vi 1,.bool true,.bool true,.bool true,.bool false,vi 1,vi 1,.bool false,.bool false,.bool true,.bool true,vi 1,vi 1,.bool false,.bool true,.bool false,.bool false,vi 2,vi 2,.bool false,.bool false,.bool false,.bool false,vi 1,vi 1,.bool true,.bool true,.bool true,.bool false,vi 1,vi 1,.bool false,.bool false,.bool true,.bool true] 0
 |_=>.bad⟩
variable [Ar][I8]
set_option maxRecDepth 100000
theorem L4 :QV prog TT:=⟨okT,by rfl⟩
def cf0 :Cf:=⟨[],[],[],[],[],[]⟩
theorem He.e2 {l r:Fl}{k1 k2:Nat}{x1 x2:V}(hr:He l r)(h1:AY l k1=x1:=by rfl)(h2:AY l k2=x2:=by rfl):He l ((k1,.v x1)::(k2,.v x2)::r):=.e h1 (.e h2 hr)
theorem He.e4 {l r:Fl}{k1 k2 k3 k4:Nat}{x1 x2 x3 x4:V}(hr:He l r)(h1:AY l k1=x1:=by rfl)(h2:AY l k2=x2:=by rfl)(h3:AY l k3=x3:=by rfl)(h4:AY l k4=x4:=by rfl):He l ((k1,.v x1)::(k2,.v x2)::(k3,.v x3)::(k4,.v x4)::r):=.e2 (.e2 hr h3 h4) h1 h2
theorem J2 {f:FuncId}{fn:Func}{c:Code}{n:Nat}{rs:List ResultVar}{args:List V}{r:V}(cf:Cf)(hf:prog.funcs[f]? =some fn)(hcall:∀vals w,(callFunc f vals).run prog w= .ok (.enter f vals) w)(hnt:fn.ntmps=n)
 (h:∀(E:CU) (H:A2) (K:V→A2→Prop),E=G0 prog n none→(∀{x L H'},C3 Eq H L H'→BG x r→K x H')→C3 Eq H [] H→run E TT n cf c ⟨Bp args 0,[]⟩ H (Lu E TT rs K))
 (hb:fn.body=some c:=by rfl) (hd:I4 cf c=true:=by kernel_rfl) (hrs:fn.results.toList=rs:=by rfl) (hn:Nat.ble args.length n=true:=by rfl):B6 prog f args r:=
 OB cf L4 hf hb hd hcall hnt hrs hn fun E H K hE hK=>h E H K hE (fun a b=>hK _ _ _ a b) (.start H5 rfl)
def SM :Go.TypeDesc:=Go.TypeDesc.struct #[{name:= "source",type:=3,offset:=0,embedded:=false,tag:= "",pkgPath:= "tidegate/stream",byteOffset:=0},{name:= "seq",type:=3,offset:=1,embedded:=false,tag:= "",pkgPath:= "tidegate/stream",byteOffset:=8}]
theorem VL :Oj prog SM eAw4:=Pc (g:=fun(x:E1)=>[x.source,x.seq]) (fun x=>(eAw8 x).trans rfl) (fun _=>rfl) (fun x y h=>by cases x;cases y;cases h;rfl) (by kernel_rfl)
def As8 :Go.TypeDesc:=Go.TypeDesc.struct #[{name:= "node",type:=3,offset:=0,embedded:=false,tag:= "",pkgPath:= "tidegate/derivation",byteOffset:=0},{name:= "first",type:=3,offset:=1,embedded:=false,tag:= "",pkgPath:= "tidegate/derivation",byteOffset:=8},{name:= "last",type:=3,offset:=2,embedded:=false,tag:= "",pkgPath:= "tidegate/derivation",byteOffset:=16},{name:= "outer",type:=3,offset:=3,embedded:=false,tag:= "",pkgPath:= "tidegate/derivation",byteOffset:=24}]
theorem Ak9 :Oj prog As8 eAv7:=Pc (g:=fun(x:B8)=>[x.node,x.first,x.last,x.outer]) (fun x=>(eAx2 x).trans rfl) (fun _=>rfl) (fun x y h=>by cases x;cases y;cases h;rfl) (by kernel_rfl)
theorem c68 (N bU r) (h:Cj N bU=some r):B6 prog 68 [sr (V.int .i64) bU] (vi r):=by
 unfold Cj at h
 refine J2 cf0 func68 call68 ntmps68 ?_;intro E H0 K hE hK hO;cbv;refine E0 hE ?_;cbv;obtain⟨s2,hx,h⟩:=bind_some h;refine E6 cf0 hE L4 (fun s1=>[fi 3 0,(6,.v (sr (V.int .i64) bU)),fi 7 (Ar.len bU),fi 8 s1]) (fun s1 H1=>C3 Eq H0 [] H1) (fun x e l H1=>match(generalizing:=false) x with| .inl y=>e= .exit 0∧l=[fi 3 0]∧C3 Eq H0 [] H1| .inr y=>e= .ret∧l=[fi 2 y]∧C3 Eq H0 [] H1) (by kernel_rfl) ?_ hx ?_ hO ?_
 ·intro s1 H o hO h;clear hx;cbv;refine A5 hE h (fun _ h=>?_) fun _ h=>?_
  ·cbv;refine C1 hE (fun _=>rfl) h fun x3 h=>?_;cbv;refine A5 hE h (fun _ h=>?_) fun _ h=>?_
   ·cbv;cases h;exact⟨_,_,rfl,⟨rfl,rfl,hO⟩,.e rfl .z,rfl⟩
   cbv;cases h;exact⟨_,rfl,.e4 .z,rfl,hO⟩
  cbv;cases h;exact⟨_,_,rfl,⟨rfl,rfl,hO⟩,.e rfl .z,rfl⟩
 ·exact .e4 .z
 clear hx
 rcases s2 with y4|y5
 ·rintro e l H ⟨rfl,rfl,hO⟩;cbv;cases h;exact hK hO (.refl _)
 rintro e l H ⟨rfl,rfl,hO⟩;cbv;cases h;exact hK hO (.refl _)
theorem c131 (N aG r)(h:Cb N aG=some r):B6 prog 131 [vi aG] (.bool r):=by
 unfold Cb at h
 refine J2 cf0 func131 call131 ntmps131 ?_;intro E H0 K hE hK hO;cbv;cases h;exact hK hO (.refl _)
theorem c70 (N aG aS r) (h:J0 N aG aS=some r):B6 prog 70 [vi aG,vi aS] (vi r):=by
 unfold J0 at h
 refine J2 cf0 func70 call70 ntmps70 ?_;intro E H0 K hE hK hO;cbv;refine A4 hE h (c131 N aG) (.refl _) fun r1 h=>?_;cbv;refine A4 hE h (c131 N aS) (.refl _) fun r2 h=>?_;cbv;refine A5 hE h (fun _ h=>?_) fun _ h=>?_
 ·cbv;refine A5 hE h (fun _ h=>?_) fun _ h=>?_
  ·cbv;cases h;exact hK hO (.refl _)
  cbv;cases h;exact hK hO (.refl _)
 cbv;refine A5 hE h (fun _ h=>?_) fun _ h=>?_
 ·cbv;cases h;exact hK hO (.refl _)
 cbv;refine A5 hE h (fun _ h=>?_) fun _ h=>?_
 ·cbv;cases h;exact hK hO (.refl _)
 cbv;refine A5 hE h (fun _ h=>?_) fun _ h=>?_
 ·cbv;cases h;exact hK hO (.refl _)
 cbv;cases h;exact hK hO (.refl _)
def cf116 :Cf:=⟨[2],[],[],[],[],[]⟩
theorem c116 (N aB r)(h:BC N aB=some r):B6 prog 116 [(Q4 aB)] ((Bb r)):=by
 unfold BC at h
 refine J2 cf116 func116 call116 ntmps116 ?_;intro E H0 K hE hK hO;cbv;refine C9 hE hO fun b1 H hO=>?_;cbv;refine B0 hE hO 0 rfl rfl fun H hO=>?_;cbv;refine B1 hE hO 0 rfl ?_;cbv;cases h;exact hK hO (.refl _)
def cf72 :Cf:=⟨[],[(1,3),(3,14)],[],[],[],[]⟩
theorem c72 (N aC aD r)(h:Y7 N aC aD=some r):B6 prog 72 [(Q4 aC),(Q4 aD)] (vi r):=by
 unfold Y7 at h
 refine J2 cf72 func72 call72 ntmps72 ?_;intro E H0 K hE hK hO;cbv;refine C7 hE (g:=fun r1=>(Bb r1)) h (c116 N aC) (.refl _) fun r1 h=>?_;cbv;refine A4 hE h (c116 N aD) (.refl _) fun r2 h=>?_;cbv;refine A5 hE h (fun _ h=>?_) fun _ h=>?_
 ·cbv;cases h;exact hK hO (.refl _)
 cbv;refine C7 hE (g:=fun r3=>vi r3) h (c70 N aC.Time aD.Time) (.refl _) fun r3 h=>?_;cbv;refine C7 hE (g:=fun r4=>vi r4) h (c70 N aC.Source aD.Source) (.refl _) fun r4 h=>?_;cbv;refine A4 hE h (c70 N aC.Seq aD.Seq) (.refl _) fun r5 h=>?_;cbv;refine A4 hE h (c68 N ([r3,r4,r5])) (.cons (.lit _ (E5 (rfl) (E5 (rfl) (E5 (rfl) (D5))))) (.refl _)) fun r6 h=>?_;cbv;cases h;exact hK hO (.refl _)
def cf73 :Cf:=⟨[8],[],[],[],[],[]⟩
theorem c73 (N:Nat) (bP:List A1) (bS:List A1) (bB:V) (aY:A1→A1→Option Int) (bQ:∀y1 y2 q,aY y1 y2=some q→W3 prog bB [(C8 y1),(C8 y2)] (vi q)) (r:Int) (h:F3 N bP bS aY=some r):B6 prog 73 [sr eAu5 bP,sr eAu5 bS,bB] (vi r):=by
 unfold F3 at h
 refine J2 cf73 func73 call73 ntmps73 ?_;intro E H0 K hE hK hO;cbv;refine E0 hE ?_;cbv;obtain⟨s2,hx,h⟩:=bind_some h;refine E6 cf73 hE L4 (fun s1=>[(0,.v (sr eAu5 bP)),(1,.v (sr eAu5 bS)),(2,.v (bB)),(11,.v (sr eAu5 bP)),fi 12 (Ar.len bP),fi 13 s1]) (fun s1 H1=>C3 Eq H0 [] H1) (fun x e l H1=>match(generalizing:=false) x with| .inl y=>e= .exit 0∧l=[(0,.v (sr eAu5 bP)),(1,.v (sr eAu5 bS))]∧C3 Eq H0 [] H1| .inr y=>e= .ret∧l=[fi 6 y]∧C3 Eq H0 [] H1) (by kernel_rfl) ?_ hx ?_ hO ?_
 ·intro s1 H o hO h;clear hx;cbv;refine A5 hE h (fun _ h=>?_) fun _ h=>?_
  ·cbv;refine C1 hE eAu7 h fun x3 h=>?_;cbv;refine C9 hE hO fun b4 H hO=>?_;cbv;refine B0 hE hO 0 rfl rfl fun H hO=>?_;cbv;refine E0 hE ?_;cbv;refine A5 hE h (fun _ h=>?_) fun _ h=>?_
   ·cbv;cases h;exact⟨_,_,rfl,⟨rfl,rfl,hO.tail⟩,.e rfl .z,rfl⟩
   cbv;refine C1 hE eAu7 h fun x5 h=>?_;cbv;refine B1 hE hO 0 rfl ?_;cbv;refine Aq hE (g:=fun r6=>vi r6) h (fun r6 hx=>bQ x3 x5 r6 hx) (.refl _) fun r6 h=>?_;cbv;refine A5 hE h (fun _ h=>?_) fun _ h=>?_
   ·cbv;cases h;exact⟨_,_,rfl,⟨rfl,rfl,hO.tail⟩,.e rfl .z,rfl⟩
   cbv;cases h;exact⟨_,rfl,.e2 (.e4 .z),rfl,hO.tail⟩
  cbv;cases h;exact⟨_,_,rfl,⟨rfl,rfl,hO⟩,.e2 .z,rfl⟩
 ·exact .e2 (.e4 .z)
 clear hx
 rcases s2 with y7|y8
 ·rintro e l H ⟨rfl,rfl,hO⟩;cbv;refine E0 hE ?_;cbv;refine E0 hE ?_;cbv;refine A5 hE h (fun _ h=>?_) fun _ h=>?_
  ·cbv;cases h;exact hK hO (.refl _)
  cbv;cases h;exact hK hO (.refl _)
 rintro e l H ⟨rfl,rfl,hO⟩;cbv;cases h;exact hK hO (.refl _)
theorem c21 (N:Nat):∀n aC aD r,R5 N n aC aD=some r→B6 prog 21 [(C8 aC),(C8 aD)] (vi r):=by
 intro n
 induction n with
 |zero=>intro aC aD r h;cases h
 |succ n ih=>
 intro aC aD r h
 unfold R5 at h
 refine J2 cf0 func21 call21 ntmps21 ?_;intro E H0 K hE hK hO;cbv;refine A4 hE h (c72 N (⟨aC.Ref.Source,aC.Ref.Seq,0,aC.Ref.Time,[]⟩:A9) (⟨aD.Ref.Source,aD.Ref.Seq,0,aD.Ref.Time,[]⟩:A9)) (.cons (.agg (.cons (.refl _) (.cons (.refl _) (.cons (.refl _) (.cons (.refl _) (.cons (.lit _ (D5)) (.refl _))))))) (.cons (.agg (.cons (.refl _) (.cons (.refl _) (.cons (.refl _) (.cons (.refl _) (.cons (.lit _ (D5)) (.refl _))))))) (.refl _))) fun r1 h=>?_;cbv;refine A5 hE h (fun _ h=>?_) fun _ h=>?_
 ·cbv;cases h;exact hK hO (.refl _)
 cbv;refine A5 hE h (fun _ h=>?_) fun _ h=>?_
 ·cbv;cases h;exact hK hO (.refl _)
 cbv;refine A5 hE h (fun _ h=>?_) fun _ h=>?_
 ·cbv;cases h;exact hK hO (.refl _)
 cbv;refine A4 hE (g:=fun r2=>vi r2) h (fun r2 hx=>c73 N aC.Kids aD.Kids (.func (.func 21) [] []) (fun y1 y2=>R5 N n y1 y2) (fun y1 y2 r hx=>B6.value (F:=[]) (C:=[]) (ih y1 y2 r hx)) r2 hx) (.refl _) fun r2 h=>?_;cbv;cases h;exact hK hO (.refl _)
theorem c29 (N:Nat):∀n aH r,M1 N n aH=some r→B6 prog 29 [(C8 aH)] (vi r):=by
 intro n
 induction n with
 |zero=>intro aH r h;cases h
 |succ n ih=>
 intro aH r h
 unfold M1 at h
 refine J2 cf0 func29 call29 ntmps29 ?_;intro E H0 K hE hK hO;cbv;refine E0 hE ?_;cbv;obtain⟨s2,hx,h⟩:=bind_some h;refine E6 cf0 hE L4 (fun s1=>[fi 3 s1.1,(7,.v (sr eAu5 aH.Kids)),fi 8 (Ar.len aH.Kids),fi 9 s1.2]) (fun s1 H1=>C3 Eq H0 [] H1) (fun x e l H1=>e= .exit 0∧l=[fi 3 x]∧C3 Eq H0 [] H1) (by kernel_rfl) ?_ hx ?_ hO ?_
 ·intro s1 H o hO h;clear hx;cbv;refine A5 hE h (fun _ h=>?_) fun _ h=>?_
  ·cbv;refine C1 hE eAu7 h fun x3 h=>?_;cbv;refine A4 hE h (ih x3) (.refl _) fun r4 h=>?_;cbv;cases h;exact⟨_,rfl,.e4 .z,rfl,hO⟩
  cbv;cases h;exact⟨_,_,rfl,⟨rfl,rfl,hO⟩,.e rfl .z,rfl⟩
 ·exact .e4 .z
 clear hx;rintro e l H ⟨rfl,rfl,hO⟩;cbv;cases h;exact hK hO (.refl _)
theorem c217 (N:Nat):∀n aA r,U4 N n aA=some r→KX prog 217 (fun yv=>[(C0 aA),yv]) (List.map (fun(x:A0)=>[(C0 x)]) r) rbB:=by
 intro n
 induction n with
 |zero=>intro aA r h;cases h
 |succ n ih=>
 intro aA r h
 unfold U4 at h
 obtain⟨⟨w0,u0⟩,h1,hr⟩:=bind_some h;clear h;have hr:=D3 hr;subst hr;have h:=h1;clear h1;refine BZ cf0 L4 func217 (by rfl) (by kernel_rfl) call217 ntmps217 (by rfl) (fun _=>rfl) ?_;intro yv I D hI hD hy tl F E H K hE hO hK hKD
 have hO:C3 (I (List.map (fun(x:A0)=>[(C0 x)]) (w0++[])++tl)) F [] H:=by rw[List.append_nil];exact hO
 cbv;obtain⟨w1,h1,he⟩:=Cm h;clear h;have h:=h1;clear h1
 rw[he,append_assoc]at hO
 clear he;have hO:C3 (I ([(C0 aA)]::(List.map (fun(x:A0)=>[(C0 x)]) (w1++[])++tl))) F [] _:=hO;refine Mv hE hI hD hy hO (.refl _) (fun H hO=>?_) (fun H hO=>?_)
 ·cbv;refine SC hE (nt_eq _) ?_;cbv;refine E0 hE ?_;cbv;obtain⟨w3,w4,s7,hx,h1,he⟩:=Y0 h;clear h;have h:=h1;clear h1
  rw[he,append_assoc]at hO
  clear he;refine VK cf0 hE L4 (γ:=Unit) (fun s2 g=>[(1,.v (yv)),(12,.v (sr eAv1 aA.cK)),fi 13 (Ar.len aA.cK),fi 14 s2]) (fun s2 g w H1=>C3 (I (List.map (fun(x:A0)=>[(C0 x)]) w++tl)) F [] H1) (fun x e l w H1=>e= .exit 0∧l=[]∧C3 (I (List.map (fun(x:A0)=>[(C0 x)]) w++tl)) F [] H1) (fun e l H1=>(e= .ret∧l=[(4,.b false)]∧C3 D F [] H1)) (by kernel_rfl) ?_ (w':=w4++[]) () hx ?_ ?_ ?_ ?_
  ·rintro s2 _ w5 w6 H o hO h;clear hx
   skip
   cbv;refine A5 hE h (fun _ h=>?_) fun _ h=>?_
   ·cbv;refine C1 hE eAv2 h fun x8 h=>?_;cbv;obtain⟨l9,hl,h⟩:=bind_some h;obtain⟨w10,h1,he⟩:=Cm h;clear h;have h:=h1;clear h1
    rw[he,append_assoc]at hO
    clear he
    rw[List.map_append,append_assoc]at hO
    refine Qs hE hI hD hy (ih x8 l9 hl) hO (.refl _) (fun v H hb hO=>?_) (fun v H hb hO=>?_)
    ·cases hb;clear hl;cbv;refine SC hE (nt_eq _) ?_;cbv;obtain⟨hw,rfl⟩:=I5 h
     rw[←hw]at hO
     exact⟨_,(),rfl,.e4 .z,rfl,hO⟩
    cases hb;clear h hl;cbv;refine SB hE (nt_eq _) ?_;cbv;exact .inr ⟨_,⟨rfl,rfl,hO⟩,.b rfl (.z),rfl⟩
   cbv;obtain⟨hw,rfl⟩:=I5 h
   rw[←hw]at hO
   exact .inl ⟨_,_,rfl,⟨rfl,rfl,hO⟩,.z,rfl⟩
  ·exact .e4 .z
  ·exact hO
  ·rintro e l H ⟨rfl,rfl,hO⟩;clear hx;cbv;obtain⟨hw,_⟩:=I5 h
   rw[←hw]at hO
   exact hK _ _ _ hO rfl
  rintro e l H hX;obtain⟨rfl,rfl,hO⟩:=hX;clear h;cbv;exact hKD _ _ _ hO rfl
 clear h;cbv;refine SB hE (nt_eq _) ?_;cbv;exact hKD _ _ _ hO rfl
theorem c216 (N aP r) (h:An N aP=some r):KX prog 216 (fun yv=>[yv,.eref (D6 aP) 0]) (List.map (fun(x:A0)=>[(C0 x)]) r) rbN:=by
 unfold An at h
 obtain⟨⟨w0,u0⟩,h1,hr⟩:=bind_some h;clear h;have hr:=D3 hr;subst hr;have h:=h1;clear h1;refine BZ cf0 L4 func216 (by rfl) (by kernel_rfl) call216 ntmps216 (by rfl) (fun _=>rfl) ?_;intro yv I D hI hD hy tl F E H K hE hO hK hKD
 have hO:C3 (I (List.map (fun(x:A0)=>[(C0 x)]) (w0++[])++tl)) F [] H:=by rw[List.append_nil];exact hO
 cbv;obtain⟨l1,hl,h⟩:=bind_some h;obtain⟨w2,h1,he⟩:=Cm h;clear h;have h:=h1;clear h1
 rw[he,append_assoc]at hO
 clear he
 rw[List.map_append,append_assoc]at hO
 refine Qs hE hI hD hy (c217 N N aP l1 hl) hO (.refl _) (fun v H hb hO=>?_) (fun v H hb hO=>?_)
 ·cases hb;clear hl;cbv;obtain⟨hw,_⟩:=I5 h
  rw[←hw]at hO
  exact hK _ _ _ hO trivial
 cases hb;clear h hl;cbv;exact hKD _ _ _ hO trivial
theorem c157 (N aA r)(h:O3 N aA=some r):Ij prog 157 [(C0 aA)] (fun v=>Ok prog v (r.map fun(x:A0)=>[(C0 x)])):=by
 unfold O3 at h
 refine Ji cf0 L4 func157 (by rfl) (by kernel_rfl) call157 ntmps157 (by rfl) (by rfl) ?_;intro E H0 K hE hK;have hO:C3 Eq H0 [] H0:=.start H5 rfl;cbv;exact hK _ _ _ hO (Jc call216 (c216 N aA r h))
theorem c214 (N:Nat):∀n aA r,O0 N n aA=some r→B6 prog 214 [(C0 aA)] (.tup [vi r.1,vi r.2]):=by
 intro n
 induction n with
 |zero=>intro aA r h;cases h
 |succ n ih=>
 intro aA r h
 unfold O0 at h
 refine J2 cf0 func214 call214 ntmps214 ?_;intro E H0 K hE hK hO;cbv;refine E0 hE ?_;cbv;obtain⟨s2,hx,h⟩:=bind_some h;refine E6 cf0 hE L4 (fun s1=>[fi 4 s1.1,fi 5 s1.2.1,(11,.v (sr eAv1 aA.cK)),fi 12 (Ar.len aA.cK),fi 13 s1.2.2]) (fun s1 H1=>C3 Eq H0 [] H1) (fun x e l H1=>e= .exit 0∧l=[fi 4 x.1,fi 5 x.2]∧C3 Eq H0 [] H1) (by kernel_rfl) ?_ hx ?_ hO ?_
 ·intro s1 H o hO h;clear hx;cbv;refine A5 hE h (fun _ h=>?_) fun _ h=>?_
  ·cbv;refine C1 hE eAv2 h fun x3 h=>?_;cbv;refine A4 hE h (ih x3) (.refl _) fun r4 h=>?_;cbv;cases h;exact⟨_,rfl,.e rfl (.e4 .z),rfl,hO⟩
  cbv;cases h;exact⟨_,_,rfl,⟨rfl,rfl,hO⟩,.e2 .z,rfl⟩
 ·exact .e rfl (.e4 .z)
 clear hx;rintro e l H ⟨rfl,rfl,hO⟩;cbv;cases h;exact hK hO (.refl _)
theorem c259 (N bJ aQ bK r)(h:S5 N bJ aQ bK=some r):B6 prog 259 [.bool bJ,vi aQ,vi bK] (.bool r):=by
 unfold S5 at h
 refine J2 cf0 func259 call259 ntmps259 ?_;intro E H0 K hE hK hO;cbv;cases h;exact hK hO (.refl _)
theorem c294 (N:Nat):∀n aB r,BB N n aB=some r→B6 prog 294 [(S2 aB)] (.tup [vi r.1,vi r.2]):=by
 intro n
 induction n with
 |zero=>intro aB r h;cases h
 |succ n ih=>
 intro aB r h
 unfold BB at h
 refine J2 cf0 func294 call294 ntmps294 ?_;intro E H0 K hE hK hO;cbv;refine E0 hE ?_;cbv;obtain⟨s2,hx,h⟩:=bind_some h;refine E6 cf0 hE L4 (fun s1=>[fi 4 s1.1,fi 5 s1.2.1,(11,.v (sr eAw0 aB.cK)),fi 12 (Ar.len aB.cK),fi 13 s1.2.2]) (fun s1 H1=>C3 Eq H0 [] H1) (fun x e l H1=>e= .exit 0∧l=[fi 4 x.1,fi 5 x.2]∧C3 Eq H0 [] H1) (by kernel_rfl) ?_ hx ?_ hO ?_
 ·intro s1 H o hO h;clear hx;cbv;refine A5 hE h (fun _ h=>?_) fun _ h=>?_
  ·cbv;refine C1 hE eAv9 h fun x3 h=>?_;cbv;refine A4 hE h (ih x3) (.refl _) fun r4 h=>?_;cbv;cases h;exact⟨_,rfl,.e rfl (.e4 .z),rfl,hO⟩
  cbv;cases h;exact⟨_,_,rfl,⟨rfl,rfl,hO⟩,.e2 .z,rfl⟩
 ·exact .e rfl (.e4 .z)
 clear hx;rintro e l H ⟨rfl,rfl,hO⟩;cbv;cases h;exact hK hO (.refl _)
theorem c295 (N:Nat):∀(n:Nat) (aB:B4) (bL:V) (bH:B4→Option Int) (bT:∀y1 q,bH y1=some q→W3 prog bL [(S2 y1)] (vi q)) (r:Int),Bo N n aB bH=some r→B6 prog 295 [(S2 aB),bL] (vi r):=by
 intro n
 induction n with
 |zero=>intro aB bL bH bT r h;cases h
 |succ n ih=>
 intro aB bL bH bT r h
 unfold Bo at h
 refine J2 cf0 func295 call295 ntmps295 ?_;intro E H0 K hE hK hO;cbv;refine Aq hE (g:=fun r1=>vi r1) h (fun r1 hx=>bT aB r1 hx) (.refl _) fun r1 h=>?_;cbv;refine A5 hE h (fun _ h=>?_) fun _ h=>?_
 ·cbv;cases h;exact hK hO (.refl _)
 cbv;refine E0 hE ?_;cbv;obtain⟨s3,hx,h⟩:=bind_some h;refine E6 cf0 hE L4 (fun s2=>[(1,.v (bL)),(16,.v (sr eAw0 aB.cK)),fi 17 (Ar.len aB.cK),fi 18 s2]) (fun s2 H1=>C3 Eq H0 [] H1) (fun x e l H1=>match(generalizing:=false) x with| .inl y=>e= .exit 0∧l=[]∧C3 Eq H0 [] H1| .inr y=>e= .ret∧l=[fi 4 y]∧C3 Eq H0 [] H1) (by kernel_rfl) ?_ hx ?_ hO ?_
 ·intro s2 H o hO h;clear hx;cbv;refine A5 hE h (fun _ h=>?_) fun _ h=>?_
  ·cbv;refine C1 hE eAv9 h fun x4 h=>?_;cbv;refine A4 hE h (ih x4 bL bH bT) (.refl _) fun r5 h=>?_;cbv;refine A5 hE h (fun _ h=>?_) fun _ h=>?_
   ·cbv;cases h;exact⟨_,_,rfl,⟨rfl,rfl,hO⟩,.e rfl .z,rfl⟩
   cbv;cases h;exact⟨_,rfl,.e4 .z,rfl,hO⟩
  cbv;cases h;exact⟨_,_,rfl,⟨rfl,rfl,hO⟩,.z,rfl⟩
 ·exact .e4 .z
 clear hx
 rcases s3 with y6|y7
 ·rintro e l H ⟨rfl,rfl,hO⟩;cbv;cases h;exact hK hO (.refl _)
 rintro e l H ⟨rfl,rfl,hO⟩;cbv;cases h;exact hK hO (.refl _)
theorem c329 (N aL r)(h:EU N aL=some r):B6 prog 329 [vi aL] (.tup [vi r.1,.bool r.2]):=by
 unfold EU at h
 refine J2 cf0 func329 call329 ntmps329 ?_;intro E H0 K hE hK hO;cbv;refine A5 hE h (fun _ h=>?_) fun _ h=>?_
 ·cbv;cases h;exact hK hO (.refl _)
 cbv;refine A5 hE h (fun _ h=>?_) fun _ h=>?_
 ·cbv;cases h;exact hK hO (.refl _)
 cbv;refine A5 hE h (fun _ h=>?_) fun _ h=>?_
 ·cbv;cases h;exact hK hO (.refl _)
 cbv;cases h;exact hK hO (.refl _)
def cf330 :Cf:=⟨[],[],[(5,4)],[],[],[]⟩
theorem c330 (N aL r) (h:Gm N aL=some r):B6 prog 330 [vi aL] (.tup [.bool r.1,.bool r.2]):=by
 unfold Gm at h
 refine J2 cf330 func330 call330 ntmps330 ?_;intro E H0 K hE hK hO;cbv;obtain⟨s1,hx,h⟩:=bind_some h;refine J4 cf330 hE L4 (fun e l H1=>e= .normal∧l=[fi 4 aL,(5,.v (.bool s1))]∧C3 Eq H0 [] H1) (by kernel_rfl) ?_ ?_
 ·clear h;have h:=hx;clear hx;cbv;refine A5 hE h (fun _ h=>?_) fun _ h=>?_
  ·cbv;cases h;exact⟨_,⟨rfl,rfl,hO⟩,.e2 .z,rfl⟩
  cbv;cases h;exact⟨_,⟨rfl,rfl,hO⟩,.e2 .z,rfl⟩
 clear hx;rintro e l H ⟨rfl,rfl,hO⟩;cbv;refine A5 hE h (fun _ h=>?_) fun _ h=>?_
 ·cbv;cases h;exact hK hO (.refl _)
 cbv;refine A5 hE h (fun _ h=>?_) fun _ h=>?_
 ·cbv;cases h;exact hK hO (.refl _)
 cbv;refine A5 hE h (fun _ h=>?_) fun _ h=>?_
 ·cbv;cases h;exact hK hO (.refl _)
 cbv;cases h;exact hK hO (.refl _)
theorem c358 (N aJ r)(h:Ev N aJ=some r):B6 prog 358 [(D7 aJ)] (vi r):=by
 unfold Ev at h
 refine J2 cf0 func358 call358 ntmps358 ?_;intro E H0 K hE hK hO;cbv;refine A5 hE h (fun _ h=>?_) fun _ h=>?_
 ·cbv;cases h;exact hK hO (.refl _)
 cbv;refine A5 hE h (fun _ h=>?_) fun _ h=>?_
 ·cbv;cases h;exact hK hO (.refl _)
 cbv;refine A5 hE h (fun _ h=>?_) fun _ h=>?_
 ·cbv;cases h;exact hK hO (.refl _)
 cbv;cases h;exact hK hO (.refl _)
def cf336 :Cf:=⟨[],[],[(5,5)],[],[],[]⟩
theorem c336 (N aJ r) (h:U5 N aJ=some r):B6 prog 336 [(D7 aJ)] (vi r):=by
 unfold U5 at h
 refine J2 cf336 func336 call336 ntmps336 ?_;intro E H0 K hE hK hO;cbv;obtain⟨s1,hx,h⟩:=bind_some h;refine J4 cf336 hE L4 (fun e l H1=>e= .normal∧l=[(1,.v (.eref (O6 aJ) 0)),fi 4 aJ.Kind,(5,.v (.bool s1))]∧C3 Eq H0 [] H1) (by kernel_rfl) ?_ ?_
 ·clear h;have h:=hx;clear hx;cbv;refine A5 hE h (fun _ h=>?_) fun _ h=>?_
  ·cbv;cases h;exact⟨_,⟨rfl,rfl,hO⟩,.e rfl (.e2 .z),rfl⟩
  cbv;cases h;exact⟨_,⟨rfl,rfl,hO⟩,.e rfl (.e2 .z),rfl⟩
 clear hx;rintro e l H ⟨rfl,rfl,hO⟩;cbv;refine A5 hE h (fun _ h=>?_) fun _ h=>?_
 ·cbv;refine A5 hE h (fun _ h=>?_) fun _ h=>?_
  ·cbv;cases h;exact hK hO (.refl _)
  cbv;refine A4 hE h (c358 N aJ) (.refl _) fun r2 h=>?_;cbv;cases h;exact hK hO (.refl _)
 cbv;refine A5 hE h (fun _ h=>?_) fun _ h=>?_
 ·cbv;refine A5 hE h (fun _ h=>?_) fun _ h=>?_
  ·cbv;cases h;exact hK hO (.refl _)
  cbv;refine A4 hE h (c358 N aJ) (.refl _) fun r3 h=>?_;cbv;cases h;exact hK hO (.refl _)
 cbv;cases h;exact hK hO (.refl _)
theorem c347 (N aM aJ r)(h:ET N aM aJ=some r):B6 prog 347 [vi aM,(D7 aJ)] (.bool r):=by
 unfold ET at h
 refine J2 cf0 func347 call347 ntmps347 ?_;intro E H0 K hE hK hO;cbv;cases h;exact hK hO (.refl _)
theorem c331 (N aB r) (h:CJ N aB=some r):B6 prog 331 [(S2 aB)] (vi r):=by
 unfold CJ at h
 refine J2 cf0 func331 call331 ntmps331 ?_;intro E H0 K hE hK hO;cbv;refine A4 hE h (c336 N aB.Value) (.refl _) fun r1 h=>?_;cbv;refine A5 hE h (fun _ h=>?_) fun _ h=>?_
 ·cbv;cases h;exact hK hO (.refl _)
 cbv;refine A5 hE h (fun _ h=>?_) fun _ h=>?_
 ·cbv;refine A4 hE h (c347 N aB.Kind aB.Value) (.refl _) fun r2 h=>?_;cbv;refine A5 hE h (fun _ h=>?_) fun _ h=>?_
  ·cbv;cases h;exact hK hO (.refl _)
  cbv;cases h;exact hK hO (.refl _)
 cbv;cases h;exact hK hO (.refl _)
def cf296 :Cf:=⟨[],[],[(73,15)],[],[],[]⟩
theorem c296 (N aB r) (h:Es N aB=some r):B6 prog 296 [(S2 aB)] (vi r):=by
 unfold Es at h
 refine J2 cf296 func296 call296 ntmps296 ?_;intro E H0 K hE hK hO;cbv;refine A4 hE h (c329 N aB.Op) (.refl _) fun r1 h=>?_;cbv;refine A5 hE h (fun _ h=>?_) fun _ h=>?_
 ·cbv;cases h;exact hK hO (.refl _)
 cbv;refine E0 hE ?_;cbv;refine A5 hE h (fun _ h=>?_) fun _ h=>?_
 ·cbv;cases h;exact hK hO (.refl _)
 cbv;refine A4 hE h (c330 N aB.Op) (.refl _) fun r2 h=>?_;cbv;refine A5 hE h (fun _ h=>?_) fun _ h=>?_
 ·cbv;cases h;exact hK hO (.refl _)
 cbv;refine A5 hE h (fun _ h=>?_) fun _ h=>?_
 ·cbv;cases h;exact hK hO (.refl _)
 cbv;obtain⟨s3,hx,h⟩:=bind_some h;refine J4 cf296 hE L4 (fun e l H1=>match(generalizing:=false) s3 with| .inl y=>e= .normal∧l=[(1,.v (.eref (Ay aB) 0)),(5,.v (.bool r2.1)),(6,.v (.bool r2.2)),(7,.v (.bool (cmp .eql aB.Op 4))),(8,.v (.bool (Ar.or (cmp .eql aB.Op 4) (cmp .eql aB.Op 0))))]∧C3 Eq H0 [] H1| .inr y=>e= .ret∧l=[fi 2 y]∧C3 Eq H0 [] H1) (by kernel_rfl) ?_ ?_
 ·clear h;have h:=hx;clear hx;cbv;refine A5 hE h (fun _ h=>?_) fun _ h=>?_
  ·cbv;refine A4 hE h (c331 N aB) (.refl _) fun r4 h=>?_;cbv;refine A5 hE h (fun _ h=>?_) fun _ h=>?_
   ·cbv;cases h;exact⟨_,⟨rfl,rfl,hO⟩,.e rfl .z,rfl⟩
   cbv;cases h;exact⟨_,⟨rfl,rfl,hO⟩,.e rfl (.e4 .z),rfl⟩
  cbv;cases h;exact⟨_,⟨rfl,rfl,hO⟩,.e rfl (.e4 .z),rfl⟩
 clear hx
 rcases s3 with y5|y6
 ·rintro e l H ⟨rfl,rfl,hO⟩;cbv;refine A5 hE h (fun _ h=>?_) fun _ h=>?_
  ·cbv;cases h;exact hK hO (.refl _)
  cbv;cases h;exact hK hO (.refl _)
 rintro e l H ⟨rfl,rfl,hO⟩;cbv;cases h;exact hK hO (.refl _)
theorem c260 (N aB r)(h:Df N aB=some r):B6 prog 260 [(S2 aB)] (vi r):=by
 unfold Df at h
 refine J2 cf0 func260 call260 ntmps260 ?_;intro E H0 K hE hK hO;cbv;refine A4 hE h (c294 N N aB) (.refl _) fun r1 h=>?_;cbv;refine A5 hE h (fun _ h=>?_) fun _ h=>?_
 ·cbv;cases h;exact hK hO (.refl _)
 cbv;refine A5 hE h (fun _ h=>?_) fun _ h=>?_
 ·cbv;cases h;exact hK hO (.refl _)
 cbv;refine A4 hE (g:=fun r2=>vi r2) h (fun r2 hx=>c295 N N aB (.func (.func 296) [] []) (fun y1=>Es N y1) (fun y1 r hx=>B6.value (F:=[]) (C:=[]) (c296 N y1 r hx)) r2 hx) (.refl _) fun r2 h=>?_;cbv;cases h;exact hK hO (.refl _)
def cf261 :Cf:=⟨[],[(6,10)],[],[],[],[]⟩
theorem c261 (N:Nat):∀n aC aD r,Et N n aC aD=some r→B6 prog 261 [(S2 aC),(S2 aD)] (.bool r):=by
 intro n
 induction n with
 |zero=>intro aC aD r h;cases h
 |succ n ih=>
 intro aC aD r h
 unfold Et at h
 refine J2 cf261 func261 call261 ntmps261 ?_;intro E H0 K hE hK hO;cbv;refine E0 hE ?_;cbv;refine E0 hE ?_;cbv;refine A5 hE h (fun _ h=>?_) fun _ h=>?_
 ·cbv;cases h;exact hK hO (.refl _)
 cbv;refine E0 hE ?_;cbv;obtain⟨s2,hx,h⟩:=bind_some h;refine E6 cf261 hE L4 (fun s1=>[(2,.v (.eref (Ay aC) 0)),(3,.v (.eref (Ay aD) 0)),fi 50 (Ar.len aC.cK),fi 51 s1]) (fun s1 H1=>C3 Eq H0 [] H1) (fun x e l H1=>match(generalizing:=false) x with| .inl y=>e= .exit 0∧l=[]∧C3 Eq H0 [] H1| .inr y=>e= .ret∧l=[(4,.b false)]∧C3 Eq H0 [] H1) (by kernel_rfl) ?_ hx ?_ hO ?_
 ·intro s1 H o hO h;clear hx;cbv;refine A5 hE h (fun _ h=>?_) fun _ h=>?_
  ·cbv;refine C1 hE eAv9 h fun x3 h=>?_;cbv;refine C1 hE eAv9 h fun x4 h=>?_;cbv;refine A4 hE h (ih x3 x4) (.refl _) fun r5 h=>?_;cbv;refine A5 hE h (fun _ h=>?_) fun _ h=>?_
   ·cbv;cases h;exact⟨_,_,rfl,⟨rfl,rfl,hO⟩,.b rfl (.z),rfl⟩
   cbv;cases h;exact⟨_,rfl,.e4 .z,rfl,hO⟩
  cbv;cases h;exact⟨_,_,rfl,⟨rfl,rfl,hO⟩,.z,rfl⟩
 ·exact .e4 .z
 clear hx
 rcases s2 with y6|y7
 ·rintro e l H ⟨rfl,rfl,hO⟩;cbv;cases h;exact hK hO (.refl _)
 rintro e l H ⟨rfl,rfl,hO⟩;cbv;cases h;exact hK hO (.refl _)
theorem c262 (N bJ aQ r)(h:M0 N bJ aQ=some r):B6 prog 262 [.bool bJ,vi aQ] (.bool r):=by
 unfold M0 at h
 refine J2 cf0 func262 call262 ntmps262 ?_;intro E H0 K hE hK hO;cbv;cases h;exact hK hO (.refl _)
def cf215 :Cf:=⟨[],[],[(64,10)],[],[],[]⟩
theorem c215 (N aA r) (h:R6 N aA=some r):B6 prog 215 [(C0 aA)] (vi r):=by
 unfold R6 at h
 refine J2 cf215 func215 call215 ntmps215 ?_;intro E H0 K hE hK hO;cbv;refine A5 hE h (fun _ h=>?_) fun _ h=>?_
 ·cbv;cases h;exact hK hO (.refl _)
 cbv;refine YW hE (g:=fun x=>(GX x)) (l:=H7) rfl (fun _=>rfl) rfl rfl h fun x1 h=>?_;cbv;refine E0 hE ?_;cbv;refine E0 hE ?_;cbv;refine A5 hE h (fun _ h=>?_) fun _ h=>?_
 ·cbv;cases h;exact hK hO (.refl _)
 cbv;refine A4 hE h (c259 N x1.cN aA.Typ 15) (.refl _) fun r2 h=>?_;cbv;refine A5 hE h (fun _ h=>?_) fun _ h=>?_
 ·cbv;cases h;exact hK hO (.refl _)
 cbv;refine A4 hE h (c259 N x1.cN aA.Var 15) (.refl _) fun r3 h=>?_;cbv;refine A5 hE h (fun _ h=>?_) fun _ h=>?_
 ·cbv;cases h;exact hK hO (.refl _)
 cbv;refine A4 hE h (c259 N x1.scope aA.cO 63) (.refl _) fun r4 h=>?_;cbv;refine A5 hE h (fun _ h=>?_) fun _ h=>?_
 ·cbv;cases h;exact hK hO (.refl _)
 cbv;refine A4 hE h (c259 N x1.span aA.Span 1099511627776) (.refl _) fun r5 h=>?_;cbv;refine A5 hE h (fun _ h=>?_) fun _ h=>?_
 ·cbv;cases h;exact hK hO (.refl _)
 cbv;obtain⟨s6,hx,h⟩:=bind_some h;refine J4 cf215 hE L4 (fun e l H1=>match(generalizing:=false) s6 with| .inl y=>e= .normal∧l=[(1,.v (.eref (D6 aA) 0)),(3,.v (.eref (DU x1) 0))]∧C3 Eq H0 [] H1| .inr y=>e= .ret∧l=[fi 2 y]∧C3 Eq H0 [] H1) (by kernel_rfl) ?_ ?_
 ·clear h;have h:=hx;clear hx;cbv;refine A5 hE h (fun _ h=>?_) fun _ h=>?_
  ·cbv;refine A4 hE h (c260 N aA.cL) (.refl _) fun r7 h=>?_;cbv;refine A5 hE h (fun _ h=>?_) fun _ h=>?_
   ·cbv;cases h;exact⟨_,⟨rfl,rfl,hO⟩,.e rfl .z,rfl⟩
   cbv;cases h;exact⟨_,⟨rfl,rfl,hO⟩,.e2 .z,rfl⟩
  cbv;cases h;exact⟨_,⟨rfl,rfl,hO⟩,.e2 .z,rfl⟩
 clear hx
 rcases s6 with y8|y18
 ·rintro e l H ⟨rfl,rfl,hO⟩;cbv;refine A5 hE h (fun _ h=>?_) fun _ h=>?_
  ·cbv;refine A4 hE h (c261 N N aA.cL (⟨0,[],0,0,0,(⟨0,0,⟨#[]⟩⟩:A6)⟩:B4)) (.cons (.refl _) (.cons (.agg (.cons (.refl _) (.cons (.lit _ (D5)) (.refl _)))) (.refl _))) fun r9 h=>?_;cbv;refine A5 hE h (fun _ h=>?_) fun _ h=>?_
   ·cbv;cases h;exact hK hO (.refl _)
   cbv;refine A4 hE h (c262 N x1.cN aA.Typ) (.refl _) fun r10 h=>?_;cbv;refine A5 hE h (fun _ h=>?_) fun _ h=>?_
   ·cbv;cases h;exact hK hO (.refl _)
   cbv;refine A4 hE h (c262 N x1.cN aA.Var) (.refl _) fun r11 h=>?_;cbv;refine A5 hE h (fun _ h=>?_) fun _ h=>?_
   ·cbv;cases h;exact hK hO (.refl _)
   cbv;refine A4 hE h (c262 N x1.scope aA.cO) (.refl _) fun r12 h=>?_;cbv;refine A5 hE h (fun _ h=>?_) fun _ h=>?_
   ·cbv;cases h;exact hK hO (.refl _)
   cbv;refine A4 hE h (c262 N x1.span aA.Span) (.refl _) fun r13 h=>?_;cbv;refine A5 hE h (fun _ h=>?_) fun _ h=>?_
   ·cbv;cases h;exact hK hO (.refl _)
   cbv;cases h;exact hK hO (.refl _)
  cbv;refine A4 hE h (c262 N x1.cN aA.Typ) (.refl _) fun r14 h=>?_;cbv;refine A5 hE h (fun _ h=>?_) fun _ h=>?_
  ·cbv;cases h;exact hK hO (.refl _)
  cbv;refine A4 hE h (c262 N x1.cN aA.Var) (.refl _) fun r15 h=>?_;cbv;refine A5 hE h (fun _ h=>?_) fun _ h=>?_
  ·cbv;cases h;exact hK hO (.refl _)
  cbv;refine A4 hE h (c262 N x1.scope aA.cO) (.refl _) fun r16 h=>?_;cbv;refine A5 hE h (fun _ h=>?_) fun _ h=>?_
  ·cbv;cases h;exact hK hO (.refl _)
  cbv;refine A4 hE h (c262 N x1.span aA.Span) (.refl _) fun r17 h=>?_;cbv;refine A5 hE h (fun _ h=>?_) fun _ h=>?_
  ·cbv;cases h;exact hK hO (.refl _)
  cbv;cases h;exact hK hO (.refl _)
 rintro e l H ⟨rfl,rfl,hO⟩;cbv;cases h;exact hK hO (.refl _)
def cf156 :Cf:=⟨[2],[],[],[],[],[]⟩
theorem c156 (N aA r) (h:X4 N aA=some r):B6 prog 156 [(C0 aA)] (vi r):=by
 unfold X4 at h
 refine J2 cf156 func156 call156 ntmps156 ?_;intro E H0 K hE hK hO;cbv;refine C9 hE hO fun b1 H hO=>?_;cbv;refine A4 hE h (c214 N N aA) (.refl _) fun r2 h=>?_;cbv;refine A5 hE h (fun _ h=>?_) fun _ h=>?_
 ·cbv;refine B0 hE hO 0 rfl rfl fun H hO=>?_;cbv;refine B1 hE hO 0 rfl ?_;cbv;cases h;exact hK hO (.refl _)
 cbv;refine A5 hE h (fun _ h=>?_) fun _ h=>?_
 ·cbv;refine B0 hE hO 0 rfl rfl fun H hO=>?_;cbv;refine B1 hE hO 0 rfl ?_;cbv;cases h;exact hK hO (.refl _)
 cbv;refine IC hE h (c157 N aA) (.refl _) fun r3 v4 hv4 h=>?_;cbv;obtain⟨o9,hx,h⟩:=bind_some h;refine Ku cf156 hE L4 (ι:=Unit) (enc:=fun(x:A0)=>[(C0 x)]) (fun(s6:Unit) F H=>C3 Eq F [cb b1 [vi 0]] H) (fun(r:Int) e F H=>e= .ret∧C3 Eq F [cb b1 [vi r]] H) (fun i s6 y5=>[(2,.v (.ref b1 0)),(5,.v (.eref (D6 y5) 0))]) (fun i s6 y5 F H=>C3 Eq F [cb b1 [vi 0]] H) (fun _=>C3.stable H5 _) (fun _ _=>E3.con (C3.stable H5 _)) (fun _ _ _=>C3.stable H5 _) hv4 hx (hO) (by decide) (fun _=>rfl) (by kernel_rfl) (by kernel_rfl) ?_ ?_ ?_ ?_
 ·rintro E i8 y5 s6 F7 H hE hO;clear hx h;cbv;exact⟨(),hO,.e2 .z,rfl⟩
 ·rintro E i8 _ y5 s6 F7 H o hE hF h hO;clear hx;cbv;refine A4 hE h (c215 N y5) (.refl _) fun r10 h=>?_;cbv;refine A5 hE h (fun _ h=>?_) fun _ h=>?_
  ·cbv;refine B0 hE hO 0 rfl rfl fun H hO=>?_;cbv;cases h;exact⟨_,rfl,rfl,⟨rfl,hO⟩⟩
  cbv;cases h;exact⟨_,rfl,hO⟩
 ·rintro d11 s13 H rfl hd hO;have hO:C3 Eq H0 [cb b1 [vi 0],.blk d11 DB] H:=C3.dblk hd hO;clear hd;clear hx;cbv;refine B0 hE hO 0 rfl rfl fun H hO=>?_;cbv;refine Kv hE hO 1 rfl fun H hO=>?_;cbv;refine B1 hE hO 0 rfl ?_;cbv;cases h;exact hK hO (.refl _)
 rintro d11 y14 e H rfl hd hX;clear hx
 rcases hX with⟨rfl,hO⟩
 have hO:C3 Eq H0 [cb b1 [vi y14],.blk d11 DB] H:=C3.dblk hd hO;clear hd;cbv;refine Kv hE hO 1 rfl fun H hO=>?_;cbv;refine B1 hE hO 0 rfl ?_;cbv;cases h;exact hK hO (.refl _)
def cf117 :Cf:=⟨[2],[],[],[],[],[]⟩
theorem c117 (N aA r) (h:BU N aA=some r):B6 prog 117 [(C0 aA)] (vi r):=by
 unfold BU at h
 refine J2 cf117 func117 call117 ntmps117 ?_;intro E H0 K hE hK hO;cbv;refine C9 hE hO fun b1 H hO=>?_;cbv;refine A4 hE h (c156 N aA) (.refl _) fun r2 h=>?_;cbv;refine A5 hE h (fun _ h=>?_) fun _ h=>?_
 ·cbv;refine B0 hE hO 0 rfl rfl fun H hO=>?_;cbv;refine B1 hE hO 0 rfl ?_;cbv;cases h;exact hK hO (.refl _)
 cbv;refine IC hE h (c157 N aA) (.refl _) fun r3 v4 hv4 h=>?_;cbv;obtain⟨o9,hx,h⟩:=bind_some h;refine Ku cf117 hE L4 (ι:=Unit) (enc:=fun(x:A0)=>[(C0 x)]) (fun(s6:Unit) F H=>C3 Eq F [cb b1 [vi 0]] H) (fun(r:Int) e F H=>e= .ret∧C3 Eq F [cb b1 [vi r]] H) (fun i s6 y5=>[(2,.v (.ref b1 0)),(4,.v (.eref (D6 y5) 0))]) (fun i s6 y5 F H=>C3 Eq F [cb b1 [vi 0]] H) (fun _=>C3.stable H5 _) (fun _ _=>E3.con (C3.stable H5 _)) (fun _ _ _=>C3.stable H5 _) hv4 hx (hO) (by decide) (fun _=>rfl) (by kernel_rfl) (by kernel_rfl) ?_ ?_ ?_ ?_
 ·rintro E i8 y5 s6 F7 H hE hO;clear hx h;cbv;exact⟨(),hO,.e2 .z,rfl⟩
 ·rintro E i8 _ y5 s6 F7 H o hE hF h hO;clear hx;cbv;refine A5 hE h (fun _ h=>?_) fun _ h=>?_
  ·cbv;refine B0 hE hO 0 rfl rfl fun H hO=>?_;cbv;cases h;exact⟨_,rfl,rfl,⟨rfl,hO⟩⟩
  cbv;cases h;exact⟨_,rfl,hO⟩
 ·rintro d10 s12 H rfl hd hO;have hO:C3 Eq H0 [cb b1 [vi 0],.blk d10 DB] H:=C3.dblk hd hO;clear hd;clear hx;cbv;refine B0 hE hO 0 rfl rfl fun H hO=>?_;cbv;refine Kv hE hO 1 rfl fun H hO=>?_;cbv;refine B1 hE hO 0 rfl ?_;cbv;cases h;exact hK hO (.refl _)
 rintro d10 y13 e H rfl hd hX;clear hx
 rcases hX with⟨rfl,hO⟩
 have hO:C3 Eq H0 [cb b1 [vi y13],.blk d10 DB] H:=C3.dblk hd hO;clear hd;cbv;refine Kv hE hO 1 rfl fun H hO=>?_;cbv;refine B1 hE hO 0 rfl ?_;cbv;cases h;exact hK hO (.refl _)
def cf118 :Cf:=⟨[5,6,7],[(11,5)],[(18,7)],[],[],[]⟩
theorem c118 (N aA r) (h:BV N aA=some r):B6 prog 118 [(C0 aA)] (.tup [vi r.1,vi r.2.1,.bool r.2.2]):=by
 unfold BV at h
 refine J2 cf118 func118 call118 ntmps118 ?_;intro E H0 K hE hK hO;cbv;refine C9 hE hO fun b1 H hO=>?_;cbv;refine C9 hE hO fun b2 H hO=>?_;cbv;refine C9 hE hO fun b3 H hO=>?_;cbv;refine B0 hE hO 2 rfl rfl fun H hO=>?_;cbv;refine B0 hE hO 1 rfl rfl fun H hO=>?_;cbv;refine B0 hE hO 0 rfl rfl fun H hO=>?_;cbv;refine IC hE h (c157 N aA) (.refl _) fun r4 v5 hv5 h=>?_;cbv;obtain⟨o10,hx,h⟩:=bind_some h;refine Ku cf118 hE L4 (ι:=Unit) (enc:=fun(x:A0)=>[(C0 x)]) (fun(s7:Bool×Int×Int) F H=>C3 Eq F [cb b3 [.bool s7.1],cb b2 [vi s7.2.1],cb b1 [vi s7.2.2]] H) (fun(r:Unit) e F H=>False) (fun i s7 y6=>[(5,.v (.ref b1 0)),(6,.v (.ref b2 0)),(7,.v (.ref b3 0)),(8,.v (.eref (D6 y6) 0))]) (fun i s7 y6 F H=>C3 Eq F [cb b3 [.bool s7.1],cb b2 [vi s7.2.1],cb b1 [vi s7.2.2]] H) (fun _=>C3.stable H5 _) (fun _ _=>⟨fun h=>h.elim,fun _ _ h=>h.elim⟩) (fun _ _ _=>C3.stable H5 _) hv5 hx (hO) (by decide) (fun _=>rfl) (by kernel_rfl) (by kernel_rfl) ?_ ?_ ?_ ?_
 ·rintro E i9 y6 s7 F8 H hE hO;clear hx h;cbv;exact⟨(),hO,.e4 .z,rfl⟩
 ·rintro E i9 _ y6 s7 F8 H o hE hF h hO;clear hx;cbv;refine YW hE (g:=fun x=>(GX x)) (l:=H7) rfl (fun _=>rfl) rfl rfl h fun x11 h=>?_;cbv;obtain⟨s12,hx,h⟩:=bind_some h;refine J4 cf118 hE L4 (fun e l H1=>e= .normal∧l=[(6,.v (.ref b2 0)),(7,.v (.ref b3 0)),(8,.v (.eref (D6 y6) 0)),(9,.v (.eref (DU x11) 0))]∧C3 Eq F8 [cb b3 [.bool s12.1],cb b2 [vi s7.2.1],cb b1 [vi s12.2]] H1) (by kernel_rfl) ?_ ?_
  ·clear h;have h:=hx;clear hx;cbv;refine A5 hE h (fun _ h=>?_) fun _ h=>?_
   ·cbv;refine B1 hE hO 0 rfl ?_;cbv;refine B1 hE hO 2 rfl ?_;cbv;refine B0 hE hO 0 rfl rfl fun H hO=>?_;cbv;refine B1 hE hO 2 rfl ?_;cbv;refine B0 hE hO 2 rfl rfl fun H hO=>?_;cbv;cases h;exact⟨_,⟨rfl,rfl,hO⟩,.e4 .z,rfl⟩
   cbv;cases h;exact⟨_,⟨rfl,rfl,hO⟩,.e4 .z,rfl⟩
  clear hx;rintro e l H ⟨rfl,rfl,hO⟩;cbv;refine A5 hE h (fun _ h=>?_) fun _ h=>?_
  ·cbv;refine B1 hE hO 0 rfl ?_;cbv;refine B1 hE hO 1 rfl ?_;cbv;refine B0 hE hO 0 rfl rfl fun H hO=>?_;cbv;refine B1 hE hO 1 rfl ?_;cbv;refine B0 hE hO 1 rfl rfl fun H hO=>?_;cbv;cases h;exact⟨_,rfl,hO⟩
  cbv;cases h;exact⟨_,rfl,hO⟩
 ·rintro d13 s15 H rfl hd hO;have hO:C3 Eq H0 [cb b3 [.bool s15.1],cb b2 [vi s15.2.1],cb b1 [vi s15.2.2],.blk d13 DB] H:=C3.dblk hd hO;clear hd;clear hx;cbv;refine B1 hE hO 2 rfl ?_;cbv;refine B1 hE hO 1 rfl ?_;cbv;refine B1 hE hO 0 rfl ?_;cbv;refine Kv hE hO 3 rfl fun H hO=>?_;cbv;cases h;exact hK hO (.refl _)
 rintro d r e H rfl hd hO;exact hO.elim
theorem c55 (N aA r)(h:Y4 N aA=some r):B6 prog 55 [(C0 aA)] (vi r):=by
 unfold Y4 at h
 refine J2 cf0 func55 call55 ntmps55 ?_;intro E H0 K hE hK hO;cbv;refine A4 hE h (c117 N aA) (.refl _) fun r1 h=>?_;cbv;refine A5 hE h (fun _ h=>?_) fun _ h=>?_
 ·cbv;cases h;exact hK hO (.refl _)
 cbv;refine A4 hE h (c118 N aA) (.refl _) fun r2 h=>?_;cbv;refine A5 hE h (fun _ h=>?_) fun _ h=>?_
 ·cbv;cases h;exact hK hO (.refl _)
 cbv;cases h;exact hK hO (.refl _)
theorem c119 (N aB r)(h:Dt N aB=some r):B6 prog 119 [(Q4 aB)] (.bool r):=by
 unfold Dt at h
 refine J2 cf0 func119 call119 ntmps119 ?_;intro E H0 K hE hK hO;cbv;cases h;exact hK hO (.refl _)
def cf120 :Cf:=⟨[2],[],[],[],[],[]⟩
theorem c120 (N aB r)(h:CV N aB=some r):B6 prog 120 [(Q4 aB)] ((Kk r)):=by
 unfold CV at h
 refine J2 cf120 func120 call120 ntmps120 ?_;intro E H0 K hE hK hO;cbv;refine C9 hE hO fun b1 H hO=>?_;cbv;refine B0 hE hO 0 rfl rfl fun H hO=>?_;cbv;refine B1 hE hO 0 rfl ?_;cbv;cases h;exact hK hO (.refl _)
def cf56 :Cf:=⟨[5],[(9,9)],[],[],[],[]⟩
theorem c56 (N aI r) (h:X2 N aI=some r):B6 prog 56 [sr eAu4 aI] (vi r):=by
 unfold X2 at h
 refine J2 cf56 func56 call56 ntmps56 ?_;intro E H0 K hE hK hO;cbv;refine E0 hE ?_;cbv;refine A5 hE h (fun _ h=>?_) fun _ h=>?_
 ·cbv;cases h;exact hK hO (.refl _)
 cbv;refine As1 hE SM eAw4 V.bool hO fun m1 o2 H ho2 hO=>?_;cbv;refine E0 hE ?_;cbv;obtain⟨s5,hx,h⟩:=bind_some h;refine P5 cf56 hE L4 (γ:=Obj) (fun s3 g=>[(0,.v (sr eAu4 aI)),(3,.v (.map m1)),(10,.v (sr eAu4 aI)),fi 11 (Ar.len aI),fi 12 s3.1]) (fun s3 g H1=>Mok SM eAw4 V.bool g s3.2∧C3 Eq H0 [.blk m1 (.obj g)] H1) (fun x e l H1=>match(generalizing:=false) x with| .inl y=>∃u1:Obj,Mok SM eAw4 V.bool u1 y∧e= .exit 0∧l=[]∧C3 Eq H0 [.blk m1 (.obj u1)] H1| .inr y=>∃u1:Obj,Mok SM eAw4 V.bool u1 y.2∧e= .ret∧l=[fi 2 y.1]∧C3 Eq H0 [.blk m1 (.obj u1)] H1) (by kernel_rfl) ?_ o2 hx ?_ ?_ ?_
 ·rintro s3 q4 H o ⟨hq4,hO⟩ h;clear hx;cbv;refine A5 hE h (fun _ h=>?_) fun _ h=>?_
  ·cbv;refine C1 hE eAv0 h fun x6 h=>?_;cbv;refine C9 hE hO fun b7 H hO=>?_;cbv;refine B0 hE hO 0 rfl rfl fun H hO=>?_;cbv;refine B1 hE hO 0 rfl ?_;cbv;refine A4 hE h (c119 N x6) (.refl _) fun r8 h=>?_;cbv;refine A5 hE h (fun _ h=>?_) fun _ h=>?_
   ·cbv;cases h;exact⟨_,_,rfl,⟨q4,hq4,rfl,rfl,hO.tail⟩,.e rfl .z,rfl⟩
   cbv;refine A5 hE h (fun _ h=>?_) fun _ h=>?_
   ·cbv;refine C1 hE eAv0 h fun x9 h=>?_;cbv;refine B1 hE hO 0 rfl ?_;cbv;refine A4 hE h (c72 N x9 x6) (.refl _) fun r10 h=>?_;cbv;refine A5 hE h (fun _ h=>?_) fun _ h=>?_
    ·cbv;cases h;exact⟨_,_,rfl,⟨q4,hq4,rfl,rfl,hO.tail⟩,.e rfl .z,rfl⟩
    cbv;refine B1 hE hO 0 rfl ?_;cbv;refine A4 hE h (c120 N x6) (.refl _) fun r11 h=>?_;cbv;refine UA (eAw8 r11) ?_;refine YV hE (kt:=167) (et:=4) (by kernel_rfl) (by kernel_rfl) VL (false:Bool) (by kernel_rfl) rfl hO hq4 1 rfl h fun r12 h=>?_;cbv;refine A5 hE h (fun _ h=>?_) fun _ h=>?_
    ·cbv;cases h;exact⟨_,_,rfl,⟨q4,hq4,rfl,rfl,hO.tail⟩,.e rfl .z,rfl⟩
    cbv;refine B1 hE hO 0 rfl ?_;cbv;refine A4 hE h (c120 N x6) (.refl _) fun r13 h=>?_;cbv;refine Qr (eAw8 r13) ?_;refine YU hE (kt:=167) (et:=4) (by kernel_rfl) (by kernel_rfl) VL Pa hO hq4 1 rfl h fun l15 o14 H ho14 h hO=>?_;cbv;cases h;exact⟨_,o14,rfl,.e rfl (.e4 .z),rfl,ho14,hO.tail⟩
   cbv;refine B1 hE hO 0 rfl ?_;cbv;refine A4 hE h (c120 N x6) (.refl _) fun r16 h=>?_;cbv;refine UA (eAw8 r16) ?_;refine YV hE (kt:=167) (et:=4) (by kernel_rfl) (by kernel_rfl) VL (false:Bool) (by kernel_rfl) rfl hO hq4 1 rfl h fun r17 h=>?_;cbv;refine A5 hE h (fun _ h=>?_) fun _ h=>?_
   ·cbv;cases h;exact⟨_,_,rfl,⟨q4,hq4,rfl,rfl,hO.tail⟩,.e rfl .z,rfl⟩
   cbv;refine B1 hE hO 0 rfl ?_;cbv;refine A4 hE h (c120 N x6) (.refl _) fun r18 h=>?_;cbv;refine Qr (eAw8 r18) ?_;refine YU hE (kt:=167) (et:=4) (by kernel_rfl) (by kernel_rfl) VL Pa hO hq4 1 rfl h fun l20 o19 H ho19 h hO=>?_;cbv;cases h;exact⟨_,o19,rfl,.e rfl (.e4 .z),rfl,ho19,hO.tail⟩
  cbv;cases h;exact⟨_,_,rfl,⟨q4,hq4,rfl,rfl,hO⟩,.z,rfl⟩
 ·exact .e rfl (.e4 .z)
 ·exact⟨ho2,hO⟩
 clear hx
 rcases s5 with y21|y23
 ·rintro e l H ⟨q22,hq22,rfl,rfl,hO⟩;cbv;cases h;exact hK hO (.refl _)
 rintro e l H ⟨q24,hq24,rfl,rfl,hO⟩;cbv;cases h;exact hK hO (.refl _)
def cf300 :Cf:=⟨[2],[],[],[],[],[]⟩
theorem c300 (N aQ r)(h:P7 N aQ=some r):B6 prog 300 [vi aQ] ((D7 r)):=by
 unfold P7 at h
 refine J2 cf300 func300 call300 ntmps300 ?_;intro E H0 K hE hK hO;cbv;refine C9 hE hO fun b1 H hO=>?_;cbv;refine B0 hE hO 0 rfl rfl fun H hO=>?_;cbv;refine B1 hE hO 0 rfl ?_;cbv;cases h;exact hK hO (.refl _)
def cf301 :Cf:=⟨[5],[],[],[],[],[]⟩
theorem c301 (N:Nat)(aC:Int)(aD:Int)(cA:V)(bC:Int→Option A6)(cH:∀y1 q,bC y1=some q→W3 prog cA [vi y1] ((D7 q)))(r:A6)(h:AT N aC aD bC=some r):B6 prog 301 [vi aC,vi aD,.eref [cA] 0] ((D7 r)):=by
 unfold AT at h
 refine J2 cf301 func301 call301 ntmps301 ?_;intro E H0 K hE hK hO;cbv;refine C9 hE hO fun b1 H hO=>?_;cbv;refine Aq hE (g:=fun r2=>(D7 r2)) h (fun r2 hx=>cH (Ar.ar .add .i64 aC aD) r2 hx) (.refl _) fun r2 h=>?_;cbv;refine B0 hE hO 0 rfl rfl fun H hO=>?_;cbv;refine B1 hE hO 0 rfl ?_;cbv;cases h;exact hK hO (.refl _)
def cf302 :Cf:=⟨[5],[],[],[],[],[]⟩
theorem c302 (N:Nat)(aC:Int)(aD:Int)(cA:V)(bC:Int→Option A6)(cH:∀y1 q,bC y1=some q→W3 prog cA [vi y1] ((D7 q)))(r:A6)(h:AS N aC aD bC=some r):B6 prog 302 [vi aC,vi aD,.eref [cA] 0] ((D7 r)):=by
 unfold AS at h
 refine J2 cf302 func302 call302 ntmps302 ?_;intro E H0 K hE hK hO;cbv;refine C9 hE hO fun b1 H hO=>?_;cbv;refine Aq hE (g:=fun r2=>(D7 r2)) h (fun r2 hx=>cH (Ar.ar .sub .i64 aC aD) r2 hx) (.refl _) fun r2 h=>?_;cbv;refine B0 hE hO 0 rfl rfl fun H hO=>?_;cbv;refine B1 hE hO 0 rfl ?_;cbv;cases h;exact hK hO (.refl _)
def cf269 :Cf:=⟨[2,3],[],[],[],[],[]⟩
theorem c269 (N aD r)(h:Gw N aD=some r):B6 prog 269 [.bool aD] ((D7 r)):=by
 unfold Gw at h
 refine J2 cf269 func269 call269 ntmps269 ?_;intro E H0 K hE hK hO;cbv;refine C9 hE hO fun b1 H hO=>?_;cbv;refine C9 hE hO fun b2 H hO=>?_;cbv;refine B0 hE hO 0 rfl rfl fun H hO=>?_;cbv;refine A5 hE h (fun _ h=>?_) fun _ h=>?_
 ·cbv;refine B0 hE hO 0 rfl rfl fun H hO=>?_;cbv;refine B1 hE hO 0 rfl ?_;cbv;refine B0 hE hO 1 rfl rfl fun H hO=>?_;cbv;refine B1 hE hO 1 rfl ?_;cbv;cases h;exact hK hO (.refl _)
 cbv;refine B1 hE hO 0 rfl ?_;cbv;refine B0 hE hO 1 rfl rfl fun H hO=>?_;cbv;refine B1 hE hO 1 rfl ?_;cbv;cases h;exact hK hO (.refl _)
def cf229 :Cf:=⟨[2],[],[],[],[],[]⟩
theorem c229 (N aD r)(h:Z6 N aD=some r):B6 prog 229 [.bool aD] ((D7 r)):=by
 unfold Z6 at h
 refine J2 cf229 func229 call229 ntmps229 ?_;intro E H0 K hE hK hO;cbv;refine C9 hE hO fun b1 H hO=>?_;cbv;refine A4 hE h (c269 N aD) (.refl _) fun r2 h=>?_;cbv;refine B0 hE hO 0 rfl rfl fun H hO=>?_;cbv;refine B1 hE hO 0 rfl ?_;cbv;cases h;exact hK hO (.refl _)
def cf303 :Cf:=⟨[4],[],[],[],[],[]⟩
theorem c303 (N aC aD r)(h:AR N aC aD=some r):B6 prog 303 [vi aC,vi aD] ((D7 r)):=by
 unfold AR at h
 refine J2 cf303 func303 call303 ntmps303 ?_;intro E H0 K hE hK hO;cbv;refine C9 hE hO fun b1 H hO=>?_;cbv;refine A4 hE h (c229 N (cmp .lss aC aD)) (.refl _) fun r2 h=>?_;cbv;refine B0 hE hO 0 rfl rfl fun H hO=>?_;cbv;refine B1 hE hO 0 rfl ?_;cbv;cases h;exact hK hO (.refl _)
def cf304 :Cf:=⟨[4],[],[],[],[],[]⟩
theorem c304 (N aC aD r)(h:AQ N aC aD=some r):B6 prog 304 [vi aC,vi aD] ((D7 r)):=by
 unfold AQ at h
 refine J2 cf304 func304 call304 ntmps304 ?_;intro E H0 K hE hK hO;cbv;refine C9 hE hO fun b1 H hO=>?_;cbv;refine A4 hE h (c229 N (cmp .leq aC aD)) (.refl _) fun r2 h=>?_;cbv;refine B0 hE hO 0 rfl rfl fun H hO=>?_;cbv;refine B1 hE hO 0 rfl ?_;cbv;cases h;exact hK hO (.refl _)
def cf305 :Cf:=⟨[4],[],[],[],[],[]⟩
theorem c305 (N aC aD r)(h:AP N aC aD=some r):B6 prog 305 [vi aC,vi aD] ((D7 r)):=by
 unfold AP at h
 refine J2 cf305 func305 call305 ntmps305 ?_;intro E H0 K hE hK hO;cbv;refine C9 hE hO fun b1 H hO=>?_;cbv;refine A4 hE h (c229 N (Ar.an (cmp .eql aC 1) (cmp .eql aD 1))) (.refl _) fun r2 h=>?_;cbv;refine B0 hE hO 0 rfl rfl fun H hO=>?_;cbv;refine B1 hE hO 0 rfl ?_;cbv;cases h;exact hK hO (.refl _)
def cf306 :Cf:=⟨[4],[],[],[],[],[]⟩
theorem c306 (N aC aD r)(h:AO N aC aD=some r):B6 prog 306 [vi aC,vi aD] ((D7 r)):=by
 unfold AO at h
 refine J2 cf306 func306 call306 ntmps306 ?_;intro E H0 K hE hK hO;cbv;refine C9 hE hO fun b1 H hO=>?_;cbv;refine A4 hE h (c229 N (Ar.or (cmp .eql aC 1) (cmp .eql aD 1))) (.refl _) fun r2 h=>?_;cbv;refine B0 hE hO 0 rfl rfl fun H hO=>?_;cbv;refine B1 hE hO 0 rfl ?_;cbv;cases h;exact hK hO (.refl _)
def cf307 :Cf:=⟨[4],[],[],[],[],[]⟩
theorem c307 (N aC aP r)(h:AN N aC aP=some r):B6 prog 307 [vi aC,vi aP] ((D7 r)):=by
 unfold AN at h
 refine J2 cf307 func307 call307 ntmps307 ?_;intro E H0 K hE hK hO;cbv;refine C9 hE hO fun b1 H hO=>?_;cbv;refine A4 hE h (c229 N (cmp .neq aC 1)) (.refl _) fun r2 h=>?_;cbv;refine B0 hE hO 0 rfl rfl fun H hO=>?_;cbv;refine B1 hE hO 0 rfl ?_;cbv;cases h;exact hK hO (.refl _)
theorem c267 (N r)(h:Hb N=some r):Vm prog 267 [] QH QG:=by
 unfold Hb at h
 refine Vi (T:=TT) cf0 L4 func267 (by rfl) (by kernel_rfl) call267 ntmps267 (by rfl) (by rfl) ?_;intro E H0 K hE hK;have hO:C3 Eq H0 [] H0:=.start H5 rfl;cbv;refine As3 hE hO fun m1 H hO=>?_;cbv;refine JJ hE (kt:=3) (et:=338) (by kernel_rfl) (by kernel_rfl) hO 0 rfl rfl fun H hO=>?_;cbv;refine JJ hE (kt:=3) (et:=338) (by kernel_rfl) (by kernel_rfl) hO 0 rfl rfl fun H hO=>?_;cbv;refine JJ hE (kt:=3) (et:=338) (by kernel_rfl) (by kernel_rfl) hO 0 rfl rfl fun H hO=>?_;cbv;refine JJ hE (kt:=3) (et:=338) (by kernel_rfl) (by kernel_rfl) hO 0 rfl rfl fun H hO=>?_;cbv;refine JJ hE (kt:=3) (et:=338) (by kernel_rfl) (by kernel_rfl) hO 0 rfl rfl fun H hO=>?_;cbv;refine JJ hE (kt:=3) (et:=338) (by kernel_rfl) (by kernel_rfl) hO 0 rfl rfl fun H hO=>?_;cbv;refine JJ hE (kt:=3) (et:=338) (by kernel_rfl) (by kernel_rfl) hO 0 rfl rfl fun H hO=>?_;cbv;exact hK _ _ 0 _ rfl hO
theorem c333 (N aG aJ r)(h:N0 N aG aJ=some r):B6 prog 333 [(Bt aG),vi aJ] (sr eAu4 r):=by
 unfold N0 at h
 refine J2 cf0 func333 call333 ntmps333 ?_;intro E H0 K hE hK hO;cbv;refine E0 hE ?_;cbv;refine A5 hE h (fun _ h=>?_) fun _ h=>?_
 ·cbv;cases h;exact hK hO (.lit _ (D5))
 cbv;refine C1 hE eAw9 h fun x1 h=>?_;cbv;cases h;exact hK hO (.refl _)
end Go.Ab
