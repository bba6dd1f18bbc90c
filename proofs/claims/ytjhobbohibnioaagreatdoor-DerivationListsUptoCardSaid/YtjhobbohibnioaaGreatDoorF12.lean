/- . -/
import Derived.Test.YtjhobbohibnioaaGreatDoorF11
import Derived.Shelf.Strconv.Itoa1
import Derived.Shelf.Sort.Plain
import Derived.Shelf.Slices.CompactI
import Derived.Shelf.SlSortCmp.NoneTotal
import Derived.Test.YtjhobbohibnioaaGreatDoorProg
import Derived.KernelRfl
set_option linter.all false
/- The shelf laid at this program: plain. -/
open List (append_assoc)
open Go.Ab.Ar (cmp nt_eq)
namespace Go.Proofs
open Go.Shelf
set_option maxRecDepth 100000
def Tryz.laysNm189_ren:Ren:=
{
  f :=fun x=>
    match x with
    |189=>297
    |125=>125
    |257=>332
    |128=>167
    |129=>168
    |294=>348
    |295=>349
    |296=>350
    |297=>351
    |298=>352
    |299=>353
    |216=>354
    |300=>355
    |301=>356
    |328=>373
    |329=>220
    |330=>221
    |331=>374
    |332=>375
    |215=>131
    |343=>389
    |n=>n,
  t :=fun x=>
    match x with
    |28=>181
    |3=>3
    |46=>173
    |0=>0
    |51=>230
    |53=>232
    |4=>4
    |183=>224
    |182=>223
    |131=>127
    |5=>5
    |9=>9
    |218=>272
    |222=>276
    |228=>307
    |229=>187
    |n=>n,
  g :=fun x=>
    x}
theorem Tryz.laysNm189:Lays.n189 Tryz.prog Tryz.laysNm189_ren:=
{ mixed :=(by kernel_rfl),f125:=Eq.trans Tryz.func125 (congrArg some (by kernel_rfl)),
  f128:=Eq.trans Tryz.func167 (congrArg some (by kernel_rfl)),
  f129:=Eq.trans Tryz.func168 (congrArg some (by kernel_rfl)),
  f189:=Eq.trans Tryz.func297 (congrArg some (by kernel_rfl)),
  f215:=Eq.trans Tryz.func131 (congrArg some (by kernel_rfl)),
  f216:=Eq.trans Tryz.func354 (congrArg some (by kernel_rfl)),
  f257:=Eq.trans Tryz.func332 (congrArg some (by kernel_rfl)),
  f294:=Eq.trans Tryz.func348 (congrArg some (by kernel_rfl)),
  f295:=Eq.trans Tryz.func349 (congrArg some (by kernel_rfl)),
  f296:=Eq.trans Tryz.func350 (congrArg some (by kernel_rfl)),
  f297:=Eq.trans Tryz.func351 (congrArg some (by kernel_rfl)),
  f298:=Eq.trans Tryz.func352 (congrArg some (by kernel_rfl)),
  f299:=Eq.trans Tryz.func353 (congrArg some (by kernel_rfl)),
  f300:=Eq.trans Tryz.func355 (congrArg some (by kernel_rfl)),
  f301:=Eq.trans Tryz.func356 (congrArg some (by kernel_rfl)),
  f328:=Eq.trans Tryz.func373 (congrArg some (by kernel_rfl)),
  f329:=Eq.trans Tryz.func220 (congrArg some (by kernel_rfl)),
  f330:=Eq.trans Tryz.func221 (congrArg some (by kernel_rfl)),
  f331:=Eq.trans Tryz.func374 (congrArg some (by kernel_rfl)),
  f332:=Eq.trans Tryz.func375 (congrArg some (by kernel_rfl)),
  f343:=Eq.trans Tryz.func389 (congrArg some (by kernel_rfl)),t0:=Tryz.underlying0,
  a0:=Tryz.isAgg0,z0:=Tryz.sizeOf0,v0:=Tryz.zeroValue0,t3:=Tryz.underlying3,a3:=Tryz.isAgg3,
  z3:=Tryz.sizeOf3,v3:=Tryz.zeroValue3,t4:=Tryz.underlying4,a4:=Tryz.isAgg4,z4:=Tryz.sizeOf4,
  v4:=Tryz.zeroValue4,t5:=Tryz.underlying5,a5:=Tryz.isAgg5,z5:=Tryz.sizeOf5,v5:=Tryz.zeroValue5,
  t9:=Tryz.underlying9,a9:=Tryz.isAgg9,z9:=Tryz.sizeOf9,v9:=Tryz.zeroValue9,t28:=Tryz.underlying181,
  a28:=Tryz.isAgg181,z28:=Tryz.sizeOf181,v28:=Tryz.zeroValue181,t46:=Tryz.underlying173,
  a46:=Tryz.isAgg173,z46:=Tryz.sizeOf173,v46:=Tryz.zeroValue173,t51:=Tryz.underlying230,
  a51:=Tryz.isAgg230,z51:=Tryz.sizeOf230,v51:=Tryz.zeroValue230,t53:=Tryz.underlying232,
  a53:=Tryz.isAgg232,z53:=Tryz.sizeOf232,v53:=Tryz.zeroValue232,t131:=Tryz.underlying127,
  a131:=Tryz.isAgg127,z131:=Tryz.sizeOf127,v131:=Tryz.zeroValue127,t182:=Tryz.underlying223,
  a182:=Tryz.isAgg223,z182:=Tryz.sizeOf223,v182:=Tryz.zeroValue223,t183:=Tryz.underlying224,
  a183:=Tryz.isAgg224,z183:=Tryz.sizeOf224,v183:=Tryz.zeroValue224,t218:=Tryz.underlying272,
  a218:=Tryz.isAgg272,z218:=Tryz.sizeOf272,v218:=Tryz.zeroValue272,t222:=Tryz.underlying276,
  a222:=Tryz.isAgg276,z222:=Tryz.sizeOf276,v222:=Tryz.zeroValue276,t228:=Tryz.underlying307,
  a228:=Tryz.isAgg307,z228:=Tryz.sizeOf307,v228:=Tryz.zeroValue307,t229:=Tryz.underlying187,
  a229:=Tryz.isAgg187,z229:=Tryz.sizeOf187,v229:=Tryz.zeroValue187}
def Tryz.laysNm220_ren:Ren:=
{
  f :=fun x=>
    match x with
    |20=>298
    |n=>n,
  t :=fun x=>
    match x with
    |22=>181
    |3=>3
    |4=>4
    |0=>0
    |n=>n,
  g :=fun x=>
    x}
theorem Tryz.laysNm220:Lays2.n20 Tryz.prog Tryz.laysNm220_ren:=
{ mixed :=(by kernel_rfl),f20:=Eq.trans Tryz.func298 (congrArg some (by kernel_rfl)),
  t0:=Tryz.underlying0,a0:=Tryz.isAgg0,z0:=Tryz.sizeOf0,v0:=Tryz.zeroValue0,t3:=Tryz.underlying3,
  a3:=Tryz.isAgg3,z3:=Tryz.sizeOf3,v3:=Tryz.zeroValue3,t4:=Tryz.underlying4,a4:=Tryz.isAgg4,
  z4:=Tryz.sizeOf4,v4:=Tryz.zeroValue4,t22:=Tryz.underlying181,a22:=Tryz.isAgg181,z22:=Tryz.sizeOf181,
  v22:=Tryz.zeroValue181,i3:=Eq.refl (some (some (Value.int IntKind.i64 0),1,8))}
def Tryz.laysSlsf6_58_ren:Ren:=
{
  f :=fun x=>
    match x with
    |6=>58
    |15=>125
    |14=>124
    |28=>167
    |29=>168
    |20=>159
    |21=>160
    |22=>161
    |23=>162
    |24=>163
    |25=>164
    |26=>165
    |27=>166
    |46=>219
    |47=>220
    |48=>221
    |49=>222
    |50=>223
    |57=>263
    |n=>n,
  t :=fun x=>
    match x with
    |22=>37
    |24=>46
    |25=>53
    |3=>3
    |39=>173
    |0=>0
    |53=>230
    |55=>232
    |4=>4
    |46=>224
    |45=>223
    |50=>127
    |5=>5
    |9=>9
    |66=>272
    |70=>276
    |76=>307
    |77=>187
    |n=>n,
  g :=fun x=>
    x}
theorem Tryz.laysSlsf6_58:SlLaysF0.n6 Tryz.prog Tryz.laysSlsf6_58_ren:=
{ mixed :=(by kernel_rfl),
  f6 :=
    Exists.intro "slices.SortFunc[[]tidegate/api.Derivation,tidegate/api.Derivation]"
      ⟨of_decide_eq_true (id ((by kernel_rfl))),
        Eq.trans Tryz.func58
          (congrArg some (by kernel_rfl))⟩,
  f14 :=
    Exists.intro "slices.pdqsortCmpFunc[tidegate/api.Derivation]"
      ⟨of_decide_eq_true (id ((by kernel_rfl))),
        Eq.trans Tryz.func124
          (congrArg some (by kernel_rfl))⟩,
  f15:=Eq.trans Tryz.func125 (congrArg some (by kernel_rfl)),
  f20 :=
    Exists.intro "slices.insertionSortCmpFunc[tidegate/api.Derivation]"
      ⟨of_decide_eq_true (id ((by kernel_rfl))),
        Eq.trans Tryz.func159
          (congrArg some (by kernel_rfl))⟩,
  f21 :=
    Exists.intro "slices.heapSortCmpFunc[tidegate/api.Derivation]"
      ⟨of_decide_eq_true (id ((by kernel_rfl))),
        Eq.trans Tryz.func160
          (congrArg some (by kernel_rfl))⟩,
  f22 :=
    Exists.intro "slices.breakPatternsCmpFunc[tidegate/api.Derivation]"
      ⟨of_decide_eq_true (id ((by kernel_rfl))),
        Eq.trans Tryz.func161
          (congrArg some (by kernel_rfl))⟩,
  f23 :=
    Exists.intro "slices.choosePivotCmpFunc[tidegate/api.Derivation]"
      ⟨of_decide_eq_true (id ((by kernel_rfl))),
        Eq.trans Tryz.func162
          (congrArg some (by kernel_rfl))⟩,
  f24 :=
    Exists.intro "slices.reverseRangeCmpFunc[tidegate/api.Derivation]"
      ⟨of_decide_eq_true (id ((by kernel_rfl))),
        Eq.trans Tryz.func163
          (congrArg some (by kernel_rfl))⟩,
  f25 :=
    Exists.intro "slices.partialInsertionSortCmpFunc[tidegate/api.Derivation]"
      ⟨of_decide_eq_true (id ((by kernel_rfl))),
        Eq.trans Tryz.func164
          (congrArg some (by kernel_rfl))⟩,
  f26 :=
    Exists.intro "slices.partitionEqualCmpFunc[tidegate/api.Derivation]"
      ⟨of_decide_eq_true (id ((by kernel_rfl))),
        Eq.trans Tryz.func165
          (congrArg some (by kernel_rfl))⟩,
  f27 :=
    Exists.intro "slices.partitionCmpFunc[tidegate/api.Derivation]"
      ⟨of_decide_eq_true (id ((by kernel_rfl))),
        Eq.trans Tryz.func166
          (congrArg some (by kernel_rfl))⟩,
  f28:=Eq.trans Tryz.func167 (congrArg some (by kernel_rfl)),
  f29:=Eq.trans Tryz.func168 (congrArg some (by kernel_rfl)),
  f46 :=
    Exists.intro "slices.siftDownCmpFunc[tidegate/api.Derivation]"
      ⟨of_decide_eq_true (id ((by kernel_rfl))),
        Eq.trans Tryz.func219
          (congrArg some (by kernel_rfl))⟩,
  f47:=Eq.trans Tryz.func220 (congrArg some (by kernel_rfl)),
  f48:=Eq.trans Tryz.func221 (congrArg some (by kernel_rfl)),
  f49 :=
    Exists.intro "slices.medianAdjacentCmpFunc[tidegate/api.Derivation]"
      ⟨of_decide_eq_true (id ((by kernel_rfl))),
        Eq.trans Tryz.func222
          (congrArg some (by kernel_rfl))⟩,
  f50 :=
    Exists.intro "slices.medianCmpFunc[tidegate/api.Derivation]"
      ⟨of_decide_eq_true (id ((by kernel_rfl))),
        Eq.trans Tryz.func223
          (congrArg some (by kernel_rfl))⟩,
  f57 :=
    Exists.intro "slices.order2CmpFunc[tidegate/api.Derivation]"
      ⟨of_decide_eq_true (id ((by kernel_rfl))),
        Eq.trans Tryz.func263
          (congrArg some (by kernel_rfl))⟩,
  t0:=Tryz.underlying0,a0:=Tryz.isAgg0,z0:=Tryz.sizeOf0,v0:=Tryz.zeroValue0,t3:=Tryz.underlying3,
  a3:=Tryz.isAgg3,z3:=Tryz.sizeOf3,v3:=Tryz.zeroValue3,t4:=Tryz.underlying4,a4:=Tryz.isAgg4,
  z4:=Tryz.sizeOf4,v4:=Tryz.zeroValue4,t5:=Tryz.underlying5,a5:=Tryz.isAgg5,z5:=Tryz.sizeOf5,
  v5:=Tryz.zeroValue5,t9:=Tryz.underlying9,a9:=Tryz.isAgg9,z9:=Tryz.sizeOf9,v9:=Tryz.zeroValue9,
  t22:=Tryz.underlying37,a22:=Tryz.isAgg37,z22:=Tryz.sizeOf37,v22:=Tryz.zeroValue37,
  t25:=Tryz.underlying53,a25:=Tryz.isAgg53,z25:=Tryz.sizeOf53,v25:=Tryz.zeroValue53,
  t39:=Tryz.underlying173,a39:=Tryz.isAgg173,z39:=Tryz.sizeOf173,v39:=Tryz.zeroValue173,
  t45:=Tryz.underlying223,a45:=Tryz.isAgg223,z45:=Tryz.sizeOf223,v45:=Tryz.zeroValue223,
  t46:=Tryz.underlying224,a46:=Tryz.isAgg224,z46:=Tryz.sizeOf224,v46:=Tryz.zeroValue224,
  t50:=Tryz.underlying127,a50:=Tryz.isAgg127,z50:=Tryz.sizeOf127,v50:=Tryz.zeroValue127,
  t53:=Tryz.underlying230,a53:=Tryz.isAgg230,z53:=Tryz.sizeOf230,v53:=Tryz.zeroValue230,
  t55:=Tryz.underlying232,a55:=Tryz.isAgg232,z55:=Tryz.sizeOf232,v55:=Tryz.zeroValue232,
  t66:=Tryz.underlying272,a66:=Tryz.isAgg272,z66:=Tryz.sizeOf272,v66:=Tryz.zeroValue272,
  t70:=Tryz.underlying276,a70:=Tryz.isAgg276,z70:=Tryz.sizeOf276,v70:=Tryz.zeroValue276,
  t76:=Tryz.underlying307,a76:=Tryz.isAgg307,z76:=Tryz.sizeOf307,v76:=Tryz.zeroValue307,
  t77:=Tryz.underlying187,a77:=Tryz.isAgg187,z77:=Tryz.sizeOf187,v77:=Tryz.zeroValue187}
def Tryz.laysSlsf6_180_ren:Ren:=
{
  f :=fun x=>
    match x with
    |6=>180
    |15=>125
    |14=>231
    |28=>167
    |29=>168
    |20=>270
    |21=>271
    |22=>272
    |23=>273
    |24=>274
    |25=>275
    |26=>276
    |27=>277
    |46=>310
    |47=>220
    |48=>221
    |49=>311
    |50=>312
    |57=>337
    |n=>n,
  t :=fun x=>
    match x with
    |22=>101
    |24=>109
    |25=>248
    |3=>3
    |39=>173
    |0=>0
    |53=>230
    |55=>232
    |4=>4
    |46=>224
    |45=>223
    |50=>127
    |5=>5
    |9=>9
    |66=>272
    |70=>276
    |76=>307
    |77=>187
    |n=>n,
  g :=fun x=>
    x}
theorem Tryz.laysSlsf6_180:SlLaysF0.n6 Tryz.prog Tryz.laysSlsf6_180_ren:=
{ mixed :=(by kernel_rfl),
  f6 :=
    Exists.intro "slices.SortFunc[[]tidegate/derivation.pair,tidegate/derivation.pair]"
      ⟨of_decide_eq_true (id ((by kernel_rfl))),
        Eq.trans Tryz.func180
          (congrArg some (by kernel_rfl))⟩,
  f14 :=
    Exists.intro "slices.pdqsortCmpFunc[tidegate/derivation.pair]"
      ⟨of_decide_eq_true (id ((by kernel_rfl))),
        Eq.trans Tryz.func231
          (congrArg some (by kernel_rfl))⟩,
  f15:=Eq.trans Tryz.func125 (congrArg some (by kernel_rfl)),
  f20 :=
    Exists.intro "slices.insertionSortCmpFunc[tidegate/derivation.pair]"
      ⟨of_decide_eq_true (id ((by kernel_rfl))),
        Eq.trans Tryz.func270
          (congrArg some (by kernel_rfl))⟩,
  f21 :=
    Exists.intro "slices.heapSortCmpFunc[tidegate/derivation.pair]"
      ⟨of_decide_eq_true (id ((by kernel_rfl))),
        Eq.trans Tryz.func271
          (congrArg some (by kernel_rfl))⟩,
  f22 :=
    Exists.intro "slices.breakPatternsCmpFunc[tidegate/derivation.pair]"
      ⟨of_decide_eq_true (id ((by kernel_rfl))),
        Eq.trans Tryz.func272
          (congrArg some (by kernel_rfl))⟩,
  f23 :=
    Exists.intro "slices.choosePivotCmpFunc[tidegate/derivation.pair]"
      ⟨of_decide_eq_true (id ((by kernel_rfl))),
        Eq.trans Tryz.func273
          (congrArg some (by kernel_rfl))⟩,
  f24 :=
    Exists.intro "slices.reverseRangeCmpFunc[tidegate/derivation.pair]"
      ⟨of_decide_eq_true (id ((by kernel_rfl))),
        Eq.trans Tryz.func274
          (congrArg some (by kernel_rfl))⟩,
  f25 :=
    Exists.intro "slices.partialInsertionSortCmpFunc[tidegate/derivation.pair]"
      ⟨of_decide_eq_true (id ((by kernel_rfl))),
        Eq.trans Tryz.func275
          (congrArg some (by kernel_rfl))⟩,
  f26 :=
    Exists.intro "slices.partitionEqualCmpFunc[tidegate/derivation.pair]"
      ⟨of_decide_eq_true (id ((by kernel_rfl))),
        Eq.trans Tryz.func276
          (congrArg some (by kernel_rfl))⟩,
  f27 :=
    Exists.intro "slices.partitionCmpFunc[tidegate/derivation.pair]"
      ⟨of_decide_eq_true (id ((by kernel_rfl))),
        Eq.trans Tryz.func277
          (congrArg some (by kernel_rfl))⟩,
  f28:=Eq.trans Tryz.func167 (congrArg some (by kernel_rfl)),
  f29:=Eq.trans Tryz.func168 (congrArg some (by kernel_rfl)),
  f46 :=
    Exists.intro "slices.siftDownCmpFunc[tidegate/derivation.pair]"
      ⟨of_decide_eq_true (id ((by kernel_rfl))),
        Eq.trans Tryz.func310
          (congrArg some (by kernel_rfl))⟩,
  f47:=Eq.trans Tryz.func220 (congrArg some (by kernel_rfl)),
  f48:=Eq.trans Tryz.func221 (congrArg some (by kernel_rfl)),
  f49 :=
    Exists.intro "slices.medianAdjacentCmpFunc[tidegate/derivation.pair]"
      ⟨of_decide_eq_true (id ((by kernel_rfl))),
        Eq.trans Tryz.func311
          (congrArg some (by kernel_rfl))⟩,
  f50 :=
    Exists.intro "slices.medianCmpFunc[tidegate/derivation.pair]"
      ⟨of_decide_eq_true (id ((by kernel_rfl))),
        Eq.trans Tryz.func312
          (congrArg some (by kernel_rfl))⟩,
  f57 :=
    Exists.intro "slices.order2CmpFunc[tidegate/derivation.pair]"
      ⟨of_decide_eq_true (id ((by kernel_rfl))),
        Eq.trans Tryz.func337
          (congrArg some (by kernel_rfl))⟩,
  t0:=Tryz.underlying0,a0:=Tryz.isAgg0,z0:=Tryz.sizeOf0,v0:=Tryz.zeroValue0,t3:=Tryz.underlying3,
  a3:=Tryz.isAgg3,z3:=Tryz.sizeOf3,v3:=Tryz.zeroValue3,t4:=Tryz.underlying4,a4:=Tryz.isAgg4,
  z4:=Tryz.sizeOf4,v4:=Tryz.zeroValue4,t5:=Tryz.underlying5,a5:=Tryz.isAgg5,z5:=Tryz.sizeOf5,
  v5:=Tryz.zeroValue5,t9:=Tryz.underlying9,a9:=Tryz.isAgg9,z9:=Tryz.sizeOf9,v9:=Tryz.zeroValue9,
  t22:=Tryz.underlying101,a22:=Tryz.isAgg101,z22:=Tryz.sizeOf101,v22:=Tryz.zeroValue101,
  t25:=Tryz.underlying248,a25:=Tryz.isAgg248,z25:=Tryz.sizeOf248,v25:=Tryz.zeroValue248,
  t39:=Tryz.underlying173,a39:=Tryz.isAgg173,z39:=Tryz.sizeOf173,v39:=Tryz.zeroValue173,
  t45:=Tryz.underlying223,a45:=Tryz.isAgg223,z45:=Tryz.sizeOf223,v45:=Tryz.zeroValue223,
  t46:=Tryz.underlying224,a46:=Tryz.isAgg224,z46:=Tryz.sizeOf224,v46:=Tryz.zeroValue224,
  t50:=Tryz.underlying127,a50:=Tryz.isAgg127,z50:=Tryz.sizeOf127,v50:=Tryz.zeroValue127,
  t53:=Tryz.underlying230,a53:=Tryz.isAgg230,z53:=Tryz.sizeOf230,v53:=Tryz.zeroValue230,
  t55:=Tryz.underlying232,a55:=Tryz.isAgg232,z55:=Tryz.sizeOf232,v55:=Tryz.zeroValue232,
  t66:=Tryz.underlying272,a66:=Tryz.isAgg272,z66:=Tryz.sizeOf272,v66:=Tryz.zeroValue272,
  t70:=Tryz.underlying276,a70:=Tryz.isAgg276,z70:=Tryz.sizeOf276,v70:=Tryz.zeroValue276,
  t76:=Tryz.underlying307,a76:=Tryz.isAgg307,z76:=Tryz.sizeOf307,v76:=Tryz.zeroValue307,
  t77:=Tryz.underlying187,a77:=Tryz.isAgg187,z77:=Tryz.sizeOf187,v77:=Tryz.zeroValue187}
end Go.Proofs
namespace Go.Proofs
open Go.Shelf Go.RowKit Go.Lib Go.Sort Go.Ab
set_option maxRecDepth 100000
theorem Tryz.sorts58:WT Tryz.prog 58 5:=UK Tryz.laysSlsf6_58 Tryz.isAgg46 Tryz.sizeOf46
theorem Tryz.sorts180:WT Tryz.prog 180 2:=UK Tryz.laysSlsf6_180 Tryz.isAgg109 Tryz.sizeOf109
end Go.Proofs
namespace Go.Ab
open Go.RowKit Go.Proofs Go.Proofs.Tryz O6
abbrev vi (n:Int):V:=.int .i64 n
abbrev sr [Ar]{α:Type}(f:α→V)(l:List α):V:=.sl (Ar.lst f l) .ro
abbrev cb (b:Nat)(l:List V):En:=.blk b (.cells l)
abbrev ob [Ar]{α:Type}(q:OG)(n:Nat)(f:α→V)(l:List α):En:=.blk q.id (.arr n (q.pre++Ar.lst f l++q.rest))
abbrev fi (k:Nat)(n:Int):Nat×Sl:=(k,.v (vi n))
instance globs :O5:=⟨fun n=>match n with
 |0=>.eref [vi 0,vi 0,.bool true,.bool true,.bool false,.bool false,vi 2,vi 64,.bool false,.bool false,.bool false,.bool false,vi 2,vi 64,.bool false,.bool false,.bool false,.bool false,vi 2,vi 64,.bool false,.bool false,.bool false,.bool false,vi 1,vi 1,.bool false,.bool false,.bool false,.bool false,vi 1,vi 1,.bool true,.bool true,.bool true,.bool false,vi 1,vi 1,.bool false,.bool false,.bool true,.bool true,vi 1,vi 1,.bool false,.bool true,.bool false,.bool false,vi 2,vi 2,.bool false,.bool false,.bool false,.bool false,vi 1,vi 1,.bool true,.bool true,.bool true,.bool false,vi 1,vi 1,.bool false,.bool false,.bool true,.bool true] 0
 |_=>.bad⟩
variable [Ar][O6]
set_option maxRecDepth 100000
theorem O7:VF prog TT:=⟨okT,by rfl⟩
def cf0:Cf:=⟨[],[],[],[],[],[]⟩
def cfA (a:List Nat):Cf:=⟨a,[],[],[],[],[]⟩
def cfB (a:List Nat)(b:List (Nat×Nat)):Cf:=⟨a,b,[],[],[],[]⟩
def cfC (a:List Nat)(b c:List (Nat×Nat)):Cf:=⟨a,b,c,[],[],[]⟩
theorem Ju.e2 {l r:Fl}{k1 k2:Nat}{x1 x2:V}(hr:Ju l r)(h1:CA l k1=x1:=by rfl)(h2:CA l k2=x2:=by rfl):Ju l ((k1,.v x1)::(k2,.v x2)::r):=.e h1 (.e h2 hr)
theorem Ju.e4 {l r:Fl}{k1 k2 k3 k4:Nat}{x1 x2 x3 x4:V}(hr:Ju l r)(h1:CA l k1=x1:=by rfl)(h2:CA l k2=x2:=by rfl)(h3:CA l k3=x3:=by rfl)(h4:CA l k4=x4:=by rfl):Ju l ((k1,.v x1)::(k2,.v x2)::(k3,.v x3)::(k4,.v x4)::r):=.e2 (.e2 hr h3 h4) h1 h2
theorem O0 {f:FuncId}{fn:Func}{c:Code}{n:Nat}{rs:List ResultVar}{args:List V}{r:V}(cf:Cf)(hf:prog.funcs[f]? =some fn)(hcall:∀vals w,(callFunc f vals).run prog w= .ok (.enter f vals) w)(hnt:fn.ntmps=n)
 (h:∀(E:Fo) (H:A5) (K:V→A5→Prop),E=I5 prog n none→(∀{x L H'},C5 Eq H L H'→Dx x r→K x H')→C5 Eq H [] H→run E TT n cf c ⟨Dh args 0,[]⟩ H (Qx E TT rs K))
 (hb:fn.body=some c:=by rfl) (hd:M6 cf c=true:=by kernel_rfl) (hrs:fn.results.toList=rs:=by rfl) (hn:Nat.ble args.length n=true:=by rfl):B9 prog f args r:=
 Uz cf O7 hf hb hd hcall hnt hrs hn fun E H K hE hK=>h E H K hE (fun a b=>hK _ _ _ a b) (.start M5 rfl)
def YK:Go.TypeDesc:=Go.TypeDesc.struct #[{name:= "source",type:=3,offset:=0,embedded:=false,tag:= "",pkgPath:= "tidegate/stream",byteOffset:=0},{name:= "seq",type:=3,offset:=1,embedded:=false,tag:= "",pkgPath:= "tidegate/stream",byteOffset:=8}]
theorem Al0:Ug prog YK eBi7:=Va (g:=fun(x:I1)=>[x.source,x.seq]) (fun x=>(eBj0 x).trans rfl) (fun _=>rfl) (fun x y h=>by cases x;cases y;cases h;rfl) (by kernel_rfl)
def Be7:Go.TypeDesc:=Go.TypeDesc.struct #[{name:= "node",type:=3,offset:=0,embedded:=false,tag:= "",pkgPath:= "tidegate/derivation",byteOffset:=0},{name:= "first",type:=3,offset:=1,embedded:=false,tag:= "",pkgPath:= "tidegate/derivation",byteOffset:=8},{name:= "last",type:=3,offset:=2,embedded:=false,tag:= "",pkgPath:= "tidegate/derivation",byteOffset:=16},{name:= "outer",type:=3,offset:=3,embedded:=false,tag:= "",pkgPath:= "tidegate/derivation",byteOffset:=24}]
theorem AW0:Ug prog Be7 eBh9:=Va (g:=fun(x:C7)=>[x.node,x.first,x.last,x.outer]) (fun x=>(eBj5 x).trans rfl) (fun _=>rfl) (fun x y h=>by cases x;cases y;cases h;rfl) (by kernel_rfl)
theorem c68 (N bV r) (h:FJ N bV=some r):B9 prog 68 [sr (V.int .i64) bV] (vi r):=by
 refine O0 cf0 func68 call68 ntmps68 ?_;intro E H0 K hE hK hO;cbv;apply I8 hE;cbv;obtain⟨s2,hx,h⟩:=bind_some h;refine H9 cf0 hE O7 (fun s1=>[fi 3 0,(6,.v (sr (V.int .i64) bV)),fi 7 (Ar.len bV),fi 8 s1]) (fun s1 H1=>C5 Eq H0 [] H1) (fun x e l H1=>match(generalizing:=false) x with| .inl y=>e= .exit 0∧l=[fi 3 0]∧C5 Eq H0 [] H1| .inr y=>e= .ret∧l=[fi 2 y]∧C5 Eq H0 [] H1) (by kernel_rfl) ?_ hx ?_ hO ?_
 ·intro s1 H o hO h
  repeat' (cbv;first|apply C4 hE h<;>intro _ h|refine D9 hE (fun _=>rfl) h fun _ h=>?_|(cases h;exact⟨_,_,rfl,⟨rfl,rfl,hO⟩,.e rfl .z,rfl⟩)|(cases h;exact⟨_,rfl,.e4 .z,rfl,hO⟩))
 ·exact .e4 .z
 clear hx
 rcases s2 with y4|y5
 ·rintro e l H ⟨rfl,rfl,hO⟩;cbv;cases h;exact hK hO .z
 rintro e l H ⟨rfl,rfl,hO⟩;cbv;cases h;exact hK hO .z
theorem c131 (N aF r)(h:FZ N aF=some r):B9 prog 131 [vi aF] (.bool r):=by
 refine O0 cf0 func131 call131 ntmps131 ?_;intro E H0 K hE hK hO;cbv;cases h;exact hK hO .z
theorem c70 (N aF aT r)(h:O8 N aF aT=some r):B9 prog 70 [vi aF,vi aT] (vi r):=by
 refine O0 cf0 func70 call70 ntmps70 ?_;intro E H0 K hE hK hO
 repeat' (cbv;first|apply C4 hE h<;>intro _ h|refine B0 hE h (c131 _ _) .z fun _ h=>?_|(cases h;exact hK hO .z))
def cf116:=cfA [2]
theorem c116 (N aB r)(h:Du N aB=some r):B9 prog 116 [(W4 aB)] ((Dy r)):=by
 refine O0 cf116 func116 call116 ntmps116 ?_;intro E H0 K hE hK hO;cbv;refine E2 hE hO fun b1 H hO=>?_;cbv;refine C1 hE hO 0 rfl rfl fun H hO=>?_;cbv;apply C0 hE hO 0 rfl;cbv;cases h;exact hK hO .z
def cf72:=cfB [] [(1,3),(3,14)]
theorem c72 (N aC aD r)(h:Ce N aC aD=some r):B9 prog 72 [(W4 aC),(W4 aD)] (vi r):=by
 refine O0 cf72 func72 call72 ntmps72 ?_;intro E H0 K hE hK hO
 repeat' (cbv;first|apply C4 hE h<;>intro _ h|refine B0 hE h (c116 _ _) .z fun _ h=>?_|refine B0 hE h (c70 _ _ _) .z fun _ h=>?_|refine B0 hE h (c68 _ _) (.cons (.lit _ (G8 (rfl) (G8 (rfl) (G8 (rfl) (E4))))) .z) fun _ h=>?_|refine E5 hE (g:=fun r1=>(Dy r1)) h (c116 _ _) .z fun r1 h=>?_|refine E5 hE (g:=fun r3=>vi r3) h (c70 _ _ _) .z fun r3 h=>?_|refine E5 hE (g:=fun r4=>vi r4) h (c70 _ _ _) .z fun r4 h=>?_|(cases h;exact hK hO .z))
def cf73:=cfA [8]
theorem c73 (N:Nat) (bQ:List A3) (bT:List A3) (bA:V) (aX:A3→A3→Option Int) (bR:∀y1 y2 q,aX y1 y2=some q→AL prog bA [(G0 y1),(G0 y2)] (vi q)) (r:Int) (h:J3 N bQ bT aX=some r):B9 prog 73 [sr eBg6 bQ,sr eBg6 bT,bA] (vi r):=by
 refine O0 cf73 func73 call73 ntmps73 ?_;intro E H0 K hE hK hO;cbv;apply I8 hE;cbv;obtain⟨s2,hx,h⟩:=bind_some h;refine H9 cf73 hE O7 (fun s1=>[(0,.v (sr eBg6 bQ)),(1,.v (sr eBg6 bT)),(2,.v (bA)),(11,.v (sr eBg6 bQ)),fi 12 (Ar.len bQ),fi 13 s1]) (fun s1 H1=>C5 Eq H0 [] H1) (fun x e l H1=>match(generalizing:=false) x with| .inl y=>e= .exit 0∧l=[(0,.v (sr eBg6 bQ)),(1,.v (sr eBg6 bT))]∧C5 Eq H0 [] H1| .inr y=>e= .ret∧l=[fi 6 y]∧C5 Eq H0 [] H1) (by kernel_rfl) ?_ hx ?_ hO ?_
 ·intro s1 H o hO h;cbv;apply C4 hE h<;>intro _ h
  ·cbv;refine D9 hE eBg8 h fun x3 h=>?_
   repeat' (cbv;first|apply C4 hE h<;>intro _ h|apply I8 hE|refine BP hE (g:=fun r6=>vi r6) h (fun r6 hx=>bR x3 x5 r6 hx) .z fun r6 h=>?_|refine D9 hE eBg8 h fun x5 h=>?_|apply C0 hE hO 0 rfl|refine C1 hE hO 0 rfl rfl fun H hO=>?_|refine E2 hE hO fun _ H hO=>?_|(cases h;exact⟨_,_,rfl,⟨rfl,rfl,hO.tail⟩,.e rfl .z,rfl⟩)|(cases h;exact⟨_,rfl,.e2 (.e4 .z),rfl,hO.tail⟩))
  cbv;cases h;exact⟨_,_,rfl,⟨rfl,rfl,hO⟩,.e2 .z,rfl⟩
 ·exact .e2 (.e4 .z)
 clear hx
 rcases s2 with y7|y8
 ·rintro e l H ⟨rfl,rfl,hO⟩
  repeat' (cbv;first|apply C4 hE h<;>intro _ h|apply I8 hE|(cases h;exact hK hO .z))
 rintro e l H ⟨rfl,rfl,hO⟩;cbv;cases h;exact hK hO .z
theorem c21 (N:Nat):∀n aC aD r,P7 N n aC aD=some r→B9 prog 21 [(G0 aC),(G0 aD)] (vi r):=by
 intro n
 induction n with
 |zero=>intro aC aD r h;cases h
 |succ n ih=>
 intro aC aD r h
 unfold P7 at h
 refine O0 cf0 func21 call21 ntmps21 ?_;intro E H0 K hE hK hO
 repeat' (cbv;first|apply C4 hE h<;>intro _ h|refine B0 hE h (c72 _ _ _) (.cons (.agg (.r (.r (.r (.r (.cons (.lit _ (E4)) .z)))))) (.cons (.agg (.r (.r (.r (.r (.cons (.lit _ (E4)) .z)))))) .z)) fun _ h=>?_|refine B0 hE (g:=fun r2=>vi r2) h (fun r2 hx=>c73 N aC.Kids aD.Kids (.func (.func 21) [] []) (fun y1 y2=>P7 N n y1 y2) (fun y1 y2 r hx=>B9.value (F:=[]) (C:=[]) (ih y1 y2 r hx)) r2 hx) .z fun r2 h=>?_|(cases h;exact hK hO .z))
theorem c29 (N:Nat):∀n aK r,S0 N n aK=some r→B9 prog 29 [(G0 aK)] (vi r):=by
 intro n
 induction n with
 |zero=>intro aK r h;cases h
 |succ n ih=>
 intro aK r h
 unfold S0 at h
 refine O0 cf0 func29 call29 ntmps29 ?_;intro E H0 K hE hK hO;cbv;apply I8 hE;cbv;obtain⟨s2,hx,h⟩:=bind_some h;refine H9 cf0 hE O7 (fun s1=>[fi 3 s1.1,(7,.v (sr eBg6 aK.Kids)),fi 8 (Ar.len aK.Kids),fi 9 s1.2]) (fun s1 H1=>C5 Eq H0 [] H1) (fun x e l H1=>e= .exit 0∧l=[fi 3 x]∧C5 Eq H0 [] H1) (by kernel_rfl) ?_ hx ?_ hO ?_
 ·intro s1 H o hO h;cbv;apply C4 hE h<;>intro _ h
  ·cbv;refine D9 hE eBg8 h fun x3 h=>?_;cbv;refine B0 hE h (ih x3) .z fun r4 h=>?_;cbv;cases h;exact⟨_,rfl,.e4 .z,rfl,hO⟩
  cbv;cases h;exact⟨_,_,rfl,⟨rfl,rfl,hO⟩,.e rfl .z,rfl⟩
 ·exact .e4 .z
 clear hx;rintro e l H ⟨rfl,rfl,hO⟩;cbv;cases h;exact hK hO .z
theorem c217 (N:Nat):∀n aA r,Aq N n aA=some r→PV prog 217 (fun yv=>[(C8 aA),yv]) (List.map (fun(x:A1)=>[(C8 x)]) r) rbB:=by
 intro n
 induction n with
 |zero=>intro aA r h;cases h
 |succ n ih=>
 intro aA r h
 unfold Aq at h
 obtain⟨⟨w0,u0⟩,h1,hr⟩:=bind_some h;clear h;have hr:=F2 hr;subst hr;have h:=h1;clear h1;refine DI cf0 O7 func217 (by rfl) (by kernel_rfl) call217 ntmps217 (by rfl) (fun _=>rfl) ?_;intro yv I D hI hD hy tl F E H K hE hO hK hKD
 have hO:C5 (I (List.map (fun(x:A1)=>[(C8 x)]) (w0++[])++tl)) F [] H:=by rw[List.append_nil];exact hO
 cbv;obtain⟨w1,h,he⟩:=BZ h
 rw[he,append_assoc]at hO
 clear he;have hO:C5 (I ([(C8 aA)]::(List.map (fun(x:A1)=>[(C8 x)]) (w1++[])++tl))) F [] _:=hO;refine Nb hE hI hD hy hO .z (fun H hO=>?_) (fun H hO=>?_)
 ·cbv;apply Tf hE (nt_eq _);cbv;apply I8 hE;cbv;obtain⟨w3,w4,s7,hx,h,he⟩:=X4 h
  rw[he,append_assoc]at hO
  clear he;refine Ak6 cf0 hE O7 (γ:=Unit) (fun s2 g=>[(1,.v (yv)),(12,.v (sr eBh0 aA.cL)),fi 13 (Ar.len aA.cL),fi 14 s2]) (fun s2 g w H1=>C5 (I (List.map (fun(x:A1)=>[(C8 x)]) w++tl)) F [] H1) (fun x e l w H1=>e= .exit 0∧l=[]∧C5 (I (List.map (fun(x:A1)=>[(C8 x)]) w++tl)) F [] H1) (fun e l H1=>(e= .ret∧l=[(4,.b false)]∧C5 D F [] H1)) (by kernel_rfl) ?_ (w':=w4++[]) () hx ?_ ?_ ?_ ?_
  ·rintro s2 _ w5 w6 H o hO h
   skip
   cbv;apply C4 hE h<;>intro _ h
   ·cbv;refine D9 hE eBh2 h fun x8 h=>?_;cbv;obtain⟨l9,hl,h⟩:=bind_some h;obtain⟨w10,h,he⟩:=BZ h
    rw[he,append_assoc]at hO
    clear he
    rw[List.map_append,append_assoc]at hO
    refine Wn hE hI hD hy (ih x8 l9 hl) hO .z (fun v H hb hO=>?_) (fun v H hb hO=>?_)
    ·cases hb;clear hl;cbv;apply Tf hE (nt_eq _);cbv;obtain⟨hw,rfl⟩:=J4 h
     rw[←hw]at hO
     exact⟨_,(),rfl,.e4 .z,rfl,hO⟩
    cases hb;clear h hl;cbv;apply Te hE (nt_eq _);cbv;exact .inr ⟨_,⟨rfl,rfl,hO⟩,.b rfl (.z),rfl⟩
   cbv;obtain⟨hw,rfl⟩:=J4 h
   rw[←hw]at hO
   exact .inl ⟨_,_,rfl,⟨rfl,rfl,hO⟩,.z,rfl⟩
  ·exact .e4 .z
  ·exact hO
  ·rintro e l H ⟨rfl,rfl,hO⟩;cbv;obtain⟨hw,_⟩:=J4 h
   rw[←hw]at hO
   exact hK _ _ _ hO rfl
  rintro e l H hX;obtain⟨rfl,rfl,hO⟩:=hX;clear h;cbv;exact hKD _ _ _ hO rfl
 clear h;cbv;apply Te hE (nt_eq _);cbv;exact hKD _ _ _ hO rfl
theorem c216 (N aQ r) (h:Ea N aQ=some r):PV prog 216 (fun yv=>[yv,.eref (D2 aQ) 0]) (List.map (fun(x:A1)=>[(C8 x)]) r) rbN:=by
 obtain⟨⟨w0,u0⟩,h1,hr⟩:=bind_some h;clear h;have hr:=F2 hr;subst hr;have h:=h1;clear h1;refine DI cf0 O7 func216 (by rfl) (by kernel_rfl) call216 ntmps216 (by rfl) (fun _=>rfl) ?_;intro yv I D hI hD hy tl F E H K hE hO hK hKD
 have hO:C5 (I (List.map (fun(x:A1)=>[(C8 x)]) (w0++[])++tl)) F [] H:=by rw[List.append_nil];exact hO
 cbv;obtain⟨l1,hl,h⟩:=bind_some h;obtain⟨w2,h,he⟩:=BZ h
 rw[he,append_assoc]at hO
 clear he
 rw[List.map_append,append_assoc]at hO
 refine Wn hE hI hD hy (c217 N N aQ l1 hl) hO .z (fun v H hb hO=>?_) (fun v H hb hO=>?_)
 ·cases hb;clear hl;cbv;obtain⟨hw,_⟩:=J4 h
  rw[←hw]at hO
  exact hK _ _ _ hO trivial
 cases hb;clear h hl;cbv;exact hKD _ _ _ hO trivial
theorem c157 (N aA r)(h:X6 N aA=some r):MK prog 157 [(C8 aA)] (fun v=>Uh prog v (r.map fun(x:A1)=>[(C8 x)])):=by
 refine NQ cf0 O7 func157 (by rfl) (by kernel_rfl) call157 ntmps157 (by rfl) (by rfl) ?_;intro E H0 K hE hK;have hO:C5 Eq H0 [] H0:=.start M5 rfl;cbv;exact hK _ _ _ hO (NL call216 (c216 N aA r h))
theorem c214 (N:Nat):∀n aA r,U3 N n aA=some r→B9 prog 214 [(C8 aA)] (.tup [vi r.1,vi r.2]):=by
 intro n
 induction n with
 |zero=>intro aA r h;cases h
 |succ n ih=>
 intro aA r h
 unfold U3 at h
 refine O0 cf0 func214 call214 ntmps214 ?_;intro E H0 K hE hK hO;cbv;apply I8 hE;cbv;obtain⟨s2,hx,h⟩:=bind_some h;refine H9 cf0 hE O7 (fun s1=>[fi 4 s1.1,fi 5 s1.2.1,(11,.v (sr eBh0 aA.cL)),fi 12 (Ar.len aA.cL),fi 13 s1.2.2]) (fun s1 H1=>C5 Eq H0 [] H1) (fun x e l H1=>e= .exit 0∧l=[fi 4 x.1,fi 5 x.2]∧C5 Eq H0 [] H1) (by kernel_rfl) ?_ hx ?_ hO ?_
 ·intro s1 H o hO h;cbv;apply C4 hE h<;>intro _ h
  ·cbv;refine D9 hE eBh2 h fun x3 h=>?_;cbv;refine B0 hE h (ih x3) .z fun r4 h=>?_;cbv;cases h;exact⟨_,rfl,.e rfl (.e4 .z),rfl,hO⟩
  cbv;cases h;exact⟨_,_,rfl,⟨rfl,rfl,hO⟩,.e2 .z,rfl⟩
 ·exact .e rfl (.e4 .z)
 clear hx;rintro e l H ⟨rfl,rfl,hO⟩;cbv;cases h;exact hK hO .z
theorem c259 (N bJ aO bK r)(h:AJ N bJ aO bK=some r):B9 prog 259 [.bool bJ,vi aO,vi bK] (.bool r):=by
 refine O0 cf0 func259 call259 ntmps259 ?_;intro E H0 K hE hK hO;cbv;cases h;exact hK hO .z
theorem c294 (N:Nat):∀n aB r,Dt N n aB=some r→B9 prog 294 [(Y9 aB)] (.tup [vi r.1,vi r.2]):=by
 intro n
 induction n with
 |zero=>intro aB r h;cases h
 |succ n ih=>
 intro aB r h
 unfold Dt at h
 refine O0 cf0 func294 call294 ntmps294 ?_;intro E H0 K hE hK hO;cbv;apply I8 hE;cbv;obtain⟨s2,hx,h⟩:=bind_some h;refine H9 cf0 hE O7 (fun s1=>[fi 4 s1.1,fi 5 s1.2.1,(11,.v (sr eBi3 aB.cL)),fi 12 (Ar.len aB.cL),fi 13 s1.2.2]) (fun s1 H1=>C5 Eq H0 [] H1) (fun x e l H1=>e= .exit 0∧l=[fi 4 x.1,fi 5 x.2]∧C5 Eq H0 [] H1) (by kernel_rfl) ?_ hx ?_ hO ?_
 ·intro s1 H o hO h;cbv;apply C4 hE h<;>intro _ h
  ·cbv;refine D9 hE eBi2 h fun x3 h=>?_;cbv;refine B0 hE h (ih x3) .z fun r4 h=>?_;cbv;cases h;exact⟨_,rfl,.e rfl (.e4 .z),rfl,hO⟩
  cbv;cases h;exact⟨_,_,rfl,⟨rfl,rfl,hO⟩,.e2 .z,rfl⟩
 ·exact .e rfl (.e4 .z)
 clear hx;rintro e l H ⟨rfl,rfl,hO⟩;cbv;cases h;exact hK hO .z
theorem c295 (N:Nat):∀(n:Nat) (aB:B6) (bL:V) (bI:B6→Option Int) (bU:∀y1 q,bI y1=some q→AL prog bL [(Y9 y1)] (vi q)) (r:Int),Ee N n aB bI=some r→B9 prog 295 [(Y9 aB),bL] (vi r):=by
 intro n
 induction n with
 |zero=>intro aB bL bI bU r h;cases h
 |succ n ih=>
 intro aB bL bI bU r h
 unfold Ee at h
 refine O0 cf0 func295 call295 ntmps295 ?_;intro E H0 K hE hK hO;cbv;refine BP hE (g:=fun r1=>vi r1) h (fun r1 hx=>bU aB r1 hx) (.refl _) fun r1 h=>?_;cbv;refine C4 hE h (fun _ h=>?_) fun _ h=>?_
 ·cbv;cases h;exact hK hO (.refl _)
 cbv;refine I8 hE ?_;cbv;obtain⟨s3,hx,h⟩:=bind_some h;refine H9 cf0 hE O7 (fun s2=>[(1,.v (bL)),(16,.v (sr eBi3 aB.cL)),fi 17 (Ar.len aB.cL),fi 18 s2]) (fun s2 H1=>C5 Eq H0 [] H1) (fun x e l H1=>match(generalizing:=false) x with| .inl y=>e= .exit 0∧l=[]∧C5 Eq H0 [] H1| .inr y=>e= .ret∧l=[fi 4 y]∧C5 Eq H0 [] H1) (by kernel_rfl) ?_ hx ?_ hO ?_
 ·intro s2 H o hO h;clear hx;cbv;refine C4 hE h (fun _ h=>?_) fun _ h=>?_
  ·cbv;refine D9 hE eBi2 h fun x4 h=>?_;cbv;refine B0 hE h (ih x4 bL bI bU) (.refl _) fun r5 h=>?_;cbv;refine C4 hE h (fun _ h=>?_) fun _ h=>?_
   ·cbv;cases h;exact⟨_,_,rfl,⟨rfl,rfl,hO⟩,.e rfl .z,rfl⟩
   cbv;cases h;exact⟨_,rfl,.e4 .z,rfl,hO⟩
  cbv;cases h;exact⟨_,_,rfl,⟨rfl,rfl,hO⟩,.z,rfl⟩
 ·exact .e4 .z
 clear hx
 rcases s3 with y6|y7
 ·rintro e l H ⟨rfl,rfl,hO⟩;cbv;cases h;exact hK hO (.refl _)
 rintro e l H ⟨rfl,rfl,hO⟩;cbv;cases h;exact hK hO (.refl _)
theorem c329 (N aM r)(h:KC N aM=some r):B9 prog 329 [vi aM] (.tup [vi r.1,.bool r.2]):=by
 refine O0 cf0 func329 call329 ntmps329 ?_;intro E H0 K hE hK hO
 repeat' (cbv;first|apply C4 hE h<;>intro _ h|(cases h;exact hK hO .z))
def cf330:=cfC [] [] [(5,4)]
theorem c330 (N aM r) (h:Nj N aM=some r):B9 prog 330 [vi aM] (.tup [.bool r.1,.bool r.2]):=by
 refine O0 cf330 func330 call330 ntmps330 ?_;intro E H0 K hE hK hO;cbv;obtain⟨s1,hx,h⟩:=bind_some h;refine N2 cf330 hE O7 (fun e l H1=>e= .normal∧l=[fi 4 aM,(5,.v (.bool s1))]∧C5 Eq H0 [] H1) (by kernel_rfl) ?_ ?_
 ·clear h;have h:=hx;cbv;apply C4 hE h<;>intro _ h
  ·cbv;cases h;exact⟨_,⟨rfl,rfl,hO⟩,.e2 .z,rfl⟩
  cbv;cases h;exact⟨_,⟨rfl,rfl,hO⟩,.e2 .z,rfl⟩
 clear hx;rintro e l H ⟨rfl,rfl,hO⟩
 repeat' (cbv;first|apply C4 hE h<;>intro _ h|(cases h;exact hK hO .z))
theorem c358 (N aJ r)(h:Kf N aJ=some r):B9 prog 358 [(F4 aJ)] (vi r):=by
 refine O0 cf0 func358 call358 ntmps358 ?_;intro E H0 K hE hK hO
 repeat' (cbv;first|apply C4 hE h<;>intro _ h|(cases h;exact hK hO .z))
def cf336:=cfC [] [] [(5,5)]
theorem c336 (N aJ r) (h:AS N aJ=some r):B9 prog 336 [(F4 aJ)] (vi r):=by
 refine O0 cf336 func336 call336 ntmps336 ?_;intro E H0 K hE hK hO;cbv;obtain⟨s1,hx,h⟩:=bind_some h;refine N2 cf336 hE O7 (fun e l H1=>e= .normal∧l=[(1,.v (.eref (V3 aJ) 0)),fi 4 aJ.Kind,(5,.v (.bool s1))]∧C5 Eq H0 [] H1) (by kernel_rfl) ?_ ?_
 ·clear h;have h:=hx;cbv;apply C4 hE h<;>intro _ h
  ·cbv;cases h;exact⟨_,⟨rfl,rfl,hO⟩,.e rfl (.e2 .z),rfl⟩
  cbv;cases h;exact⟨_,⟨rfl,rfl,hO⟩,.e rfl (.e2 .z),rfl⟩
 clear hx;rintro e l H ⟨rfl,rfl,hO⟩
 repeat' (cbv;first|apply C4 hE h<;>intro _ h|refine B0 hE h (c358 _ _) .z fun _ h=>?_|(cases h;exact hK hO .z))
theorem c347 (N aN aJ r)(h:KB N aN aJ=some r):B9 prog 347 [vi aN,(F4 aJ)] (.bool r):=by
 refine O0 cf0 func347 call347 ntmps347 ?_;intro E H0 K hE hK hO;cbv;cases h;exact hK hO .z
theorem c331 (N aB r)(h:HX N aB=some r):B9 prog 331 [(Y9 aB)] (vi r):=by
 refine O0 cf0 func331 call331 ntmps331 ?_;intro E H0 K hE hK hO
 repeat' (cbv;first|apply C4 hE h<;>intro _ h|refine B0 hE h (c336 _ _) .z fun _ h=>?_|refine B0 hE h (c347 _ _ _) .z fun _ h=>?_|(cases h;exact hK hO .z))
def cf296:=cfC [] [] [(73,15)]
theorem c296 (N aB r) (h:JW N aB=some r):B9 prog 296 [(Y9 aB)] (vi r):=by
 refine O0 cf296 func296 call296 ntmps296 ?_;intro E H0 K hE hK hO
 repeat' (cbv;first|apply C4 hE h<;>intro _ h|apply I8 hE|refine B0 hE h (c329 _ _) .z fun _ h=>?_|refine B0 hE h (c330 _ _) .z fun r2 h=>?_|(cases h;exact hK hO .z))
 cbv;obtain⟨s3,hx,h⟩:=bind_some h;refine N2 cf296 hE O7 (fun e l H1=>match(generalizing:=false) s3 with| .inl y=>e= .normal∧l=[(1,.v (.eref (BT aB) 0)),(5,.v (.bool r2.1)),(6,.v (.bool r2.2)),(7,.v (.bool (cmp .eql aB.Op 4))),(8,.v (.bool (Ar.or (cmp .eql aB.Op 4) (cmp .eql aB.Op 0))))]∧C5 Eq H0 [] H1| .inr y=>e= .ret∧l=[fi 2 y]∧C5 Eq H0 [] H1) (by kernel_rfl) ?_ ?_
 ·clear h;have h:=hx
  repeat' (cbv;first|apply C4 hE h<;>intro _ h|refine B0 hE h (c331 _ _) .z fun _ h=>?_|(cases h;exact⟨_,⟨rfl,rfl,hO⟩,.e rfl .z,rfl⟩)|(cases h;exact⟨_,⟨rfl,rfl,hO⟩,.e rfl (.e4 .z),rfl⟩))
 clear hx
 rcases s3 with y5|y6
 ·rintro e l H ⟨rfl,rfl,hO⟩;cbv;apply C4 hE h<;>intro _ h
  ·cbv;cases h;exact hK hO .z
  cbv;cases h;exact hK hO .z
 rintro e l H ⟨rfl,rfl,hO⟩;cbv;cases h;exact hK hO .z
theorem c260 (N aB r)(h:HZ N aB=some r):B9 prog 260 [(Y9 aB)] (vi r):=by
 refine O0 cf0 func260 call260 ntmps260 ?_;intro E H0 K hE hK hO
 repeat' (cbv;first|apply C4 hE h<;>intro _ h|refine B0 hE h (c294 _ _ _) .z fun _ h=>?_|refine B0 hE (g:=fun r2=>vi r2) h (fun r2 hx=>c295 N N aB (.func (.func 296) [] []) (fun y1=>JW N y1) (fun y1 r hx=>B9.value (F:=[]) (C:=[]) (c296 N y1 r hx)) r2 hx) .z fun r2 h=>?_|(cases h;exact hK hO .z))
def cf261:=cfB [] [(6,10)]
theorem c261 (N:Nat):∀n aC aD r,Hx N n aC aD=some r→B9 prog 261 [(Y9 aC),(Y9 aD)] (.bool r):=by
 intro n
 induction n with
 |zero=>intro aC aD r h;cases h
 |succ n ih=>
 intro aC aD r h
 unfold Hx at h
 refine O0 cf261 func261 call261 ntmps261 ?_;intro E H0 K hE hK hO
 repeat' (cbv;first|apply C4 hE h<;>intro _ h|apply I8 hE|(cases h;exact hK hO .z))
 cbv;obtain⟨s2,hx,h⟩:=bind_some h;refine H9 cf261 hE O7 (fun s1=>[(2,.v (.eref (BT aC) 0)),(3,.v (.eref (BT aD) 0)),fi 50 (Ar.len aC.cL),fi 51 s1]) (fun s1 H1=>C5 Eq H0 [] H1) (fun x e l H1=>match(generalizing:=false) x with| .inl y=>e= .exit 0∧l=[]∧C5 Eq H0 [] H1| .inr y=>e= .ret∧l=[(4,.b false)]∧C5 Eq H0 [] H1) (by kernel_rfl) ?_ hx ?_ hO ?_
 ·intro s1 H o hO h
  repeat' (cbv;first|apply C4 hE h<;>intro _ h|refine B0 hE h (ih _ _) .z fun _ h=>?_|refine D9 hE eBi2 h fun _ h=>?_|(cases h;exact⟨_,_,rfl,⟨rfl,rfl,hO⟩,.b rfl (.z),rfl⟩)|(cases h;exact⟨_,rfl,.e4 .z,rfl,hO⟩)|(cases h;exact⟨_,_,rfl,⟨rfl,rfl,hO⟩,.z,rfl⟩))
 ·exact .e4 .z
 clear hx
 rcases s2 with y6|y7
 ·rintro e l H ⟨rfl,rfl,hO⟩;cbv;cases h;exact hK hO .z
 rintro e l H ⟨rfl,rfl,hO⟩;cbv;cases h;exact hK hO .z
theorem c262 (N bJ aO r)(h:T8 N bJ aO=some r):B9 prog 262 [.bool bJ,vi aO] (.bool r):=by
 refine O0 cf0 func262 call262 ntmps262 ?_;intro E H0 K hE hK hO;cbv;cases h;exact hK hO .z
def cf215:=cfC [] [] [(64,10)]
theorem c215 (N aA r) (h:Ax N aA=some r):B9 prog 215 [(C8 aA)] (vi r):=by
 refine O0 cf215 func215 call215 ntmps215 ?_;intro E H0 K hE hK hO
 repeat' (cbv;first|apply C4 hE h<;>intro _ h|apply I8 hE|refine B0 hE h (c259 _ _ _ _) .z fun _ h=>?_|(cases h;exact hK hO .z)|refine AD8 hE (g:=fun x=>(KQ x)) (l:=M7) rfl (fun _=>rfl) rfl rfl h fun x1 h=>?_)
 cbv;obtain⟨s6,hx,h⟩:=bind_some h;refine N2 cf215 hE O7 (fun e l H1=>match(generalizing:=false) s6 with| .inl y=>e= .normal∧l=[(1,.v (.eref (D2 aA) 0)),(3,.v (.eref (GP x1) 0))]∧C5 Eq H0 [] H1| .inr y=>e= .ret∧l=[fi 2 y]∧C5 Eq H0 [] H1) (by kernel_rfl) ?_ ?_
 ·clear h;have h:=hx
  repeat' (cbv;first|apply C4 hE h<;>intro _ h|refine B0 hE h (c260 _ _) .z fun _ h=>?_|(cases h;exact⟨_,⟨rfl,rfl,hO⟩,.e rfl .z,rfl⟩)|(cases h;exact⟨_,⟨rfl,rfl,hO⟩,.e2 .z,rfl⟩))
 clear hx
 rcases s6 with y8|y18
 ·rintro e l H ⟨rfl,rfl,hO⟩
  repeat' (cbv;first|apply C4 hE h<;>intro _ h|refine B0 hE h (c261 _ _ _ _) (.r (.cons (.agg (.r (.cons (.lit _ (E4)) .z))) .z)) fun _ h=>?_|refine B0 hE h (c262 _ _ _) .z fun _ h=>?_|(cases h;exact hK hO .z))
 rintro e l H ⟨rfl,rfl,hO⟩;cbv;cases h;exact hK hO .z
def cf156:=cfA [2]
theorem c156 (N aA r) (h:Cr N aA=some r):B9 prog 156 [(C8 aA)] (vi r):=by
 refine O0 cf156 func156 call156 ntmps156 ?_;intro E H0 K hE hK hO
 repeat' (cbv;first|apply C4 hE h<;>intro _ h|refine B0 hE h (c214 _ _ _) .z fun _ h=>?_|refine Jg hE h (c157 _ _) .z fun _ _ hv4 h=>?_|apply C0 hE hO 0 rfl|refine C1 hE hO 0 rfl rfl fun H hO=>?_|refine E2 hE hO fun b1 H hO=>?_|(cases h;exact hK hO .z))
 cbv;obtain⟨o9,hx,h⟩:=bind_some h;refine Pq cf156 hE O7 (ι:=Unit) (enc:=fun(x:A1)=>[(C8 x)]) (fun(s6:Unit) F H=>C5 Eq F [cb b1 [vi 0]] H) (fun(r:Int) e F H=>e= .ret∧C5 Eq F [cb b1 [vi r]] H) (fun i s6 y5=>[(2,.v (.ref b1 0)),(5,.v (.eref (D2 y5) 0))]) (fun i s6 y5 F H=>C5 Eq F [cb b1 [vi 0]] H) (fun _=>C5.stable M5 _) (fun _ _=>G7.con (C5.stable M5 _)) (fun _ _ _=>C5.stable M5 _) hv4 hx (hO) (by decide) (fun _=>rfl) (by kernel_rfl) (by kernel_rfl) ?_ ?_ ?_ ?_
 ·rintro E i8 y5 s6 F7 H hE hO;clear hx h;cbv;exact⟨(),hO,.e2 .z,rfl⟩
 ·rintro E i8 _ y5 s6 F7 H o hE hF h hO;cbv;refine B0 hE h (c215 N y5) .z fun r10 h=>?_;cbv;apply C4 hE h<;>intro _ h
  ·cbv;refine C1 hE hO 0 rfl rfl fun H hO=>?_;cbv;cases h;exact⟨_,rfl,rfl,⟨rfl,hO⟩⟩
  cbv;cases h;exact⟨_,rfl,hO⟩
 ·rintro d11 s13 H rfl hd hO;have hO:C5 Eq H0 [cb b1 [vi 0],.blk d11 DB] H:=C5.dblk hd hO;clear hd;cbv;refine C1 hE hO 0 rfl rfl fun H hO=>?_;cbv;refine JP hE hO 1 rfl fun H hO=>?_;cbv;apply C0 hE hO 0 rfl;cbv;cases h;exact hK hO .z
 rintro d11 y14 e H rfl hd hX
 rcases hX with⟨rfl,hO⟩
 have hO:C5 Eq H0 [cb b1 [vi y14],.blk d11 DB] H:=C5.dblk hd hO;clear hd;cbv;refine JP hE hO 1 rfl fun H hO=>?_;cbv;apply C0 hE hO 0 rfl;cbv;cases h;exact hK hO .z
def cf117:=cfA [2]
theorem c117 (N aA r) (h:FV N aA=some r):B9 prog 117 [(C8 aA)] (vi r):=by
 refine O0 cf117 func117 call117 ntmps117 ?_;intro E H0 K hE hK hO
 repeat' (cbv;first|apply C4 hE h<;>intro _ h|refine B0 hE h (c156 _ _) .z fun _ h=>?_|refine Jg hE h (c157 _ _) .z fun _ _ hv4 h=>?_|apply C0 hE hO 0 rfl|refine C1 hE hO 0 rfl rfl fun H hO=>?_|refine E2 hE hO fun b1 H hO=>?_|(cases h;exact hK hO .z))
 cbv;obtain⟨o9,hx,h⟩:=bind_some h;refine Pq cf117 hE O7 (ι:=Unit) (enc:=fun(x:A1)=>[(C8 x)]) (fun(s6:Unit) F H=>C5 Eq F [cb b1 [vi 0]] H) (fun(r:Int) e F H=>e= .ret∧C5 Eq F [cb b1 [vi r]] H) (fun i s6 y5=>[(2,.v (.ref b1 0)),(4,.v (.eref (D2 y5) 0))]) (fun i s6 y5 F H=>C5 Eq F [cb b1 [vi 0]] H) (fun _=>C5.stable M5 _) (fun _ _=>G7.con (C5.stable M5 _)) (fun _ _ _=>C5.stable M5 _) hv4 hx (hO) (by decide) (fun _=>rfl) (by kernel_rfl) (by kernel_rfl) ?_ ?_ ?_ ?_
 ·rintro E i8 y5 s6 F7 H hE hO;clear hx h;cbv;exact⟨(),hO,.e2 .z,rfl⟩
 ·rintro E i8 _ y5 s6 F7 H o hE hF h hO;cbv;apply C4 hE h<;>intro _ h
  ·cbv;refine C1 hE hO 0 rfl rfl fun H hO=>?_;cbv;cases h;exact⟨_,rfl,rfl,⟨rfl,hO⟩⟩
  cbv;cases h;exact⟨_,rfl,hO⟩
 ·rintro d10 s12 H rfl hd hO;have hO:C5 Eq H0 [cb b1 [vi 0],.blk d10 DB] H:=C5.dblk hd hO;clear hd;cbv;refine C1 hE hO 0 rfl rfl fun H hO=>?_;cbv;refine JP hE hO 1 rfl fun H hO=>?_;cbv;apply C0 hE hO 0 rfl;cbv;cases h;exact hK hO .z
 rintro d10 y13 e H rfl hd hX
 rcases hX with⟨rfl,hO⟩
 have hO:C5 Eq H0 [cb b1 [vi y13],.blk d10 DB] H:=C5.dblk hd hO;clear hd;cbv;refine JP hE hO 1 rfl fun H hO=>?_;cbv;apply C0 hE hO 0 rfl;cbv;cases h;exact hK hO .z
def cf118:=cfC [5,6,7] [(11,5)] [(18,7)]
theorem c118 (N aA r) (h:FW N aA=some r):B9 prog 118 [(C8 aA)] (.tup [vi r.1,vi r.2.1,.bool r.2.2]):=by
 refine O0 cf118 func118 call118 ntmps118 ?_;intro E H0 K hE hK hO;cbv;refine E2 hE hO fun b1 H hO=>?_;cbv;refine E2 hE hO fun b2 H hO=>?_;cbv;refine E2 hE hO fun b3 H hO=>?_;cbv;refine C1 hE hO 2 rfl rfl fun H hO=>?_;cbv;refine C1 hE hO 1 rfl rfl fun H hO=>?_;cbv;refine C1 hE hO 0 rfl rfl fun H hO=>?_;cbv;refine Jg hE h (c157 N aA) .z fun r4 v5 hv5 h=>?_;cbv;obtain⟨o10,hx,h⟩:=bind_some h;refine Pq cf118 hE O7 (ι:=Unit) (enc:=fun(x:A1)=>[(C8 x)]) (fun(s7:Bool×Int×Int) F H=>C5 Eq F [cb b3 [.bool s7.1],cb b2 [vi s7.2.1],cb b1 [vi s7.2.2]] H) (fun(r:Unit) e F H=>False) (fun i s7 y6=>[(5,.v (.ref b1 0)),(6,.v (.ref b2 0)),(7,.v (.ref b3 0)),(8,.v (.eref (D2 y6) 0))]) (fun i s7 y6 F H=>C5 Eq F [cb b3 [.bool s7.1],cb b2 [vi s7.2.1],cb b1 [vi s7.2.2]] H) (fun _=>C5.stable M5 _) (fun _ _=>⟨fun h=>h.elim,fun _ _ h=>h.elim⟩) (fun _ _ _=>C5.stable M5 _) hv5 hx (hO) (by decide) (fun _=>rfl) (by kernel_rfl) (by kernel_rfl) ?_ ?_ ?_ ?_
 ·rintro E i9 y6 s7 F8 H hE hO;clear hx h;cbv;exact⟨(),hO,.e4 .z,rfl⟩
 ·rintro E i9 _ y6 s7 F8 H o hE hF h hO;cbv;refine AD8 hE (g:=fun x=>(KQ x)) (l:=M7) rfl (fun _=>rfl) rfl rfl h fun x11 h=>?_;cbv;obtain⟨s12,hx,h⟩:=bind_some h;refine N2 cf118 hE O7 (fun e l H1=>e= .normal∧l=[(6,.v (.ref b2 0)),(7,.v (.ref b3 0)),(8,.v (.eref (D2 y6) 0)),(9,.v (.eref (GP x11) 0))]∧C5 Eq F8 [cb b3 [.bool s12.1],cb b2 [vi s7.2.1],cb b1 [vi s12.2]] H1) (by kernel_rfl) ?_ ?_
  ·clear h;have h:=hx
   repeat' (cbv;first|apply C4 hE h<;>intro _ h|apply C0 hE hO 0 rfl|apply C0 hE hO 2 rfl|refine C1 hE hO 0 rfl rfl fun H hO=>?_|refine C1 hE hO 2 rfl rfl fun H hO=>?_|(cases h;exact⟨_,⟨rfl,rfl,hO⟩,.e4 .z,rfl⟩))
  clear hx;rintro e l H ⟨rfl,rfl,hO⟩
  repeat' (cbv;first|apply C4 hE h<;>intro _ h|apply C0 hE hO 0 rfl|apply C0 hE hO 1 rfl|refine C1 hE hO 0 rfl rfl fun H hO=>?_|refine C1 hE hO 1 rfl rfl fun H hO=>?_|(cases h;exact⟨_,rfl,hO⟩))
 ·rintro d13 s15 H rfl hd hO;have hO:C5 Eq H0 [cb b3 [.bool s15.1],cb b2 [vi s15.2.1],cb b1 [vi s15.2.2],.blk d13 DB] H:=C5.dblk hd hO;clear hd;cbv;apply C0 hE hO 2 rfl;cbv;apply C0 hE hO 1 rfl;cbv;apply C0 hE hO 0 rfl;cbv;refine JP hE hO 3 rfl fun H hO=>?_;cbv;cases h;exact hK hO .z
 rintro d r e H rfl hd hO;exact hO.elim
theorem c55 (N aA r)(h:Cc N aA=some r):B9 prog 55 [(C8 aA)] (vi r):=by
 refine O0 cf0 func55 call55 ntmps55 ?_;intro E H0 K hE hK hO
 repeat' (cbv;first|apply C4 hE h<;>intro _ h|refine B0 hE h (c117 _ _) .z fun _ h=>?_|refine B0 hE h (c118 _ _) .z fun _ h=>?_|(cases h;exact hK hO .z))
theorem c119 (N aB r)(h:Jw N aB=some r):B9 prog 119 [(W4 aB)] (.bool r):=by
 refine O0 cf0 func119 call119 ntmps119 ?_;intro E H0 K hE hK hO;cbv;cases h;exact hK hO .z
def cf120:=cfA [2]
theorem c120 (N aB r)(h:Ho N aB=some r):B9 prog 120 [(W4 aB)] ((Pa r)):=by
 refine O0 cf120 func120 call120 ntmps120 ?_;intro E H0 K hE hK hO;cbv;refine E2 hE hO fun b1 H hO=>?_;cbv;refine C1 hE hO 0 rfl rfl fun H hO=>?_;cbv;apply C0 hE hO 0 rfl;cbv;cases h;exact hK hO .z
def cf56:=cfB [5] [(9,9)]
theorem c56 (N aG r) (h:BN N aG=some r):B9 prog 56 [sr eBg5 aG] (vi r):=by
 refine O0 cf56 func56 call56 ntmps56 ?_;intro E H0 K hE hK hO
 repeat' (cbv;first|apply C4 hE h<;>intro _ h|apply I8 hE|(cases h;exact hK hO .z)|refine Bd8 hE YK eBi7 V.bool hO fun m1 o2 H ho2 hO=>?_)
 cbv;obtain⟨s5,hx,h⟩:=bind_some h;refine P6 cf56 hE O7 (γ:=Obj) (fun s3 g=>[(0,.v (sr eBg5 aG)),(3,.v (.map m1)),(10,.v (sr eBg5 aG)),fi 11 (Ar.len aG),fi 12 s3.1]) (fun s3 g H1=>Mok YK eBi7 V.bool g s3.2∧C5 Eq H0 [.blk m1 (.obj g)] H1) (fun x e l H1=>match(generalizing:=false) x with| .inl y=>∃u1:Obj,Mok YK eBi7 V.bool u1 y∧e= .exit 0∧l=[]∧C5 Eq H0 [.blk m1 (.obj u1)] H1| .inr y=>∃u1:Obj,Mok YK eBi7 V.bool u1 y.2∧e= .ret∧l=[fi 2 y.1]∧C5 Eq H0 [.blk m1 (.obj u1)] H1) (by kernel_rfl) ?_ o2 hx ?_ ?_ ?_
 ·rintro s3 q4 H o ⟨hq4,hO⟩ h;cbv;apply C4 hE h<;>intro _ h
  ·cbv;refine D9 hE eBh4 h fun x6 h=>?_;cbv;refine E2 hE hO fun b7 H hO=>?_;cbv;refine C1 hE hO 0 rfl rfl fun H hO=>?_;cbv;apply C0 hE hO 0 rfl;cbv;refine B0 hE h (c119 N x6) .z fun r8 h=>?_;cbv;apply C4 hE h<;>intro _ h
   ·cbv;cases h;exact⟨_,_,rfl,⟨q4,hq4,rfl,rfl,hO.tail⟩,.e rfl .z,rfl⟩
   cbv;apply C4 hE h<;>intro _ h
   ·repeat' (cbv;first|apply C4 hE h<;>intro _ h|refine B0 hE h (c72 _ _ _) .z fun _ h=>?_|refine B0 hE h (c120 _ _) .z fun r11 h=>?_|refine D9 hE eBh4 h fun _ h=>?_|apply C0 hE hO 0 rfl|(cases h;exact⟨_,_,rfl,⟨q4,hq4,rfl,rfl,hO.tail⟩,.e rfl .z,rfl⟩)|refine Ad5 (eBj0 r11) ?_)
    refine AD5 hE (kt:=167) (et:=4) (by kernel_rfl) (by kernel_rfl) Al0 (false:Bool) (by kernel_rfl) rfl hO hq4 1 rfl h fun r12 h=>?_;cbv;apply C4 hE h<;>intro _ h
    ·cbv;cases h;exact⟨_,_,rfl,⟨q4,hq4,rfl,rfl,hO.tail⟩,.e rfl .z,rfl⟩
    cbv;apply C0 hE hO 0 rfl;cbv;refine B0 hE h (c120 N x6) .z fun r13 h=>?_;cbv;refine Wm (eBj0 r13) ?_;refine AD4 hE (kt:=167) (et:=4) (by kernel_rfl) (by kernel_rfl) Al0 UY hO hq4 1 rfl h fun l15 o14 H ho14 h hO=>?_;cbv;cases h;exact⟨_,o14,rfl,.e rfl (.e4 .z),rfl,ho14,hO.tail⟩
   cbv;apply C0 hE hO 0 rfl;cbv;refine B0 hE h (c120 N x6) .z fun r16 h=>?_;cbv;refine Ad5 (eBj0 r16) ?_;refine AD5 hE (kt:=167) (et:=4) (by kernel_rfl) (by kernel_rfl) Al0 (false:Bool) (by kernel_rfl) rfl hO hq4 1 rfl h fun r17 h=>?_;cbv;apply C4 hE h<;>intro _ h
   ·cbv;cases h;exact⟨_,_,rfl,⟨q4,hq4,rfl,rfl,hO.tail⟩,.e rfl .z,rfl⟩
   cbv;apply C0 hE hO 0 rfl;cbv;refine B0 hE h (c120 N x6) .z fun r18 h=>?_;cbv;refine Wm (eBj0 r18) ?_;refine AD4 hE (kt:=167) (et:=4) (by kernel_rfl) (by kernel_rfl) Al0 UY hO hq4 1 rfl h fun l20 o19 H ho19 h hO=>?_;cbv;cases h;exact⟨_,o19,rfl,.e rfl (.e4 .z),rfl,ho19,hO.tail⟩
  cbv;cases h;exact⟨_,_,rfl,⟨q4,hq4,rfl,rfl,hO⟩,.z,rfl⟩
 ·exact .e rfl (.e4 .z)
 ·exact⟨ho2,hO⟩
 clear hx
 rcases s5 with y21|y23
 ·rintro e l H ⟨q22,hq22,rfl,rfl,hO⟩;cbv;cases h;exact hK hO .z
 rintro e l H ⟨q24,hq24,rfl,rfl,hO⟩;cbv;cases h;exact hK hO .z
def cf300:=cfA [2]
theorem c300 (N aO r)(h:Z7 N aO=some r):B9 prog 300 [vi aO] ((F4 r)):=by
 refine O0 cf300 func300 call300 ntmps300 ?_;intro E H0 K hE hK hO;cbv;refine E2 hE hO fun b1 H hO=>?_;cbv;refine C1 hE hO 0 rfl rfl fun H hO=>?_;cbv;apply C0 hE hO 0 rfl;cbv;cases h;exact hK hO .z
def cf301:=cfA [5]
theorem c301 (N:Nat)(aC:Int)(aD:Int)(cC:V)(bE:Int→Option B1)(cI:∀y1 q,bE y1=some q→AL prog cC [vi y1] ((F4 q)))(r:B1)(h:EZ N aC aD bE=some r):B9 prog 301 [vi aC,vi aD,.eref [cC] 0] ((F4 r)):=by
 refine O0 cf301 func301 call301 ntmps301 ?_;intro E H0 K hE hK hO;cbv;refine E2 hE hO fun b1 H hO=>?_;cbv;refine BP hE (g:=fun r2=>(F4 r2)) h (fun r2 hx=>cI (Ar.ar .add .i64 aC aD) r2 hx) .z fun r2 h=>?_;cbv;refine C1 hE hO 0 rfl rfl fun H hO=>?_;cbv;apply C0 hE hO 0 rfl;cbv;cases h;exact hK hO .z
def cf302:=cfA [5]
theorem c302 (N:Nat)(aC:Int)(aD:Int)(cC:V)(bE:Int→Option B1)(cI:∀y1 q,bE y1=some q→AL prog cC [vi y1] ((F4 q)))(r:B1)(h:EY N aC aD bE=some r):B9 prog 302 [vi aC,vi aD,.eref [cC] 0] ((F4 r)):=by
 refine O0 cf302 func302 call302 ntmps302 ?_;intro E H0 K hE hK hO;cbv;refine E2 hE hO fun b1 H hO=>?_;cbv;refine BP hE (g:=fun r2=>(F4 r2)) h (fun r2 hx=>cI (Ar.ar .sub .i64 aC aD) r2 hx) .z fun r2 h=>?_;cbv;refine C1 hE hO 0 rfl rfl fun H hO=>?_;cbv;apply C0 hE hO 0 rfl;cbv;cases h;exact hK hO .z
def cf269:=cfA [2,3]
theorem c269 (N aD r)(h:NW N aD=some r):B9 prog 269 [.bool aD] ((F4 r)):=by
 refine O0 cf269 func269 call269 ntmps269 ?_;intro E H0 K hE hK hO
 repeat' (cbv;first|apply C4 hE h<;>intro _ h|apply C0 hE hO 0 rfl|apply C0 hE hO 1 rfl|refine C1 hE hO 0 rfl rfl fun H hO=>?_|refine C1 hE hO 1 rfl rfl fun H hO=>?_|refine E2 hE hO fun _ H hO=>?_|(cases h;exact hK hO .z))
def cf229:=cfA [2]
theorem c229 (N aD r)(h:Cd N aD=some r):B9 prog 229 [.bool aD] ((F4 r)):=by
 refine O0 cf229 func229 call229 ntmps229 ?_;intro E H0 K hE hK hO;cbv;refine E2 hE hO fun b1 H hO=>?_;cbv;refine B0 hE h (c269 N aD) .z fun r2 h=>?_;cbv;refine C1 hE hO 0 rfl rfl fun H hO=>?_;cbv;apply C0 hE hO 0 rfl;cbv;cases h;exact hK hO .z
def cf303:=cfA [4]
theorem c303 (N aC aD r)(h:EX N aC aD=some r):B9 prog 303 [vi aC,vi aD] ((F4 r)):=by
 refine O0 cf303 func303 call303 ntmps303 ?_;intro E H0 K hE hK hO
 repeat' (cbv;first|refine B0 hE h (c229 _ _) .z fun _ h=>?_|apply C0 hE hO 0 rfl|refine C1 hE hO 0 rfl rfl fun H hO=>?_|refine E2 hE hO fun _ H hO=>?_|(cases h;exact hK hO .z))
def cf304:=cfA [4]
theorem c304 (N aC aD r)(h:EW N aC aD=some r):B9 prog 304 [vi aC,vi aD] ((F4 r)):=by
 refine O0 cf304 func304 call304 ntmps304 ?_;intro E H0 K hE hK hO
 repeat' (cbv;first|refine B0 hE h (c229 _ _) .z fun _ h=>?_|apply C0 hE hO 0 rfl|refine C1 hE hO 0 rfl rfl fun H hO=>?_|refine E2 hE hO fun _ H hO=>?_|(cases h;exact hK hO .z))
def cf305:=cfA [4]
theorem c305 (N aC aD r)(h:EV N aC aD=some r):B9 prog 305 [vi aC,vi aD] ((F4 r)):=by
 refine O0 cf305 func305 call305 ntmps305 ?_;intro E H0 K hE hK hO
 repeat' (cbv;first|refine B0 hE h (c229 _ _) .z fun _ h=>?_|apply C0 hE hO 0 rfl|refine C1 hE hO 0 rfl rfl fun H hO=>?_|refine E2 hE hO fun _ H hO=>?_|(cases h;exact hK hO .z))
def cf306:=cfA [4]
theorem c306 (N aC aD r)(h:EU N aC aD=some r):B9 prog 306 [vi aC,vi aD] ((F4 r)):=by
 refine O0 cf306 func306 call306 ntmps306 ?_;intro E H0 K hE hK hO
 repeat' (cbv;first|refine B0 hE h (c229 _ _) .z fun _ h=>?_|apply C0 hE hO 0 rfl|refine C1 hE hO 0 rfl rfl fun H hO=>?_|refine E2 hE hO fun _ H hO=>?_|(cases h;exact hK hO .z))
def cf307:=cfA [4]
theorem c307 (N aC aQ r)(h:ET N aC aQ=some r):B9 prog 307 [vi aC,vi aQ] ((F4 r)):=by
 refine O0 cf307 func307 call307 ntmps307 ?_;intro E H0 K hE hK hO
 repeat' (cbv;first|refine B0 hE h (c229 _ _) .z fun _ h=>?_|apply C0 hE hO 0 rfl|refine C1 hE hO 0 rfl rfl fun H hO=>?_|refine E2 hE hO fun _ H hO=>?_|(cases h;exact hK hO .z))
theorem c267 (N r)(h:RH N=some r):Ah5 prog 267 [] WD WC:=by
 refine Ah0 (T:=TT) cf0 O7 func267 (by rfl) (by kernel_rfl) call267 ntmps267 (by rfl) (by rfl) ?_;intro E H0 K hE hK;have hO:C5 Eq H0 [] H0:=.start M5 rfl
 repeat' (cbv;first|exact hK _ _ 0 _ rfl hO|refine Be0 hE hO fun _ H hO=>?_|refine AY9 hE (kt:=3) (et:=338) (by kernel_rfl) (by kernel_rfl) hO 0 rfl rfl fun H hO=>?_)
theorem c333 (N aF aJ r)(h:W7 N aF aJ=some r):B9 prog 333 [(Dl aF),vi aJ] (sr eBg5 r):=by
 refine O0 cf0 func333 call333 ntmps333 ?_;intro E H0 K hE hK hO;cbv;apply I8 hE;cbv;apply C4 hE h<;>intro _ h
 ·cbv;cases h;exact hK hO (.lit _ (E4))
 cbv;refine D9 hE eBj1 h fun x1 h=>?_;cbv;cases h;exact hK hO .z
end Go.Ab
