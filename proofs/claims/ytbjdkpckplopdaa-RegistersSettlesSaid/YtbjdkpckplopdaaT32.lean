/- GRSh -/
import Derived.Shelf.SlIterI.Nil
import Derived.Shelf.SortM.Plain
import Derived.Shelf.SortM.SortNone
import Derived.Test.YtbjdkpckplopdaaChecked
import Derived.KernelRfl
set_option linter.all false

/- The shelf laid at this program: plain. -/
namespace Go.Proofs
open Go.Shelf
set_option maxRecDepth 100000
def Try.laysGgz7_ren : Ren :=
{
  f := fun x =>
    match x with
    | 7 => 61
    | 10 => 80
    | n => n,
  t := fun x =>
    match x with
    | 23 => 89
    | 26 => 3
    | 3 => 86
    | 28 => 121
    | 0 => 0
    | 27 => 120
    | 33 => 142
    | 4 => 4
    | n => n,
  g := fun x =>
    x }
theorem Try.laysGgz7 : SlLaysZI.n7 Try.prog Try.laysGgz7_ren :=
{ mixed := (by kernel_rfl),
  f7 :=
    Exists.intro "maps.Keys[tidegate/registers.needs,int,tidegate/api.Need]"
      ⟨of_decide_eq_true (id ((by kernel_rfl))),
        Eq.trans Try.func61
          (congrArg some (by kernel_rfl))⟩,
  f10 :=
    Exists.intro "maps.Keys[tidegate/registers.needs,int,tidegate/api.Need]$1"
      ⟨of_decide_eq_true (id ((by kernel_rfl))),
        Eq.trans Try.func80
          (congrArg some (by kernel_rfl))⟩,
  t0 := Try.underlying0, a0 := Try.isAgg0, z0 := Try.sizeOf0, v0 := Try.zeroValue0, t4 := Try.underlying4,
  a4 := Try.isAgg4, z4 := Try.sizeOf4, v4 := Try.zeroValue4, t23 := Try.underlying89, a23 := Try.isAgg89,
  z23 := Try.sizeOf89, v23 := Try.zeroValue89, t26 := Try.underlying3, a26 := Try.isAgg3, z26 := Try.sizeOf3,
  v26 := Try.zeroValue3, t27 := Try.underlying120, a27 := Try.isAgg120, z27 := Try.sizeOf120, v27 := Try.zeroValue120,
  t28 := Try.underlying121, a28 := Try.isAgg121, z28 := Try.sizeOf121, v28 := Try.zeroValue121,
  t33 := Try.underlying142, a33 := Try.isAgg142, z33 := Try.sizeOf142, v33 := Try.zeroValue142 }
def Try.laysGgz6_ren : Ren :=
{
  f := fun x =>
    match x with
    | 6 => 60
    | 8 => 78
    | 9 => 79
    | 11 => 94
    | 13 => 96
    | 12 => 95
    | 23 => 115
    | 24 => 116
    | 14 => 106
    | 15 => 107
    | 16 => 108
    | 17 => 109
    | 18 => 110
    | 19 => 111
    | 20 => 112
    | 21 => 113
    | 22 => 114
    | 25 => 118
    | 26 => 119
    | 27 => 120
    | 28 => 121
    | 29 => 122
    | 30 => 123
    | 31 => 124
    | n => n,
  t := fun x =>
    match x with
    | 26 => 3
    | 28 => 121
    | 24 => 77
    | 0 => 0
    | 3 => 3
    | 37 => 114
    | 48 => 134
    | 50 => 136
    | 4 => 4
    | 40 => 167
    | 39 => 166
    | 45 => 137
    | 5 => 5
    | 9 => 9
    | 51 => 172
    | 55 => 176
    | 57 => 178
    | 58 => 68
    | 33 => 142
    | n => n,
  g := fun x =>
    x }
theorem Try.laysGgz6 : SlLaysZI.n6 Try.prog Try.laysGgz6_ren :=
{ mixed := (by kernel_rfl),
  f6 :=
    Exists.intro "slices.Sorted[int]"
      ⟨of_decide_eq_true (id ((by kernel_rfl))),
        Eq.trans Try.func60
          (congrArg some (by kernel_rfl))⟩,
  f8 :=
    Exists.intro "slices.Collect[int]"
      ⟨of_decide_eq_true (id ((by kernel_rfl))),
        Eq.trans Try.func78
          (congrArg some (by kernel_rfl))⟩,
  f11 :=
    Exists.intro "slices.AppendSeq[[]int,int]"
      ⟨of_decide_eq_true (id ((by kernel_rfl))),
        Eq.trans Try.func94
          (congrArg some (by kernel_rfl))⟩,
  t0 := Try.underlying0, a0 := Try.isAgg0, z0 := Try.sizeOf0, v0 := Try.zeroValue0, t24 := Try.underlying77,
  a24 := Try.isAgg77, z24 := Try.sizeOf77, v24 := Try.zeroValue77, t26 := Try.underlying3, a26 := Try.isAgg3,
  z26 := Try.sizeOf3, v26 := Try.zeroValue3, t28 := Try.underlying121, a28 := Try.isAgg121, z28 := Try.sizeOf121,
  v28 := Try.zeroValue121, i26 := Eq.refl (some (some (Value.int IntKind.i64 0), 1, 8)) }
def Try.laysSlgm5_ren : Ren :=
{
  f := fun x =>
    match x with
    | 5 => 79
    | 8 => 96
    | 7 => 95
    | 19 => 115
    | 20 => 116
    | 10 => 106
    | 11 => 107
    | 12 => 108
    | 13 => 109
    | 14 => 110
    | 15 => 111
    | 16 => 112
    | 17 => 113
    | 18 => 114
    | 30 => 118
    | 31 => 119
    | 32 => 120
    | 33 => 121
    | 34 => 122
    | 35 => 123
    | 40 => 124
    | n => n,
  t := fun x =>
    match x with
    | 23 => 77
    | 25 => 3
    | 3 => 3
    | 32 => 114
    | 22 => 77
    | 0 => 0
    | 44 => 134
    | 46 => 136
    | 4 => 4
    | 36 => 167
    | 35 => 166
    | 41 => 137
    | 5 => 5
    | 9 => 9
    | 53 => 172
    | 57 => 176
    | 63 => 178
    | 64 => 68
    | n => n,
  g := fun x =>
    x }
theorem Try.laysSlgm5 : SlLaysM.n5 Try.prog Try.laysSlgm5_ren :=
{ mixed := (by kernel_rfl),
  f5 :=
    Exists.intro "slices.Sort[[]int,int]"
      ⟨of_decide_eq_true (id ((by kernel_rfl))),
        Eq.trans Try.func79
          (congrArg some (by kernel_rfl))⟩,
  f7 :=
    Exists.intro "slices.pdqsortOrdered[int]"
      ⟨of_decide_eq_true (id ((by kernel_rfl))),
        Eq.trans Try.func95
          (congrArg some (by kernel_rfl))⟩,
  f8 := Eq.trans Try.func96 (congrArg some (by kernel_rfl)),
  f10 :=
    Exists.intro "slices.insertionSortOrdered[int]"
      ⟨of_decide_eq_true (id ((by kernel_rfl))),
        Eq.trans Try.func106
          (congrArg some (by kernel_rfl))⟩,
  f11 :=
    Exists.intro "slices.heapSortOrdered[int]"
      ⟨of_decide_eq_true (id ((by kernel_rfl))),
        Eq.trans Try.func107
          (congrArg some (by kernel_rfl))⟩,
  f12 :=
    Exists.intro "slices.breakPatternsOrdered[int]"
      ⟨of_decide_eq_true (id ((by kernel_rfl))),
        Eq.trans Try.func108
          (congrArg some (by kernel_rfl))⟩,
  f13 :=
    Exists.intro "slices.choosePivotOrdered[int]"
      ⟨of_decide_eq_true (id ((by kernel_rfl))),
        Eq.trans Try.func109
          (congrArg some (by kernel_rfl))⟩,
  f14 :=
    Exists.intro "slices.reverseRangeOrdered[int]"
      ⟨of_decide_eq_true (id ((by kernel_rfl))),
        Eq.trans Try.func110
          (congrArg some (by kernel_rfl))⟩,
  f15 :=
    Exists.intro "slices.partialInsertionSortOrdered[int]"
      ⟨of_decide_eq_true (id ((by kernel_rfl))),
        Eq.trans Try.func111
          (congrArg some (by kernel_rfl))⟩,
  f16 :=
    Exists.intro "cmp.Less[int]"
      ⟨of_decide_eq_true (id ((by kernel_rfl))),
        Eq.trans Try.func112
          (congrArg some (by kernel_rfl))⟩,
  f17 :=
    Exists.intro "slices.partitionEqualOrdered[int]"
      ⟨of_decide_eq_true (id ((by kernel_rfl))),
        Eq.trans Try.func113
          (congrArg some (by kernel_rfl))⟩,
  f18 :=
    Exists.intro "slices.partitionOrdered[int]"
      ⟨of_decide_eq_true (id ((by kernel_rfl))),
        Eq.trans Try.func114
          (congrArg some (by kernel_rfl))⟩,
  f19 := Eq.trans Try.func115 (congrArg some (by kernel_rfl)),
  f20 := Eq.trans Try.func116 (congrArg some (by kernel_rfl)),
  f30 :=
    Exists.intro "slices.siftDownOrdered[int]"
      ⟨of_decide_eq_true (id ((by kernel_rfl))),
        Eq.trans Try.func118
          (congrArg some (by kernel_rfl))⟩,
  f31 := Eq.trans Try.func119 (congrArg some (by kernel_rfl)),
  f32 := Eq.trans Try.func120 (congrArg some (by kernel_rfl)),
  f33 :=
    Exists.intro "slices.medianAdjacentOrdered[int]"
      ⟨of_decide_eq_true (id ((by kernel_rfl))),
        Eq.trans Try.func121
          (congrArg some (by kernel_rfl))⟩,
  f34 :=
    Exists.intro "slices.medianOrdered[int]"
      ⟨of_decide_eq_true (id ((by kernel_rfl))),
        Eq.trans Try.func122
          (congrArg some (by kernel_rfl))⟩,
  f35 :=
    Exists.intro "cmp.isNaN[int]"
      ⟨of_decide_eq_true (id ((by kernel_rfl))),
        Eq.trans Try.func123
          (congrArg some (by kernel_rfl))⟩,
  f40 :=
    Exists.intro "slices.order2Ordered[int]"
      ⟨of_decide_eq_true (id ((by kernel_rfl))),
        Eq.trans Try.func124
          (congrArg some (by kernel_rfl))⟩,
  t0 := Try.underlying0, a0 := Try.isAgg0, z0 := Try.sizeOf0, v0 := Try.zeroValue0, t3 := Try.underlying3,
  a3 := Try.isAgg3, z3 := Try.sizeOf3, v3 := Try.zeroValue3, t4 := Try.underlying4, a4 := Try.isAgg4, z4 := Try.sizeOf4,
  v4 := Try.zeroValue4, t5 := Try.underlying5, a5 := Try.isAgg5, z5 := Try.sizeOf5, v5 := Try.zeroValue5,
  t9 := Try.underlying9, a9 := Try.isAgg9, z9 := Try.sizeOf9, v9 := Try.zeroValue9, t22 := Try.underlying77,
  a22 := Try.isAgg77, z22 := Try.sizeOf77, v22 := Try.zeroValue77, t23 := Try.underlying77, a23 := Try.isAgg77,
  z23 := Try.sizeOf77, v23 := Try.zeroValue77, t25 := Try.underlying3, a25 := Try.isAgg3, z25 := Try.sizeOf3,
  v25 := Try.zeroValue3, t32 := Try.underlying114, a32 := Try.isAgg114, z32 := Try.sizeOf114, v32 := Try.zeroValue114,
  t35 := Try.underlying166, a35 := Try.isAgg166, z35 := Try.sizeOf166, v35 := Try.zeroValue166,
  t36 := Try.underlying167, a36 := Try.isAgg167, z36 := Try.sizeOf167, v36 := Try.zeroValue167,
  t41 := Try.underlying137, a41 := Try.isAgg137, z41 := Try.sizeOf137, v41 := Try.zeroValue137,
  t44 := Try.underlying134, a44 := Try.isAgg134, z44 := Try.sizeOf134, v44 := Try.zeroValue134,
  t46 := Try.underlying136, a46 := Try.isAgg136, z46 := Try.sizeOf136, v46 := Try.zeroValue136,
  t53 := Try.underlying172, a53 := Try.isAgg172, z53 := Try.sizeOf172, v53 := Try.zeroValue172,
  t57 := Try.underlying176, a57 := Try.isAgg176, z57 := Try.sizeOf176, v57 := Try.zeroValue176,
  t63 := Try.underlying178, a63 := Try.isAgg178, z63 := Try.sizeOf178, v63 := Try.zeroValue178, t64 := Try.underlying68,
  a64 := Try.isAgg68, z64 := Try.sizeOf68, v64 := Try.zeroValue68 }
end Go.Proofs

