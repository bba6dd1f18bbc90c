/- GSSh -/
import Derived.Shelf.SlIterI.Nil
import Derived.Shelf.SortM.Plain
import Derived.Shelf.SortM.SortNone
import Derived.Test.YtbjdkpckplopdaaGreatChecked
import Derived.KernelRfl
set_option linter.all false

/- The shelf laid at this program: plain. -/
namespace Go.Proofs
open Go.Shelf
set_option maxRecDepth 100000
def Tryz.laysGgz7_ren : Ren :=
{
  f := fun x =>
    match x with
    | 7 => 46
    | 10 => 68
    | n => n,
  t := fun x =>
    match x with
    | 23 => 81
    | 26 => 3
    | 3 => 76
    | 28 => 107
    | 0 => 0
    | 27 => 106
    | 33 => 123
    | 4 => 4
    | n => n,
  g := fun x =>
    x }
theorem Tryz.laysGgz7 : SlLaysZI.n7 Tryz.prog Tryz.laysGgz7_ren :=
{ mixed := (by kernel_rfl),
  f7 :=
    Exists.intro "maps.Keys[tidegate/registers.needs,int,tidegate/api.Need]"
      ⟨of_decide_eq_true (id ((by kernel_rfl))),
        Eq.trans Tryz.func46
          (congrArg some (by kernel_rfl))⟩,
  f10 :=
    Exists.intro "maps.Keys[tidegate/registers.needs,int,tidegate/api.Need]$1"
      ⟨of_decide_eq_true (id ((by kernel_rfl))),
        Eq.trans Tryz.func68
          (congrArg some (by kernel_rfl))⟩,
  t0 := Tryz.underlying0, a0 := Tryz.isAgg0, z0 := Tryz.sizeOf0, v0 := Tryz.zeroValue0, t4 := Tryz.underlying4,
  a4 := Tryz.isAgg4, z4 := Tryz.sizeOf4, v4 := Tryz.zeroValue4, t23 := Tryz.underlying81, a23 := Tryz.isAgg81,
  z23 := Tryz.sizeOf81, v23 := Tryz.zeroValue81, t26 := Tryz.underlying3, a26 := Tryz.isAgg3, z26 := Tryz.sizeOf3,
  v26 := Tryz.zeroValue3, t27 := Tryz.underlying106, a27 := Tryz.isAgg106, z27 := Tryz.sizeOf106,
  v27 := Tryz.zeroValue106, t28 := Tryz.underlying107, a28 := Tryz.isAgg107, z28 := Tryz.sizeOf107,
  v28 := Tryz.zeroValue107, t33 := Tryz.underlying123, a33 := Tryz.isAgg123, z33 := Tryz.sizeOf123,
  v33 := Tryz.zeroValue123 }
def Tryz.laysGgz6_ren : Ren :=
{
  f := fun x =>
    match x with
    | 6 => 45
    | 8 => 66
    | 9 => 67
    | 11 => 81
    | 13 => 83
    | 12 => 82
    | 23 => 98
    | 24 => 99
    | 14 => 89
    | 15 => 90
    | 16 => 91
    | 17 => 92
    | 18 => 93
    | 19 => 94
    | 20 => 95
    | 21 => 96
    | 22 => 97
    | 25 => 108
    | 26 => 109
    | 27 => 110
    | 28 => 111
    | 29 => 112
    | 30 => 113
    | 31 => 117
    | n => n,
  t := fun x =>
    match x with
    | 26 => 3
    | 28 => 107
    | 24 => 64
    | 0 => 0
    | 3 => 3
    | 37 => 140
    | 48 => 154
    | 50 => 156
    | 4 => 4
    | 40 => 148
    | 39 => 147
    | 45 => 109
    | 5 => 5
    | 9 => 9
    | 51 => 166
    | 55 => 170
    | 57 => 174
    | 58 => 84
    | 33 => 123
    | n => n,
  g := fun x =>
    x }
theorem Tryz.laysGgz6 : SlLaysZI.n6 Tryz.prog Tryz.laysGgz6_ren :=
{ mixed := (by kernel_rfl),
  f6 :=
    Exists.intro "slices.Sorted[int]"
      ⟨of_decide_eq_true (id ((by kernel_rfl))),
        Eq.trans Tryz.func45
          (congrArg some (by kernel_rfl))⟩,
  f8 :=
    Exists.intro "slices.Collect[int]"
      ⟨of_decide_eq_true (id ((by kernel_rfl))),
        Eq.trans Tryz.func66
          (congrArg some (by kernel_rfl))⟩,
  f11 :=
    Exists.intro "slices.AppendSeq[[]int,int]"
      ⟨of_decide_eq_true (id ((by kernel_rfl))),
        Eq.trans Tryz.func81
          (congrArg some (by kernel_rfl))⟩,
  t0 := Tryz.underlying0, a0 := Tryz.isAgg0, z0 := Tryz.sizeOf0, v0 := Tryz.zeroValue0, t24 := Tryz.underlying64,
  a24 := Tryz.isAgg64, z24 := Tryz.sizeOf64, v24 := Tryz.zeroValue64, t26 := Tryz.underlying3, a26 := Tryz.isAgg3,
  z26 := Tryz.sizeOf3, v26 := Tryz.zeroValue3, t28 := Tryz.underlying107, a28 := Tryz.isAgg107, z28 := Tryz.sizeOf107,
  v28 := Tryz.zeroValue107, i26 := Eq.refl (some (some (Value.int IntKind.i64 0), 1, 8)) }
def Tryz.laysSlgm5_ren : Ren :=
{
  f := fun x =>
    match x with
    | 5 => 67
    | 8 => 83
    | 7 => 82
    | 19 => 98
    | 20 => 99
    | 10 => 89
    | 11 => 90
    | 12 => 91
    | 13 => 92
    | 14 => 93
    | 15 => 94
    | 16 => 95
    | 17 => 96
    | 18 => 97
    | 30 => 108
    | 31 => 109
    | 32 => 110
    | 33 => 111
    | 34 => 112
    | 35 => 113
    | 40 => 117
    | n => n,
  t := fun x =>
    match x with
    | 23 => 64
    | 25 => 3
    | 3 => 3
    | 32 => 140
    | 22 => 64
    | 0 => 0
    | 44 => 154
    | 46 => 156
    | 4 => 4
    | 36 => 148
    | 35 => 147
    | 41 => 109
    | 5 => 5
    | 9 => 9
    | 53 => 166
    | 57 => 170
    | 63 => 174
    | 64 => 84
    | n => n,
  g := fun x =>
    x }
theorem Tryz.laysSlgm5 : SlLaysM.n5 Tryz.prog Tryz.laysSlgm5_ren :=
{ mixed := (by kernel_rfl),
  f5 :=
    Exists.intro "slices.Sort[[]int,int]"
      ⟨of_decide_eq_true (id ((by kernel_rfl))),
        Eq.trans Tryz.func67
          (congrArg some (by kernel_rfl))⟩,
  f7 :=
    Exists.intro "slices.pdqsortOrdered[int]"
      ⟨of_decide_eq_true (id ((by kernel_rfl))),
        Eq.trans Tryz.func82
          (congrArg some (by kernel_rfl))⟩,
  f8 := Eq.trans Tryz.func83 (congrArg some (by kernel_rfl)),
  f10 :=
    Exists.intro "slices.insertionSortOrdered[int]"
      ⟨of_decide_eq_true (id ((by kernel_rfl))),
        Eq.trans Tryz.func89
          (congrArg some (by kernel_rfl))⟩,
  f11 :=
    Exists.intro "slices.heapSortOrdered[int]"
      ⟨of_decide_eq_true (id ((by kernel_rfl))),
        Eq.trans Tryz.func90
          (congrArg some (by kernel_rfl))⟩,
  f12 :=
    Exists.intro "slices.breakPatternsOrdered[int]"
      ⟨of_decide_eq_true (id ((by kernel_rfl))),
        Eq.trans Tryz.func91
          (congrArg some (by kernel_rfl))⟩,
  f13 :=
    Exists.intro "slices.choosePivotOrdered[int]"
      ⟨of_decide_eq_true (id ((by kernel_rfl))),
        Eq.trans Tryz.func92
          (congrArg some (by kernel_rfl))⟩,
  f14 :=
    Exists.intro "slices.reverseRangeOrdered[int]"
      ⟨of_decide_eq_true (id ((by kernel_rfl))),
        Eq.trans Tryz.func93
          (congrArg some (by kernel_rfl))⟩,
  f15 :=
    Exists.intro "slices.partialInsertionSortOrdered[int]"
      ⟨of_decide_eq_true (id ((by kernel_rfl))),
        Eq.trans Tryz.func94
          (congrArg some (by kernel_rfl))⟩,
  f16 :=
    Exists.intro "cmp.Less[int]"
      ⟨of_decide_eq_true (id ((by kernel_rfl))),
        Eq.trans Tryz.func95
          (congrArg some (by kernel_rfl))⟩,
  f17 :=
    Exists.intro "slices.partitionEqualOrdered[int]"
      ⟨of_decide_eq_true (id ((by kernel_rfl))),
        Eq.trans Tryz.func96
          (congrArg some (by kernel_rfl))⟩,
  f18 :=
    Exists.intro "slices.partitionOrdered[int]"
      ⟨of_decide_eq_true (id ((by kernel_rfl))),
        Eq.trans Tryz.func97
          (congrArg some (by kernel_rfl))⟩,
  f19 := Eq.trans Tryz.func98 (congrArg some (by kernel_rfl)),
  f20 := Eq.trans Tryz.func99 (congrArg some (by kernel_rfl)),
  f30 :=
    Exists.intro "slices.siftDownOrdered[int]"
      ⟨of_decide_eq_true (id ((by kernel_rfl))),
        Eq.trans Tryz.func108
          (congrArg some (by kernel_rfl))⟩,
  f31 := Eq.trans Tryz.func109 (congrArg some (by kernel_rfl)),
  f32 := Eq.trans Tryz.func110 (congrArg some (by kernel_rfl)),
  f33 :=
    Exists.intro "slices.medianAdjacentOrdered[int]"
      ⟨of_decide_eq_true (id ((by kernel_rfl))),
        Eq.trans Tryz.func111
          (congrArg some (by kernel_rfl))⟩,
  f34 :=
    Exists.intro "slices.medianOrdered[int]"
      ⟨of_decide_eq_true (id ((by kernel_rfl))),
        Eq.trans Tryz.func112
          (congrArg some (by kernel_rfl))⟩,
  f35 :=
    Exists.intro "cmp.isNaN[int]"
      ⟨of_decide_eq_true (id ((by kernel_rfl))),
        Eq.trans Tryz.func113
          (congrArg some (by kernel_rfl))⟩,
  f40 :=
    Exists.intro "slices.order2Ordered[int]"
      ⟨of_decide_eq_true (id ((by kernel_rfl))),
        Eq.trans Tryz.func117
          (congrArg some (by kernel_rfl))⟩,
  t0 := Tryz.underlying0, a0 := Tryz.isAgg0, z0 := Tryz.sizeOf0, v0 := Tryz.zeroValue0, t3 := Tryz.underlying3,
  a3 := Tryz.isAgg3, z3 := Tryz.sizeOf3, v3 := Tryz.zeroValue3, t4 := Tryz.underlying4, a4 := Tryz.isAgg4,
  z4 := Tryz.sizeOf4, v4 := Tryz.zeroValue4, t5 := Tryz.underlying5, a5 := Tryz.isAgg5, z5 := Tryz.sizeOf5,
  v5 := Tryz.zeroValue5, t9 := Tryz.underlying9, a9 := Tryz.isAgg9, z9 := Tryz.sizeOf9, v9 := Tryz.zeroValue9,
  t22 := Tryz.underlying64, a22 := Tryz.isAgg64, z22 := Tryz.sizeOf64, v22 := Tryz.zeroValue64,
  t23 := Tryz.underlying64, a23 := Tryz.isAgg64, z23 := Tryz.sizeOf64, v23 := Tryz.zeroValue64, t25 := Tryz.underlying3,
  a25 := Tryz.isAgg3, z25 := Tryz.sizeOf3, v25 := Tryz.zeroValue3, t32 := Tryz.underlying140, a32 := Tryz.isAgg140,
  z32 := Tryz.sizeOf140, v32 := Tryz.zeroValue140, t35 := Tryz.underlying147, a35 := Tryz.isAgg147,
  z35 := Tryz.sizeOf147, v35 := Tryz.zeroValue147, t36 := Tryz.underlying148, a36 := Tryz.isAgg148,
  z36 := Tryz.sizeOf148, v36 := Tryz.zeroValue148, t41 := Tryz.underlying109, a41 := Tryz.isAgg109,
  z41 := Tryz.sizeOf109, v41 := Tryz.zeroValue109, t44 := Tryz.underlying154, a44 := Tryz.isAgg154,
  z44 := Tryz.sizeOf154, v44 := Tryz.zeroValue154, t46 := Tryz.underlying156, a46 := Tryz.isAgg156,
  z46 := Tryz.sizeOf156, v46 := Tryz.zeroValue156, t53 := Tryz.underlying166, a53 := Tryz.isAgg166,
  z53 := Tryz.sizeOf166, v53 := Tryz.zeroValue166, t57 := Tryz.underlying170, a57 := Tryz.isAgg170,
  z57 := Tryz.sizeOf170, v57 := Tryz.zeroValue170, t63 := Tryz.underlying174, a63 := Tryz.isAgg174,
  z63 := Tryz.sizeOf174, v63 := Tryz.zeroValue174, t64 := Tryz.underlying84, a64 := Tryz.isAgg84, z64 := Tryz.sizeOf84,
  v64 := Tryz.zeroValue84 }
end Go.Proofs

