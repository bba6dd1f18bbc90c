/- GNSh -/
import Derived.Shelf.Sort.Plain
import Derived.Shelf.Slices.CompactI
import Derived.Test.YtfeppncgdbbbeaaGreatDoorProg
import Derived.KernelRfl
set_option linter.all false

/- The shelf laid at this program: plain. -/
namespace Go.Proofs
open Go.Shelf
set_option maxRecDepth 100000
def Tryz.laysNm189_ren : Ren :=
{
  f := fun x =>
    match x with
    | 189 => 17
    | 125 => 37
    | 257 => 36
    | 128 => 60
    | 129 => 61
    | 294 => 51
    | 295 => 52
    | 296 => 53
    | 297 => 54
    | 298 => 55
    | 299 => 56
    | 216 => 57
    | 300 => 58
    | 301 => 59
    | 328 => 76
    | 329 => 77
    | 330 => 78
    | 331 => 79
    | 332 => 80
    | 215 => 81
    | 343 => 93
    | n => n,
  t := fun x =>
    match x with
    | 28 => 36
    | 3 => 3
    | 46 => 76
    | 0 => 0
    | 51 => 107
    | 53 => 109
    | 4 => 4
    | 183 => 99
    | 182 => 98
    | 131 => 104
    | 5 => 5
    | 9 => 9
    | 218 => 120
    | 222 => 124
    | 228 => 134
    | 229 => 95
    | n => n,
  g := fun x =>
    x }
theorem Tryz.laysNm189 : Lays.n189 Tryz.prog Tryz.laysNm189_ren :=
{ mixed := (by kernel_rfl), f125 := Eq.trans Tryz.func37 (congrArg some (by kernel_rfl)),
  f128 := Eq.trans Tryz.func60 (congrArg some (by kernel_rfl)),
  f129 := Eq.trans Tryz.func61 (congrArg some (by kernel_rfl)),
  f189 := Eq.trans Tryz.func17 (congrArg some (by kernel_rfl)),
  f215 := Eq.trans Tryz.func81 (congrArg some (by kernel_rfl)),
  f216 := Eq.trans Tryz.func57 (congrArg some (by kernel_rfl)),
  f257 := Eq.trans Tryz.func36 (congrArg some (by kernel_rfl)),
  f294 := Eq.trans Tryz.func51 (congrArg some (by kernel_rfl)),
  f295 := Eq.trans Tryz.func52 (congrArg some (by kernel_rfl)),
  f296 := Eq.trans Tryz.func53 (congrArg some (by kernel_rfl)),
  f297 := Eq.trans Tryz.func54 (congrArg some (by kernel_rfl)),
  f298 := Eq.trans Tryz.func55 (congrArg some (by kernel_rfl)),
  f299 := Eq.trans Tryz.func56 (congrArg some (by kernel_rfl)),
  f300 := Eq.trans Tryz.func58 (congrArg some (by kernel_rfl)),
  f301 := Eq.trans Tryz.func59 (congrArg some (by kernel_rfl)),
  f328 := Eq.trans Tryz.func76 (congrArg some (by kernel_rfl)),
  f329 := Eq.trans Tryz.func77 (congrArg some (by kernel_rfl)),
  f330 := Eq.trans Tryz.func78 (congrArg some (by kernel_rfl)),
  f331 := Eq.trans Tryz.func79 (congrArg some (by kernel_rfl)),
  f332 := Eq.trans Tryz.func80 (congrArg some (by kernel_rfl)),
  f343 := Eq.trans Tryz.func93 (congrArg some (by kernel_rfl)), t0 := Tryz.underlying0,
  a0 := Tryz.isAgg0, z0 := Tryz.sizeOf0, v0 := Tryz.zeroValue0, t3 := Tryz.underlying3, a3 := Tryz.isAgg3,
  z3 := Tryz.sizeOf3, v3 := Tryz.zeroValue3, t4 := Tryz.underlying4, a4 := Tryz.isAgg4, z4 := Tryz.sizeOf4,
  v4 := Tryz.zeroValue4, t5 := Tryz.underlying5, a5 := Tryz.isAgg5, z5 := Tryz.sizeOf5, v5 := Tryz.zeroValue5,
  t9 := Tryz.underlying9, a9 := Tryz.isAgg9, z9 := Tryz.sizeOf9, v9 := Tryz.zeroValue9, t28 := Tryz.underlying36,
  a28 := Tryz.isAgg36, z28 := Tryz.sizeOf36, v28 := Tryz.zeroValue36, t46 := Tryz.underlying76, a46 := Tryz.isAgg76,
  z46 := Tryz.sizeOf76, v46 := Tryz.zeroValue76, t51 := Tryz.underlying107, a51 := Tryz.isAgg107, z51 := Tryz.sizeOf107,
  v51 := Tryz.zeroValue107, t53 := Tryz.underlying109, a53 := Tryz.isAgg109, z53 := Tryz.sizeOf109,
  v53 := Tryz.zeroValue109, t131 := Tryz.underlying104, a131 := Tryz.isAgg104, z131 := Tryz.sizeOf104,
  v131 := Tryz.zeroValue104, t182 := Tryz.underlying98, a182 := Tryz.isAgg98, z182 := Tryz.sizeOf98,
  v182 := Tryz.zeroValue98, t183 := Tryz.underlying99, a183 := Tryz.isAgg99, z183 := Tryz.sizeOf99,
  v183 := Tryz.zeroValue99, t218 := Tryz.underlying120, a218 := Tryz.isAgg120, z218 := Tryz.sizeOf120,
  v218 := Tryz.zeroValue120, t222 := Tryz.underlying124, a222 := Tryz.isAgg124, z222 := Tryz.sizeOf124,
  v222 := Tryz.zeroValue124, t228 := Tryz.underlying134, a228 := Tryz.isAgg134, z228 := Tryz.sizeOf134,
  v228 := Tryz.zeroValue134, t229 := Tryz.underlying95, a229 := Tryz.isAgg95, z229 := Tryz.sizeOf95,
  v229 := Tryz.zeroValue95 }
end Go.Proofs

