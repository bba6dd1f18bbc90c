/- GQSh -/
import Derived.Shelf.Sort.Plain
import Derived.Shelf.Slices.CompactI
import Derived.Test.YtodfgmbacmnalaaGreatProg
import Derived.KernelRfl
set_option linter.all false

/- The shelf laid at this program: plain. -/
namespace Go.Proofs
open Go.Shelf
set_option maxRecDepth 100000
def Tryz.laysNm189_ren : Ren :=
{
  f := fun x =>
    match x with
    | 189 => 76
    | 125 => 120
    | 257 => 119
    | 128 => 152
    | 129 => 153
    | 294 => 143
    | 295 => 144
    | 296 => 145
    | 297 => 146
    | 298 => 147
    | 299 => 148
    | 216 => 149
    | 300 => 150
    | 301 => 151
    | 328 => 159
    | 329 => 160
    | 330 => 161
    | 331 => 162
    | 332 => 163
    | 215 => 164
    | 343 => 173
    | n => n,
  t := fun x =>
    match x with
    | 28 => 103
    | 3 => 3
    | 46 => 117
    | 0 => 0
    | 51 => 151
    | 53 => 154
    | 4 => 4
    | 183 => 192
    | 182 => 191
    | 131 => 106
    | 5 => 5
    | 9 => 9
    | 218 => 203
    | 222 => 207
    | 228 => 219
    | 229 => 87
    | n => n,
  g := fun x =>
    x }
theorem Tryz.laysNm189 : Lays.n189 Tryz.prog Tryz.laysNm189_ren :=
{ mixed := (by kernel_rfl), f125 := Eq.trans Tryz.func120 (congrArg some (by kernel_rfl)),
  f128 := Eq.trans Tryz.func152 (congrArg some (by kernel_rfl)),
  f129 := Eq.trans Tryz.func153 (congrArg some (by kernel_rfl)),
  f189 := Eq.trans Tryz.func76 (congrArg some (by kernel_rfl)),
  f215 := Eq.trans Tryz.func164 (congrArg some (by kernel_rfl)),
  f216 := Eq.trans Tryz.func149 (congrArg some (by kernel_rfl)),
  f257 := Eq.trans Tryz.func119 (congrArg some (by kernel_rfl)),
  f294 := Eq.trans Tryz.func143 (congrArg some (by kernel_rfl)),
  f295 := Eq.trans Tryz.func144 (congrArg some (by kernel_rfl)),
  f296 := Eq.trans Tryz.func145 (congrArg some (by kernel_rfl)),
  f297 := Eq.trans Tryz.func146 (congrArg some (by kernel_rfl)),
  f298 := Eq.trans Tryz.func147 (congrArg some (by kernel_rfl)),
  f299 := Eq.trans Tryz.func148 (congrArg some (by kernel_rfl)),
  f300 := Eq.trans Tryz.func150 (congrArg some (by kernel_rfl)),
  f301 := Eq.trans Tryz.func151 (congrArg some (by kernel_rfl)),
  f328 := Eq.trans Tryz.func159 (congrArg some (by kernel_rfl)),
  f329 := Eq.trans Tryz.func160 (congrArg some (by kernel_rfl)),
  f330 := Eq.trans Tryz.func161 (congrArg some (by kernel_rfl)),
  f331 := Eq.trans Tryz.func162 (congrArg some (by kernel_rfl)),
  f332 := Eq.trans Tryz.func163 (congrArg some (by kernel_rfl)),
  f343 := Eq.trans Tryz.func173 (congrArg some (by kernel_rfl)), t0 := Tryz.underlying0,
  a0 := Tryz.isAgg0, z0 := Tryz.sizeOf0, v0 := Tryz.zeroValue0, t3 := Tryz.underlying3, a3 := Tryz.isAgg3,
  z3 := Tryz.sizeOf3, v3 := Tryz.zeroValue3, t4 := Tryz.underlying4, a4 := Tryz.isAgg4, z4 := Tryz.sizeOf4,
  v4 := Tryz.zeroValue4, t5 := Tryz.underlying5, a5 := Tryz.isAgg5, z5 := Tryz.sizeOf5, v5 := Tryz.zeroValue5,
  t9 := Tryz.underlying9, a9 := Tryz.isAgg9, z9 := Tryz.sizeOf9, v9 := Tryz.zeroValue9, t28 := Tryz.underlying103,
  a28 := Tryz.isAgg103, z28 := Tryz.sizeOf103, v28 := Tryz.zeroValue103, t46 := Tryz.underlying117,
  a46 := Tryz.isAgg117, z46 := Tryz.sizeOf117, v46 := Tryz.zeroValue117, t51 := Tryz.underlying151,
  a51 := Tryz.isAgg151, z51 := Tryz.sizeOf151, v51 := Tryz.zeroValue151, t53 := Tryz.underlying154,
  a53 := Tryz.isAgg154, z53 := Tryz.sizeOf154, v53 := Tryz.zeroValue154, t131 := Tryz.underlying106,
  a131 := Tryz.isAgg106, z131 := Tryz.sizeOf106, v131 := Tryz.zeroValue106, t182 := Tryz.underlying191,
  a182 := Tryz.isAgg191, z182 := Tryz.sizeOf191, v182 := Tryz.zeroValue191, t183 := Tryz.underlying192,
  a183 := Tryz.isAgg192, z183 := Tryz.sizeOf192, v183 := Tryz.zeroValue192, t218 := Tryz.underlying203,
  a218 := Tryz.isAgg203, z218 := Tryz.sizeOf203, v218 := Tryz.zeroValue203, t222 := Tryz.underlying207,
  a222 := Tryz.isAgg207, z222 := Tryz.sizeOf207, v222 := Tryz.zeroValue207, t228 := Tryz.underlying219,
  a228 := Tryz.isAgg219, z228 := Tryz.sizeOf219, v228 := Tryz.zeroValue219, t229 := Tryz.underlying87,
  a229 := Tryz.isAgg87, z229 := Tryz.sizeOf87, v229 := Tryz.zeroValue87 }
def Tryz.laysNm220_ren : Ren :=
{
  f := fun x =>
    match x with
    | 20 => 77
    | n => n,
  t := fun x =>
    match x with
    | 22 => 103
    | 3 => 3
    | 4 => 4
    | 0 => 0
    | n => n,
  g := fun x =>
    x }
theorem Tryz.laysNm220 : Lays2.n20 Tryz.prog Tryz.laysNm220_ren :=
{ mixed := (by kernel_rfl), f20 := Eq.trans Tryz.func77 (congrArg some (by kernel_rfl)),
  t0 := Tryz.underlying0, a0 := Tryz.isAgg0, z0 := Tryz.sizeOf0, v0 := Tryz.zeroValue0, t3 := Tryz.underlying3,
  a3 := Tryz.isAgg3, z3 := Tryz.sizeOf3, v3 := Tryz.zeroValue3, t4 := Tryz.underlying4, a4 := Tryz.isAgg4,
  z4 := Tryz.sizeOf4, v4 := Tryz.zeroValue4, t22 := Tryz.underlying103, a22 := Tryz.isAgg103, z22 := Tryz.sizeOf103,
  v22 := Tryz.zeroValue103, i3 := Eq.refl (some (some (Value.int IntKind.i64 0), 1, 8)) }
end Go.Proofs

