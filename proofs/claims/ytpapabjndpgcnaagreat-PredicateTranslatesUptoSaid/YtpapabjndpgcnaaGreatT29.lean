/- GPSh -/
import Derived.Shelf.Sort.Plain
import Derived.Shelf.Slices.CompactI
import Derived.Test.YtpapabjndpgcnaaGreatProg
import Derived.KernelRfl
set_option linter.all false

/- The shelf laid at this program: plain. -/
namespace Go.Proofs
open Go.Shelf
set_option maxRecDepth 100000
def Tryz.laysNm189_ren : Ren :=
{
  f := fun x =>
    match x with
    | 189 => 104
    | 125 => 142
    | 257 => 141
    | 128 => 188
    | 129 => 189
    | 294 => 179
    | 295 => 180
    | 296 => 181
    | 297 => 182
    | 298 => 183
    | 299 => 184
    | 216 => 185
    | 300 => 186
    | 301 => 187
    | 328 => 210
    | 329 => 211
    | 330 => 212
    | 331 => 213
    | 332 => 214
    | 215 => 215
    | 343 => 220
    | n => n,
  t := fun x =>
    match x with
    | 28 => 108
    | 3 => 3
    | 46 => 176
    | 0 => 0
    | 51 => 208
    | 53 => 211
    | 4 => 4
    | 183 => 226
    | 182 => 225
    | 131 => 111
    | 5 => 5
    | 9 => 9
    | 218 => 245
    | 222 => 249
    | 228 => 253
    | 229 => 148
    | n => n,
  g := fun x =>
    x }
theorem Tryz.laysNm189 : Lays.n189 Tryz.prog Tryz.laysNm189_ren :=
{ mixed := (by kernel_rfl), f125 := Eq.trans Tryz.func142 (congrArg some (by kernel_rfl)),
  f128 := Eq.trans Tryz.func188 (congrArg some (by kernel_rfl)),
  f129 := Eq.trans Tryz.func189 (congrArg some (by kernel_rfl)),
  f189 := Eq.trans Tryz.func104 (congrArg some (by kernel_rfl)),
  f215 := Eq.trans Tryz.func215 (congrArg some (by kernel_rfl)),
  f216 := Eq.trans Tryz.func185 (congrArg some (by kernel_rfl)),
  f257 := Eq.trans Tryz.func141 (congrArg some (by kernel_rfl)),
  f294 := Eq.trans Tryz.func179 (congrArg some (by kernel_rfl)),
  f295 := Eq.trans Tryz.func180 (congrArg some (by kernel_rfl)),
  f296 := Eq.trans Tryz.func181 (congrArg some (by kernel_rfl)),
  f297 := Eq.trans Tryz.func182 (congrArg some (by kernel_rfl)),
  f298 := Eq.trans Tryz.func183 (congrArg some (by kernel_rfl)),
  f299 := Eq.trans Tryz.func184 (congrArg some (by kernel_rfl)),
  f300 := Eq.trans Tryz.func186 (congrArg some (by kernel_rfl)),
  f301 := Eq.trans Tryz.func187 (congrArg some (by kernel_rfl)),
  f328 := Eq.trans Tryz.func210 (congrArg some (by kernel_rfl)),
  f329 := Eq.trans Tryz.func211 (congrArg some (by kernel_rfl)),
  f330 := Eq.trans Tryz.func212 (congrArg some (by kernel_rfl)),
  f331 := Eq.trans Tryz.func213 (congrArg some (by kernel_rfl)),
  f332 := Eq.trans Tryz.func214 (congrArg some (by kernel_rfl)),
  f343 := Eq.trans Tryz.func220 (congrArg some (by kernel_rfl)), t0 := Tryz.underlying0,
  a0 := Tryz.isAgg0, z0 := Tryz.sizeOf0, v0 := Tryz.zeroValue0, t3 := Tryz.underlying3, a3 := Tryz.isAgg3,
  z3 := Tryz.sizeOf3, v3 := Tryz.zeroValue3, t4 := Tryz.underlying4, a4 := Tryz.isAgg4, z4 := Tryz.sizeOf4,
  v4 := Tryz.zeroValue4, t5 := Tryz.underlying5, a5 := Tryz.isAgg5, z5 := Tryz.sizeOf5, v5 := Tryz.zeroValue5,
  t9 := Tryz.underlying9, a9 := Tryz.isAgg9, z9 := Tryz.sizeOf9, v9 := Tryz.zeroValue9, t28 := Tryz.underlying108,
  a28 := Tryz.isAgg108, z28 := Tryz.sizeOf108, v28 := Tryz.zeroValue108, t46 := Tryz.underlying176,
  a46 := Tryz.isAgg176, z46 := Tryz.sizeOf176, v46 := Tryz.zeroValue176, t51 := Tryz.underlying208,
  a51 := Tryz.isAgg208, z51 := Tryz.sizeOf208, v51 := Tryz.zeroValue208, t53 := Tryz.underlying211,
  a53 := Tryz.isAgg211, z53 := Tryz.sizeOf211, v53 := Tryz.zeroValue211, t131 := Tryz.underlying111,
  a131 := Tryz.isAgg111, z131 := Tryz.sizeOf111, v131 := Tryz.zeroValue111, t182 := Tryz.underlying225,
  a182 := Tryz.isAgg225, z182 := Tryz.sizeOf225, v182 := Tryz.zeroValue225, t183 := Tryz.underlying226,
  a183 := Tryz.isAgg226, z183 := Tryz.sizeOf226, v183 := Tryz.zeroValue226, t218 := Tryz.underlying245,
  a218 := Tryz.isAgg245, z218 := Tryz.sizeOf245, v218 := Tryz.zeroValue245, t222 := Tryz.underlying249,
  a222 := Tryz.isAgg249, z222 := Tryz.sizeOf249, v222 := Tryz.zeroValue249, t228 := Tryz.underlying253,
  a228 := Tryz.isAgg253, z228 := Tryz.sizeOf253, v228 := Tryz.zeroValue253, t229 := Tryz.underlying148,
  a229 := Tryz.isAgg148, z229 := Tryz.sizeOf148, v229 := Tryz.zeroValue148 }
def Tryz.laysNm220_ren : Ren :=
{
  f := fun x =>
    match x with
    | 20 => 105
    | n => n,
  t := fun x =>
    match x with
    | 22 => 108
    | 3 => 3
    | 4 => 4
    | 0 => 0
    | n => n,
  g := fun x =>
    x }
theorem Tryz.laysNm220 : Lays2.n20 Tryz.prog Tryz.laysNm220_ren :=
{ mixed := (by kernel_rfl), f20 := Eq.trans Tryz.func105 (congrArg some (by kernel_rfl)),
  t0 := Tryz.underlying0, a0 := Tryz.isAgg0, z0 := Tryz.sizeOf0, v0 := Tryz.zeroValue0, t3 := Tryz.underlying3,
  a3 := Tryz.isAgg3, z3 := Tryz.sizeOf3, v3 := Tryz.zeroValue3, t4 := Tryz.underlying4, a4 := Tryz.isAgg4,
  z4 := Tryz.sizeOf4, v4 := Tryz.zeroValue4, t22 := Tryz.underlying108, a22 := Tryz.isAgg108, z22 := Tryz.sizeOf108,
  v22 := Tryz.zeroValue108, i3 := Eq.refl (some (some (Value.int IntKind.i64 0), 1, 8)) }
end Go.Proofs

