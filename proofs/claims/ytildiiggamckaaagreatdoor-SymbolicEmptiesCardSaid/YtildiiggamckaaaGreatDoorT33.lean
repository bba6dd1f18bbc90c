/- GYSh -/
import Derived.Shelf.Sort.Plain
import Derived.Shelf.Slices.CompactI
import Derived.Test.YtildiiggamckaaaGreatDoorProg
import Derived.KernelRfl
set_option linter.all false
/- The shelf laid at this program: plain. -/
namespace Go.Proofs
open Go.Shelf
set_option maxRecDepth 100000
def Tryz.laysNm189_ren : Ren :=
{
  f := fun x =>
    match x with
    | 189 => 241
    | 125 => 272
    | 257 => 271
    | 128 => 296
    | 129 => 297
    | 294 => 287
    | 295 => 288
    | 296 => 289
    | 297 => 290
    | 298 => 291
    | 299 => 292
    | 216 => 293
    | 300 => 294
    | 301 => 295
    | 328 => 305
    | 329 => 306
    | 330 => 307
    | 331 => 308
    | 332 => 309
    | 215 => 310
    | 343 => 315
    | n => n,
  t := fun x =>
    match x with
    | 28 => 104
    | 3 => 3
    | 46 => 218
    | 0 => 0
    | 51 => 257
    | 53 => 260
    | 4 => 4
    | 183 => 341
    | 182 => 340
    | 131 => 117
    | 5 => 5
    | 9 => 9
    | 218 => 357
    | 222 => 361
    | 228 => 368
    | 229 => 175
    | n => n,
  g := fun x =>
    x }
theorem Tryz.laysNm189 : Lays.n189 Tryz.prog Tryz.laysNm189_ren :=
{ mixed := (by kernel_rfl), f125 := Eq.trans Tryz.func272 (congrArg some (by kernel_rfl)),
  f128 := Eq.trans Tryz.func296 (congrArg some (by kernel_rfl)),
  f129 := Eq.trans Tryz.func297 (congrArg some (by kernel_rfl)),
  f189 := Eq.trans Tryz.func241 (congrArg some (by kernel_rfl)),
  f215 := Eq.trans Tryz.func310 (congrArg some (by kernel_rfl)),
  f216 := Eq.trans Tryz.func293 (congrArg some (by kernel_rfl)),
  f257 := Eq.trans Tryz.func271 (congrArg some (by kernel_rfl)),
  f294 := Eq.trans Tryz.func287 (congrArg some (by kernel_rfl)),
  f295 := Eq.trans Tryz.func288 (congrArg some (by kernel_rfl)),
  f296 := Eq.trans Tryz.func289 (congrArg some (by kernel_rfl)),
  f297 := Eq.trans Tryz.func290 (congrArg some (by kernel_rfl)),
  f298 := Eq.trans Tryz.func291 (congrArg some (by kernel_rfl)),
  f299 := Eq.trans Tryz.func292 (congrArg some (by kernel_rfl)),
  f300 := Eq.trans Tryz.func294 (congrArg some (by kernel_rfl)),
  f301 := Eq.trans Tryz.func295 (congrArg some (by kernel_rfl)),
  f328 := Eq.trans Tryz.func305 (congrArg some (by kernel_rfl)),
  f329 := Eq.trans Tryz.func306 (congrArg some (by kernel_rfl)),
  f330 := Eq.trans Tryz.func307 (congrArg some (by kernel_rfl)),
  f331 := Eq.trans Tryz.func308 (congrArg some (by kernel_rfl)),
  f332 := Eq.trans Tryz.func309 (congrArg some (by kernel_rfl)),
  f343 := Eq.trans Tryz.func315 (congrArg some (by kernel_rfl)), t0 := Tryz.underlying0,
  a0 := Tryz.isAgg0, z0 := Tryz.sizeOf0, v0 := Tryz.zeroValue0, t3 := Tryz.underlying3, a3 := Tryz.isAgg3,
  z3 := Tryz.sizeOf3, v3 := Tryz.zeroValue3, t4 := Tryz.underlying4, a4 := Tryz.isAgg4, z4 := Tryz.sizeOf4,
  v4 := Tryz.zeroValue4, t5 := Tryz.underlying5, a5 := Tryz.isAgg5, z5 := Tryz.sizeOf5, v5 := Tryz.zeroValue5,
  t9 := Tryz.underlying9, a9 := Tryz.isAgg9, z9 := Tryz.sizeOf9, v9 := Tryz.zeroValue9, t28 := Tryz.underlying104,
  a28 := Tryz.isAgg104, z28 := Tryz.sizeOf104, v28 := Tryz.zeroValue104, t46 := Tryz.underlying218,
  a46 := Tryz.isAgg218, z46 := Tryz.sizeOf218, v46 := Tryz.zeroValue218, t51 := Tryz.underlying257,
  a51 := Tryz.isAgg257, z51 := Tryz.sizeOf257, v51 := Tryz.zeroValue257, t53 := Tryz.underlying260,
  a53 := Tryz.isAgg260, z53 := Tryz.sizeOf260, v53 := Tryz.zeroValue260, t131 := Tryz.underlying117,
  a131 := Tryz.isAgg117, z131 := Tryz.sizeOf117, v131 := Tryz.zeroValue117, t182 := Tryz.underlying340,
  a182 := Tryz.isAgg340, z182 := Tryz.sizeOf340, v182 := Tryz.zeroValue340, t183 := Tryz.underlying341,
  a183 := Tryz.isAgg341, z183 := Tryz.sizeOf341, v183 := Tryz.zeroValue341, t218 := Tryz.underlying357,
  a218 := Tryz.isAgg357, z218 := Tryz.sizeOf357, v218 := Tryz.zeroValue357, t222 := Tryz.underlying361,
  a222 := Tryz.isAgg361, z222 := Tryz.sizeOf361, v222 := Tryz.zeroValue361, t228 := Tryz.underlying368,
  a228 := Tryz.isAgg368, z228 := Tryz.sizeOf368, v228 := Tryz.zeroValue368, t229 := Tryz.underlying175,
  a229 := Tryz.isAgg175, z229 := Tryz.sizeOf175, v229 := Tryz.zeroValue175 }
def Tryz.laysNm220_ren : Ren :=
{
  f := fun x =>
    match x with
    | 20 => 242
    | n => n,
  t := fun x =>
    match x with
    | 22 => 104
    | 3 => 3
    | 4 => 4
    | 0 => 0
    | n => n,
  g := fun x =>
    x }
theorem Tryz.laysNm220 : Lays2.n20 Tryz.prog Tryz.laysNm220_ren :=
{ mixed := (by kernel_rfl), f20 := Eq.trans Tryz.func242 (congrArg some (by kernel_rfl)),
  t0 := Tryz.underlying0, a0 := Tryz.isAgg0, z0 := Tryz.sizeOf0, v0 := Tryz.zeroValue0, t3 := Tryz.underlying3,
  a3 := Tryz.isAgg3, z3 := Tryz.sizeOf3, v3 := Tryz.zeroValue3, t4 := Tryz.underlying4, a4 := Tryz.isAgg4,
  z4 := Tryz.sizeOf4, v4 := Tryz.zeroValue4, t22 := Tryz.underlying104, a22 := Tryz.isAgg104, z22 := Tryz.sizeOf104,
  v22 := Tryz.zeroValue104, i3 := Eq.refl (some (some (Value.int IntKind.i64 0), 1, 8)) }
end Go.Proofs
