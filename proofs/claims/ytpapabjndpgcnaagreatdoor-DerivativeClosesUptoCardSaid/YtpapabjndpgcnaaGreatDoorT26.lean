/- GCSh -/
import Derived.Shelf.Sort.Plain
import Derived.Shelf.Slices.CompactI
import Derived.Test.YtpapabjndpgcnaaGreatDoorProg
import Derived.KernelRfl
set_option linter.all false

/- The shelf laid at this program: plain. -/
namespace Go.Proofs
open Go.Shelf
set_option maxRecDepth 100000
def Tryz.laysNm189_ren : Ren :=
{
  f := fun x =>
    match x with
    | 189 => 32
    | 125 => 49
    | 257 => 48
    | 128 => 70
    | 129 => 71
    | 294 => 61
    | 295 => 62
    | 296 => 63
    | 297 => 64
    | 298 => 65
    | 299 => 66
    | 216 => 67
    | 300 => 68
    | 301 => 69
    | 328 => 83
    | 329 => 84
    | 330 => 85
    | 331 => 86
    | 332 => 87
    | 215 => 88
    | 343 => 99
    | n => n,
  t := fun x =>
    match x with
    | 28 => 37
    | 3 => 3
    | 46 => 92
    | 0 => 0
    | 51 => 111
    | 53 => 113
    | 4 => 4
    | 183 => 103
    | 182 => 102
    | 131 => 108
    | 5 => 5
    | 9 => 9
    | 218 => 121
    | 222 => 125
    | 228 => 139
    | 229 => 72
    | n => n,
  g := fun x =>
    x }
theorem Tryz.laysNm189 : Lays.n189 Tryz.prog Tryz.laysNm189_ren :=
{ mixed := (by kernel_rfl), f125 := Eq.trans Tryz.func49 (congrArg some (by kernel_rfl)),
  f128 := Eq.trans Tryz.func70 (congrArg some (by kernel_rfl)),
  f129 := Eq.trans Tryz.func71 (congrArg some (by kernel_rfl)),
  f189 := Eq.trans Tryz.func32 (congrArg some (by kernel_rfl)),
  f215 := Eq.trans Tryz.func88 (congrArg some (by kernel_rfl)),
  f216 := Eq.trans Tryz.func67 (congrArg some (by kernel_rfl)),
  f257 := Eq.trans Tryz.func48 (congrArg some (by kernel_rfl)),
  f294 := Eq.trans Tryz.func61 (congrArg some (by kernel_rfl)),
  f295 := Eq.trans Tryz.func62 (congrArg some (by kernel_rfl)),
  f296 := Eq.trans Tryz.func63 (congrArg some (by kernel_rfl)),
  f297 := Eq.trans Tryz.func64 (congrArg some (by kernel_rfl)),
  f298 := Eq.trans Tryz.func65 (congrArg some (by kernel_rfl)),
  f299 := Eq.trans Tryz.func66 (congrArg some (by kernel_rfl)),
  f300 := Eq.trans Tryz.func68 (congrArg some (by kernel_rfl)),
  f301 := Eq.trans Tryz.func69 (congrArg some (by kernel_rfl)),
  f328 := Eq.trans Tryz.func83 (congrArg some (by kernel_rfl)),
  f329 := Eq.trans Tryz.func84 (congrArg some (by kernel_rfl)),
  f330 := Eq.trans Tryz.func85 (congrArg some (by kernel_rfl)),
  f331 := Eq.trans Tryz.func86 (congrArg some (by kernel_rfl)),
  f332 := Eq.trans Tryz.func87 (congrArg some (by kernel_rfl)),
  f343 := Eq.trans Tryz.func99 (congrArg some (by kernel_rfl)), t0 := Tryz.underlying0,
  a0 := Tryz.isAgg0, z0 := Tryz.sizeOf0, v0 := Tryz.zeroValue0, t3 := Tryz.underlying3, a3 := Tryz.isAgg3,
  z3 := Tryz.sizeOf3, v3 := Tryz.zeroValue3, t4 := Tryz.underlying4, a4 := Tryz.isAgg4, z4 := Tryz.sizeOf4,
  v4 := Tryz.zeroValue4, t5 := Tryz.underlying5, a5 := Tryz.isAgg5, z5 := Tryz.sizeOf5, v5 := Tryz.zeroValue5,
  t9 := Tryz.underlying9, a9 := Tryz.isAgg9, z9 := Tryz.sizeOf9, v9 := Tryz.zeroValue9, t28 := Tryz.underlying37,
  a28 := Tryz.isAgg37, z28 := Tryz.sizeOf37, v28 := Tryz.zeroValue37, t46 := Tryz.underlying92, a46 := Tryz.isAgg92,
  z46 := Tryz.sizeOf92, v46 := Tryz.zeroValue92, t51 := Tryz.underlying111, a51 := Tryz.isAgg111, z51 := Tryz.sizeOf111,
  v51 := Tryz.zeroValue111, t53 := Tryz.underlying113, a53 := Tryz.isAgg113, z53 := Tryz.sizeOf113,
  v53 := Tryz.zeroValue113, t131 := Tryz.underlying108, a131 := Tryz.isAgg108, z131 := Tryz.sizeOf108,
  v131 := Tryz.zeroValue108, t182 := Tryz.underlying102, a182 := Tryz.isAgg102, z182 := Tryz.sizeOf102,
  v182 := Tryz.zeroValue102, t183 := Tryz.underlying103, a183 := Tryz.isAgg103, z183 := Tryz.sizeOf103,
  v183 := Tryz.zeroValue103, t218 := Tryz.underlying121, a218 := Tryz.isAgg121, z218 := Tryz.sizeOf121,
  v218 := Tryz.zeroValue121, t222 := Tryz.underlying125, a222 := Tryz.isAgg125, z222 := Tryz.sizeOf125,
  v222 := Tryz.zeroValue125, t228 := Tryz.underlying139, a228 := Tryz.isAgg139, z228 := Tryz.sizeOf139,
  v228 := Tryz.zeroValue139, t229 := Tryz.underlying72, a229 := Tryz.isAgg72, z229 := Tryz.sizeOf72,
  v229 := Tryz.zeroValue72 }
def Tryz.laysNm220_ren : Ren :=
{
  f := fun x =>
    match x with
    | 20 => 33
    | n => n,
  t := fun x =>
    match x with
    | 22 => 37
    | 3 => 3
    | 4 => 4
    | 0 => 0
    | n => n,
  g := fun x =>
    x }
theorem Tryz.laysNm220 : Lays2.n20 Tryz.prog Tryz.laysNm220_ren :=
{ mixed := (by kernel_rfl), f20 := Eq.trans Tryz.func33 (congrArg some (by kernel_rfl)),
  t0 := Tryz.underlying0, a0 := Tryz.isAgg0, z0 := Tryz.sizeOf0, v0 := Tryz.zeroValue0, t3 := Tryz.underlying3,
  a3 := Tryz.isAgg3, z3 := Tryz.sizeOf3, v3 := Tryz.zeroValue3, t4 := Tryz.underlying4, a4 := Tryz.isAgg4,
  z4 := Tryz.sizeOf4, v4 := Tryz.zeroValue4, t22 := Tryz.underlying37, a22 := Tryz.isAgg37, z22 := Tryz.sizeOf37,
  v22 := Tryz.zeroValue37, i3 := Eq.refl (some (some (Value.int IntKind.i64 0), 1, 8)) }
end Go.Proofs

