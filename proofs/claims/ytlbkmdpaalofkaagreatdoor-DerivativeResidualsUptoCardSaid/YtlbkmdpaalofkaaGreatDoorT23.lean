/- ZTypes GZTy GZEn -/
import Derived.Test.YtlbkmdpaalofkaaGreatDoorT18
import Derived.KernelRfl
import Derived.Test.YtlbkmdpaalofkaaGreatDoorChecked
import Derived.Test.YtlbkmdpaalofkaaGreatDoorT19
import Derived.Test.YtlbkmdpaalofkaaGreatDoorT22
set_option linter.all false

namespace Go.Ab
open Go.RowKit Go.Proofs
set_option maxRecDepth 100000
def ti3 : TInf := ⟨1, 8, false, none, none, [], none, some (.int .i64 0), some [0], false, false, some .i64, true⟩
theorem tiOk3 : TOk1 Tryz.prog 3 ti3 := ⟨by kernel_rfl, by kernel_rfl, by kernel_rfl, by kernel_rfl, by kernel_rfl, trivial, trivial, (by show zeO Tryz.prog 3 = some _; kernel_rfl), (by show flatEq Tryz.prog 9 3 = some _; kernel_rfl), by kernel_rfl, (fun h => (by cases h)), (by show Tryz.prog.underlying 3 = some (.int _); kernel_rfl), (fun _ => (by kernel_rfl))⟩
def ti4 : TInf := ⟨1, 1, false, none, none, [], none, some (.bool false), some [1], false, true, none, true⟩
theorem tiOk4 : TOk1 Tryz.prog 4 ti4 := ⟨by kernel_rfl, by kernel_rfl, by kernel_rfl, by kernel_rfl, by kernel_rfl, trivial, trivial, (by show zeO Tryz.prog 4 = some _; kernel_rfl), (by show flatEq Tryz.prog 9 4 = some _; kernel_rfl), by kernel_rfl, (fun _ => (by kernel_rfl)), trivial, (fun _ => (by kernel_rfl))⟩
def ti5 : TInf := ⟨1, 1, false, none, none, [], none, some (.int .u8 0), some [0], false, false, some .u8, true⟩
theorem tiOk5 : TOk1 Tryz.prog 5 ti5 := ⟨by kernel_rfl, by kernel_rfl, by kernel_rfl, by kernel_rfl, by kernel_rfl, trivial, trivial, (by show zeO Tryz.prog 5 = some _; kernel_rfl), (by show flatEq Tryz.prog 9 5 = some _; kernel_rfl), by kernel_rfl, (fun h => (by cases h)), (by show Tryz.prog.underlying 5 = some (.int _); kernel_rfl), (fun _ => (by kernel_rfl))⟩
def ti9 : TInf := ⟨1, 16, false, none, none, [], none, some (.str ⟨#[]⟩), some [2], true, false, none, true⟩
theorem tiOk9 : TOk1 Tryz.prog 9 ti9 := ⟨by kernel_rfl, by kernel_rfl, by kernel_rfl, by kernel_rfl, by kernel_rfl, trivial, trivial, (by show zeO Tryz.prog 9 = some _; kernel_rfl), (by show flatEq Tryz.prog 9 9 = some _; kernel_rfl), by kernel_rfl, (fun h => (by cases h)), trivial, (fun _ => (by kernel_rfl))⟩
def ti22 : TInf := ⟨1, 24, false, some (29), none, [], none, some (.sl [] .nil), none, false, false, none, true⟩
theorem tiOk22 : TOk1 Tryz.prog 22 ti22 := ⟨by kernel_rfl, by kernel_rfl, by kernel_rfl, by kernel_rfl, by kernel_rfl, trivial, trivial, (by show zeO Tryz.prog 22 = some _; kernel_rfl), trivial, by kernel_rfl, (fun h => (by cases h)), trivial, (fun _ => (by kernel_rfl))⟩
def ti23 : TInf := ⟨1, 24, false, some (27), none, [], none, some (.sl [] .nil), none, false, false, none, true⟩
theorem tiOk23 : TOk1 Tryz.prog 23 ti23 := ⟨by kernel_rfl, by kernel_rfl, by kernel_rfl, by kernel_rfl, by kernel_rfl, trivial, trivial, (by show zeO Tryz.prog 23 = some _; kernel_rfl), trivial, by kernel_rfl, (fun h => (by cases h)), trivial, (fun _ => (by kernel_rfl))⟩
def ti25 : TInf := ⟨3, 32, true, none, none, [some (0, 3), some (1, 3), some (2, 9)], some [(0, 1), (1, 1), (2, 1)], some (.agg [.int .i64 0, .int .i64 0, .str ⟨#[]⟩]), some [0, 0, 2], false, false, none, true⟩
theorem tiOk25 : TOk1 Tryz.prog 25 ti25 := ⟨by kernel_rfl, by kernel_rfl, by kernel_rfl, by kernel_rfl, by kernel_rfl, ⟨by kernel_rfl, by kernel_rfl, by kernel_rfl, trivial⟩, (by show placesO Tryz.prog 25 = some _; kernel_rfl), (by show zeO Tryz.prog 25 = some _; kernel_rfl), (by show flatEq Tryz.prog 9 25 = some _; kernel_rfl), by kernel_rfl, (fun h => (by cases h)), trivial, (fun _ => (by kernel_rfl))⟩
def ti27 : TInf := ⟨8, 88, true, none, none, [some (0, 3), some (1, 23), some (2, 3), some (3, 3), some (4, 3), some (5, 25)], some [(0, 1), (1, 1), (2, 1), (3, 1), (4, 1), (5, 3)], some (.agg [.int .i64 0, .sl [] .nil, .int .i64 0, .int .i64 0, .int .i64 0, .int .i64 0, .int .i64 0, .str ⟨#[]⟩]), none, false, false, none, true⟩
theorem tiOk27 : TOk1 Tryz.prog 27 ti27 := ⟨by kernel_rfl, by kernel_rfl, by kernel_rfl, by kernel_rfl, by kernel_rfl, ⟨by kernel_rfl, by kernel_rfl, by kernel_rfl, by kernel_rfl, by kernel_rfl, by kernel_rfl, trivial⟩, (by show placesO Tryz.prog 27 = some _; kernel_rfl), (by show zeO Tryz.prog 27 = some _; kernel_rfl), trivial, by kernel_rfl, (fun h => (by cases h)), trivial, (fun _ => (by kernel_rfl))⟩
def ti29 : TInf := ⟨14, 152, true, none, none, [some (0, 3), some (1, 22), some (2, 3), some (3, 3), some (4, 3), some (5, 3), some (6, 27)], some [(0, 1), (1, 1), (2, 1), (3, 1), (4, 1), (5, 1), (6, 8)], some (.agg [.int .i64 0, .sl [] .nil, .int .i64 0, .int .i64 0, .int .i64 0, .int .i64 0, .int .i64 0, .sl [] .nil, .int .i64 0, .int .i64 0, .int .i64 0, .int .i64 0, .int .i64 0, .str ⟨#[]⟩]), none, false, false, none, true⟩
theorem tiOk29 : TOk1 Tryz.prog 29 ti29 := ⟨by kernel_rfl, by kernel_rfl, by kernel_rfl, by kernel_rfl, by kernel_rfl, ⟨by kernel_rfl, by kernel_rfl, by kernel_rfl, by kernel_rfl, by kernel_rfl, by kernel_rfl, by kernel_rfl, trivial⟩, (by show placesO Tryz.prog 29 = some _; kernel_rfl), (by show zeO Tryz.prog 29 = some _; kernel_rfl), trivial, by kernel_rfl, (fun h => (by cases h)), trivial, (fun _ => (by kernel_rfl))⟩
def ti33 : TInf := ⟨1, 24, false, some (58), none, [], none, some (.sl [] .nil), none, false, false, none, true⟩
theorem tiOk33 : TOk1 Tryz.prog 33 ti33 := ⟨by kernel_rfl, by kernel_rfl, by kernel_rfl, by kernel_rfl, by kernel_rfl, trivial, trivial, (by show zeO Tryz.prog 33 = some _; kernel_rfl), trivial, by kernel_rfl, (fun h => (by cases h)), trivial, (fun _ => (by kernel_rfl))⟩
def ti34 : TInf := ⟨1, 8, false, none, none, [], none, some (.int .i64 0), some [0], false, false, some .i64, true⟩
theorem tiOk34 : TOk1 Tryz.prog 34 ti34 := ⟨by kernel_rfl, by kernel_rfl, by kernel_rfl, by kernel_rfl, by kernel_rfl, trivial, trivial, (by show zeO Tryz.prog 34 = some _; kernel_rfl), (by show flatEq Tryz.prog 9 34 = some _; kernel_rfl), by kernel_rfl, (fun h => (by cases h)), (by show Tryz.prog.underlying 34 = some (.int _); kernel_rfl), (fun _ => (by kernel_rfl))⟩
def ti46 : TInf := ⟨1, 24, false, some (3), none, [], none, some (.sl [] .nil), none, false, false, none, true⟩
theorem tiOk46 : TOk1 Tryz.prog 46 ti46 := ⟨by kernel_rfl, by kernel_rfl, by kernel_rfl, by kernel_rfl, by kernel_rfl, trivial, trivial, (by show zeO Tryz.prog 46 = some _; kernel_rfl), trivial, by kernel_rfl, (fun h => (by cases h)), trivial, (fun _ => (by kernel_rfl))⟩
def ti48 : TInf := ⟨1, 24, false, some (53), none, [], none, some (.sl [] .nil), none, false, false, none, true⟩
theorem tiOk48 : TOk1 Tryz.prog 48 ti48 := ⟨by kernel_rfl, by kernel_rfl, by kernel_rfl, by kernel_rfl, by kernel_rfl, trivial, trivial, (by show zeO Tryz.prog 48 = some _; kernel_rfl), trivial, by kernel_rfl, (fun h => (by cases h)), trivial, (fun _ => (by kernel_rfl))⟩
def ti53 : TInf := ⟨11, 112, true, none, none, [some (0, 3), some (1, 3), some (2, 3), some (3, 27)], some [(0, 1), (1, 1), (2, 1), (3, 8)], some (.agg [.int .i64 0, .int .i64 0, .int .i64 0, .int .i64 0, .sl [] .nil, .int .i64 0, .int .i64 0, .int .i64 0, .int .i64 0, .int .i64 0, .str ⟨#[]⟩]), none, false, false, none, true⟩
theorem tiOk53 : TOk1 Tryz.prog 53 ti53 := ⟨by kernel_rfl, by kernel_rfl, by kernel_rfl, by kernel_rfl, by kernel_rfl, ⟨by kernel_rfl, by kernel_rfl, by kernel_rfl, by kernel_rfl, trivial⟩, (by show placesO Tryz.prog 53 = some _; kernel_rfl), (by show zeO Tryz.prog 53 = some _; kernel_rfl), trivial, by kernel_rfl, (fun h => (by cases h)), trivial, (fun _ => (by kernel_rfl))⟩
def ti56 : TInf := ⟨1, 24, false, some (66), none, [], none, some (.sl [] .nil), none, false, false, none, true⟩
theorem tiOk56 : TOk1 Tryz.prog 56 ti56 := ⟨by kernel_rfl, by kernel_rfl, by kernel_rfl, by kernel_rfl, by kernel_rfl, trivial, trivial, (by show zeO Tryz.prog 56 = some _; kernel_rfl), trivial, by kernel_rfl, (fun h => (by cases h)), trivial, (fun _ => (by kernel_rfl))⟩
def ti58 : TInf := ⟨17, 240, true, none, none, [some (0, 3), some (1, 3), some (2, 3), some (3, 3), some (4, 27), some (12, 46), some (13, 46), some (14, 23), some (15, 56), some (16, 46)], some [(0, 1), (1, 1), (2, 1), (3, 1), (4, 8), (12, 1), (13, 1), (14, 1), (15, 1), (16, 1)], some (.agg [.int .i64 0, .int .i64 0, .int .i64 0, .int .i64 0, .int .i64 0, .sl [] .nil, .int .i64 0, .int .i64 0, .int .i64 0, .int .i64 0, .int .i64 0, .str ⟨#[]⟩, .sl [] .nil, .sl [] .nil, .sl [] .nil, .sl [] .nil, .sl [] .nil]), none, false, false, none, true⟩
theorem tiOk58 : TOk1 Tryz.prog 58 ti58 := ⟨by kernel_rfl, by kernel_rfl, by kernel_rfl, by kernel_rfl, by kernel_rfl, ⟨by kernel_rfl, by kernel_rfl, by kernel_rfl, by kernel_rfl, by kernel_rfl, by kernel_rfl, by kernel_rfl, by kernel_rfl, by kernel_rfl, by kernel_rfl, trivial⟩, (by show placesO Tryz.prog 58 = some _; kernel_rfl), (by show zeO Tryz.prog 58 = some _; kernel_rfl), trivial, by kernel_rfl, (fun h => (by cases h)), trivial, (fun _ => (by kernel_rfl))⟩
def ti66 : TInf := ⟨2, 16, true, none, none, [some (0, 3), some (1, 3)], some [(0, 1), (1, 1)], some (.agg [.int .i64 0, .int .i64 0]), some [0, 0], false, false, none, true⟩
theorem tiOk66 : TOk1 Tryz.prog 66 ti66 := ⟨by kernel_rfl, by kernel_rfl, by kernel_rfl, by kernel_rfl, by kernel_rfl, ⟨by kernel_rfl, by kernel_rfl, trivial⟩, (by show placesO Tryz.prog 66 = some _; kernel_rfl), (by show zeO Tryz.prog 66 = some _; kernel_rfl), (by show flatEq Tryz.prog 9 66 = some _; kernel_rfl), by kernel_rfl, (fun h => (by cases h)), trivial, (fun _ => (by kernel_rfl))⟩
def ti76 : TInf := ⟨1, 24, false, some (79), none, [], none, some (.sl [] .nil), none, false, false, none, true⟩
theorem tiOk76 : TOk1 Tryz.prog 76 ti76 := ⟨by kernel_rfl, by kernel_rfl, by kernel_rfl, by kernel_rfl, by kernel_rfl, trivial, trivial, (by show zeO Tryz.prog 76 = some _; kernel_rfl), trivial, by kernel_rfl, (fun h => (by cases h)), trivial, (fun _ => (by kernel_rfl))⟩
def ti79 : TInf := ⟨32, 400, true, none, none, [some (0, 58), some (17, 4), some (18, 29)], some [(0, 17), (17, 1), (18, 14)], some (.agg [.int .i64 0, .int .i64 0, .int .i64 0, .int .i64 0, .int .i64 0, .sl [] .nil, .int .i64 0, .int .i64 0, .int .i64 0, .int .i64 0, .int .i64 0, .str ⟨#[]⟩, .sl [] .nil, .sl [] .nil, .sl [] .nil, .sl [] .nil, .sl [] .nil, .bool false, .int .i64 0, .sl [] .nil, .int .i64 0, .int .i64 0, .int .i64 0, .int .i64 0, .int .i64 0, .sl [] .nil, .int .i64 0, .int .i64 0, .int .i64 0, .int .i64 0, .int .i64 0, .str ⟨#[]⟩]), none, false, false, none, true⟩
theorem tiOk79 : TOk1 Tryz.prog 79 ti79 := ⟨by kernel_rfl, by kernel_rfl, by kernel_rfl, by kernel_rfl, by kernel_rfl, ⟨by kernel_rfl, by kernel_rfl, by kernel_rfl, trivial⟩, (by show placesO Tryz.prog 79 = some _; kernel_rfl), (by show zeO Tryz.prog 79 = some _; kernel_rfl), trivial, by kernel_rfl, (fun h => (by cases h)), trivial, (fun _ => (by kernel_rfl))⟩
def ti89 : TInf := ⟨1, 8, false, none, none, [], none, some (.int .u64 0), some [0], false, false, some .u64, true⟩
theorem tiOk89 : TOk1 Tryz.prog 89 ti89 := ⟨by kernel_rfl, by kernel_rfl, by kernel_rfl, by kernel_rfl, by kernel_rfl, trivial, trivial, (by show zeO Tryz.prog 89 = some _; kernel_rfl), (by show flatEq Tryz.prog 9 89 = some _; kernel_rfl), by kernel_rfl, (fun h => (by cases h)), (by show Tryz.prog.underlying 89 = some (.int _); kernel_rfl), (fun _ => (by kernel_rfl))⟩
def ti104 : TInf := ⟨15, 160, true, none, none, [some (0, 4), some (1, 29)], some [(0, 1), (1, 14)], some (.agg [.bool false, .int .i64 0, .sl [] .nil, .int .i64 0, .int .i64 0, .int .i64 0, .int .i64 0, .int .i64 0, .sl [] .nil, .int .i64 0, .int .i64 0, .int .i64 0, .int .i64 0, .int .i64 0, .str ⟨#[]⟩]), none, false, false, none, true⟩
theorem tiOk104 : TOk1 Tryz.prog 104 ti104 := ⟨by kernel_rfl, by kernel_rfl, by kernel_rfl, by kernel_rfl, by kernel_rfl, ⟨by kernel_rfl, by kernel_rfl, trivial⟩, (by show placesO Tryz.prog 104 = some _; kernel_rfl), (by show zeO Tryz.prog 104 = some _; kernel_rfl), trivial, by kernel_rfl, (fun h => (by cases h)), trivial, (fun _ => (by kernel_rfl))⟩
def ti113 : TInf := ⟨6, 24, true, none, none, [some (0, 3), some (1, 3), some (2, 4), some (3, 4), some (4, 4), some (5, 4)], some [(0, 1), (1, 1), (2, 1), (3, 1), (4, 1), (5, 1)], some (.agg [.int .i64 0, .int .i64 0, .bool false, .bool false, .bool false, .bool false]), some [0, 0, 1, 1, 1, 1], false, false, none, true⟩
theorem tiOk113 : TOk1 Tryz.prog 113 ti113 := ⟨by kernel_rfl, by kernel_rfl, by kernel_rfl, by kernel_rfl, by kernel_rfl, ⟨by kernel_rfl, by kernel_rfl, by kernel_rfl, by kernel_rfl, by kernel_rfl, by kernel_rfl, trivial⟩, (by show placesO Tryz.prog 113 = some _; kernel_rfl), (by show zeO Tryz.prog 113 = some _; kernel_rfl), (by show flatEq Tryz.prog 9 113 = some _; kernel_rfl), by kernel_rfl, (fun h => (by cases h)), trivial, (fun _ => (by kernel_rfl))⟩
def ti114 : TInf := ⟨66, 264, true, none, some (11, 113), [], none, none, none, false, false, none, true⟩
theorem tiOk114 : TOk1 Tryz.prog 114 ti114 := ⟨by kernel_rfl, by kernel_rfl, by kernel_rfl, by kernel_rfl, by kernel_rfl, trivial, trivial, trivial, trivial, by kernel_rfl, (fun h => (by cases h)), trivial, (fun _ => (by kernel_rfl))⟩
def ti116 : TInf := ⟨1, 8, false, none, none, [], none, some (.int .i64 0), some [0], false, false, some .i64, true⟩
theorem tiOk116 : TOk1 Tryz.prog 116 ti116 := ⟨by kernel_rfl, by kernel_rfl, by kernel_rfl, by kernel_rfl, by kernel_rfl, trivial, trivial, (by show zeO Tryz.prog 116 = some _; kernel_rfl), (by show flatEq Tryz.prog 9 116 = some _; kernel_rfl), by kernel_rfl, (fun h => (by cases h)), (by show Tryz.prog.underlying 116 = some (.int _); kernel_rfl), (fun _ => (by kernel_rfl))⟩
def ti125 : TInf := ⟨1, 4, false, none, none, [], none, some (.int .u32 0), some [0], false, false, some .u32, true⟩
theorem tiOk125 : TOk1 Tryz.prog 125 ti125 := ⟨by kernel_rfl, by kernel_rfl, by kernel_rfl, by kernel_rfl, by kernel_rfl, trivial, trivial, (by show zeO Tryz.prog 125 = some _; kernel_rfl), (by show flatEq Tryz.prog 9 125 = some _; kernel_rfl), by kernel_rfl, (fun h => (by cases h)), (by show Tryz.prog.underlying 125 = some (.int _); kernel_rfl), (fun _ => (by kernel_rfl))⟩
def ti127 : TInf := ⟨1, 8, false, none, none, [], none, some (.int .u64 0), some [0], false, false, some .u64, true⟩
theorem tiOk127 : TOk1 Tryz.prog 127 ti127 := ⟨by kernel_rfl, by kernel_rfl, by kernel_rfl, by kernel_rfl, by kernel_rfl, trivial, trivial, (by show zeO Tryz.prog 127 = some _; kernel_rfl), (by show flatEq Tryz.prog 9 127 = some _; kernel_rfl), by kernel_rfl, (fun h => (by cases h)), (by show Tryz.prog.underlying 127 = some (.int _); kernel_rfl), (fun _ => (by kernel_rfl))⟩
def ti131 : TInf := ⟨1, 8, false, none, none, [], none, some (.nilf), none, false, false, none, true⟩
theorem tiOk131 : TOk1 Tryz.prog 131 ti131 := ⟨by kernel_rfl, by kernel_rfl, by kernel_rfl, by kernel_rfl, by kernel_rfl, trivial, trivial, (by show zeO Tryz.prog 131 = some _; kernel_rfl), trivial, by kernel_rfl, (fun h => (by cases h)), trivial, (fun _ => (by kernel_rfl))⟩
def ti139 : TInf := ⟨1, 8, false, none, none, [], none, some (.int .u64 0), some [0], false, false, some .u64, true⟩
theorem tiOk139 : TOk1 Tryz.prog 139 ti139 := ⟨by kernel_rfl, by kernel_rfl, by kernel_rfl, by kernel_rfl, by kernel_rfl, trivial, trivial, (by show zeO Tryz.prog 139 = some _; kernel_rfl), (by show flatEq Tryz.prog 9 139 = some _; kernel_rfl), by kernel_rfl, (fun h => (by cases h)), (by show Tryz.prog.underlying 139 = some (.int _); kernel_rfl), (fun _ => (by kernel_rfl))⟩
def ti168 : TInf := ⟨1, 24, false, some (23), none, [], none, some (.sl [] .nil), none, false, false, none, true⟩
theorem tiOk168 : TOk1 Tryz.prog 168 ti168 := ⟨by kernel_rfl, by kernel_rfl, by kernel_rfl, by kernel_rfl, by kernel_rfl, trivial, trivial, (by show zeO Tryz.prog 168 = some _; kernel_rfl), trivial, by kernel_rfl, (fun h => (by cases h)), trivial, (fun _ => (by kernel_rfl))⟩
def ti174 : TInf := ⟨1, 24, false, some (46), none, [], none, some (.sl [] .nil), none, false, false, none, true⟩
theorem tiOk174 : TOk1 Tryz.prog 174 ti174 := ⟨by kernel_rfl, by kernel_rfl, by kernel_rfl, by kernel_rfl, by kernel_rfl, trivial, trivial, (by show zeO Tryz.prog 174 = some _; kernel_rfl), trivial, by kernel_rfl, (fun h => (by cases h)), trivial, (fun _ => (by kernel_rfl))⟩
def ti175 : TInf := ⟨1, 24, false, some (56), none, [], none, some (.sl [] .nil), none, false, false, none, true⟩
theorem tiOk175 : TOk1 Tryz.prog 175 ti175 := ⟨by kernel_rfl, by kernel_rfl, by kernel_rfl, by kernel_rfl, by kernel_rfl, trivial, trivial, (by show zeO Tryz.prog 175 = some _; kernel_rfl), trivial, by kernel_rfl, (fun h => (by cases h)), trivial, (fun _ => (by kernel_rfl))⟩
def TT : Tbl := [(3, ti3), (4, ti4), (5, ti5), (9, ti9), (22, ti22), (23, ti23), (25, ti25), (27, ti27), (29, ti29), (33, ti33), (34, ti34), (46, ti46), (48, ti48), (53, ti53), (56, ti56), (58, ti58), (66, ti66), (76, ti76), (79, ti79), (89, ti89), (104, ti104), (113, ti113), (114, ti114), (116, ti116), (125, ti125), (127, ti127), (131, ti131), (139, ti139), (168, ti168), (174, ti174), (175, ti175)]
theorem okT : TOk Tryz.prog TT := ⟨tiOk3, tiOk4, tiOk5, tiOk9, tiOk22, tiOk23, tiOk25, tiOk27, tiOk29, tiOk33, tiOk34, tiOk46, tiOk48, tiOk53, tiOk56, tiOk58, tiOk66, tiOk76, tiOk79, tiOk89, tiOk104, tiOk113, tiOk114, tiOk116, tiOk125, tiOk127, tiOk131, tiOk139, tiOk168, tiOk174, tiOk175, trivial⟩
end Go.Ab

namespace Go.Ab
structure GValue where
 Kind : Int
 Num : Int
 Text : ByteArray
structure GExpr where
 Op : Int
 Args : List GExpr
 Var : Int
 Field : Int
 Kind : Int
 Value : GValue
structure GPattern where
 Op : Int
 Args : List GPattern
 Typ : Int
 Var : Int
 Scope : Int
 Span : Int
 Cond : GExpr
structure GLimit where
 Scope : Int
 Span : Int
structure GEdge where
 From : Int
 To : Int
 Var : Int
 Typ : Int
 Cond : GExpr
 Opens : List Int
 Closes : List Int
 Checks : List GExpr
 Limits : List GLimit
 Inside : List Int
structure GGuard where
 Scope : Int
 Typ : Int
 Var : Int
 Cond : GExpr
structure Gtidegateref22_Pair where
 Edge : GEdge
 Done : Bool
 Rest : GPattern
structure Gderivative_rest where
 done : Bool
 p : GPattern
structure Gpattern_shape where
 least : Int
 most : Int
 typed : Bool
 cond : Bool
 scope : Bool
 span : Bool
def tab_pattern_shapes : List Gpattern_shape := [⟨0, 0, true, true, false, false⟩, ⟨2, 64, false, false, false, false⟩, ⟨2, 64, false, false, false, false⟩, ⟨2, 64, false, false, false, false⟩, ⟨1, 1, false, false, false, false⟩, ⟨1, 1, true, true, true, false⟩, ⟨1, 1, false, false, true, true⟩, ⟨1, 1, false, true, false, false⟩, ⟨2, 2, false, false, false, false⟩, ⟨1, 1, true, true, true, false⟩, ⟨1, 1, false, false, true, true⟩]
end Go.Ab

namespace Go.Ab
variable [Ar]
class Encs where
 eGValue : GValue → V
 eGExpr : GExpr → V
 eGPattern : GPattern → V
 eGLimit : GLimit → V
 eGEdge : GEdge → V
 eGGuard : GGuard → V
 eGtidegateref22_Pair : Gtidegateref22_Pair → V
 eGderivative_rest : Gderivative_rest → V
 eGpattern_shape : Gpattern_shape → V
 eLGExpr : List GExpr → V
 eLI : List Int → V
 eLGLimit : List GLimit → V
 eGValue_eq : ∀ x, eGValue x = .agg [.int .i64 x.Kind, .int .i64 x.Num, .str x.Text]
 eGExpr_eq : ∀ x, eGExpr x = .agg [.int .i64 x.Op, .sl (Ar.lst eGExpr x.Args) .ro, .int .i64 x.Var, .int .i64 x.Field, .int .i64 x.Kind, .int .i64 x.Value.Kind, .int .i64 x.Value.Num, .str x.Value.Text]
 eGPattern_eq : ∀ x, eGPattern x = .agg [.int .i64 x.Op, .sl (Ar.lst eGPattern x.Args) .ro, .int .i64 x.Typ, .int .i64 x.Var, .int .i64 x.Scope, .int .i64 x.Span, .int .i64 x.Cond.Op, .sl (Ar.lst eGExpr x.Cond.Args) .ro, .int .i64 x.Cond.Var, .int .i64 x.Cond.Field, .int .i64 x.Cond.Kind, .int .i64 x.Cond.Value.Kind, .int .i64 x.Cond.Value.Num, .str x.Cond.Value.Text]
 eGLimit_eq : ∀ x, eGLimit x = .agg [.int .i64 x.Scope, .int .i64 x.Span]
 eGEdge_eq : ∀ x, eGEdge x = .agg [.int .i64 x.From, .int .i64 x.To, .int .i64 x.Var, .int .i64 x.Typ, .int .i64 x.Cond.Op, .sl (Ar.lst eGExpr x.Cond.Args) .ro, .int .i64 x.Cond.Var, .int .i64 x.Cond.Field, .int .i64 x.Cond.Kind, .int .i64 x.Cond.Value.Kind, .int .i64 x.Cond.Value.Num, .str x.Cond.Value.Text, .sl (Ar.lst (V.int .i64) x.Opens) .ro, .sl (Ar.lst (V.int .i64) x.Closes) .ro, .sl (Ar.lst eGExpr x.Checks) .ro, .sl (Ar.lst eGLimit x.Limits) .ro, .sl (Ar.lst (V.int .i64) x.Inside) .ro]
 eGGuard_eq : ∀ x, eGGuard x = .agg [.int .i64 x.Scope, .int .i64 x.Typ, .int .i64 x.Var, .int .i64 x.Cond.Op, .sl (Ar.lst eGExpr x.Cond.Args) .ro, .int .i64 x.Cond.Var, .int .i64 x.Cond.Field, .int .i64 x.Cond.Kind, .int .i64 x.Cond.Value.Kind, .int .i64 x.Cond.Value.Num, .str x.Cond.Value.Text]
 eGtidegateref22_Pair_eq : ∀ x, eGtidegateref22_Pair x = .agg [.int .i64 x.Edge.From, .int .i64 x.Edge.To, .int .i64 x.Edge.Var, .int .i64 x.Edge.Typ, .int .i64 x.Edge.Cond.Op, .sl (Ar.lst eGExpr x.Edge.Cond.Args) .ro, .int .i64 x.Edge.Cond.Var, .int .i64 x.Edge.Cond.Field, .int .i64 x.Edge.Cond.Kind, .int .i64 x.Edge.Cond.Value.Kind, .int .i64 x.Edge.Cond.Value.Num, .str x.Edge.Cond.Value.Text, .sl (Ar.lst (V.int .i64) x.Edge.Opens) .ro, .sl (Ar.lst (V.int .i64) x.Edge.Closes) .ro, .sl (Ar.lst eGExpr x.Edge.Checks) .ro, .sl (Ar.lst eGLimit x.Edge.Limits) .ro, .sl (Ar.lst (V.int .i64) x.Edge.Inside) .ro, .bool x.Done, .int .i64 x.Rest.Op, .sl (Ar.lst eGPattern x.Rest.Args) .ro, .int .i64 x.Rest.Typ, .int .i64 x.Rest.Var, .int .i64 x.Rest.Scope, .int .i64 x.Rest.Span, .int .i64 x.Rest.Cond.Op, .sl (Ar.lst eGExpr x.Rest.Cond.Args) .ro, .int .i64 x.Rest.Cond.Var, .int .i64 x.Rest.Cond.Field, .int .i64 x.Rest.Cond.Kind, .int .i64 x.Rest.Cond.Value.Kind, .int .i64 x.Rest.Cond.Value.Num, .str x.Rest.Cond.Value.Text]
 eGderivative_rest_eq : ∀ x, eGderivative_rest x = .agg [.bool x.done, .int .i64 x.p.Op, .sl (Ar.lst eGPattern x.p.Args) .ro, .int .i64 x.p.Typ, .int .i64 x.p.Var, .int .i64 x.p.Scope, .int .i64 x.p.Span, .int .i64 x.p.Cond.Op, .sl (Ar.lst eGExpr x.p.Cond.Args) .ro, .int .i64 x.p.Cond.Var, .int .i64 x.p.Cond.Field, .int .i64 x.p.Cond.Kind, .int .i64 x.p.Cond.Value.Kind, .int .i64 x.p.Cond.Value.Num, .str x.p.Cond.Value.Text]
 eGpattern_shape_eq : ∀ x, eGpattern_shape x = .agg [.int .i64 x.least, .int .i64 x.most, .bool x.typed, .bool x.cond, .bool x.scope, .bool x.span]
 eLGExpr_eq : ∀ x, eLGExpr x = .sl (Ar.lst eGExpr x) .ro
 eLI_eq : ∀ x, eLI x = .sl (Ar.lst (V.int .i64) x) .ro
 eLGLimit_eq : ∀ x, eLGLimit x = .sl (Ar.lst eGLimit x) .ro
theorem sz_GExpr [Encs] (x : GExpr) : (Encs.eGExpr x).cells.length = 8 := by rw [Encs.eGExpr_eq]; rfl
theorem sz_GPattern [Encs] (x : GPattern) : (Encs.eGPattern x).cells.length = 14 := by rw [Encs.eGPattern_eq]; rfl
theorem sz_GLimit [Encs] (x : GLimit) : (Encs.eGLimit x).cells.length = 2 := by rw [Encs.eGLimit_eq]; rfl
theorem sz_GEdge [Encs] (x : GEdge) : (Encs.eGEdge x).cells.length = 17 := by rw [Encs.eGEdge_eq]; rfl
theorem sz_GGuard [Encs] (x : GGuard) : (Encs.eGGuard x).cells.length = 11 := by rw [Encs.eGGuard_eq]; rfl
theorem sz_Gtidegateref22_Pair [Encs] (x : Gtidegateref22_Pair) : (Encs.eGtidegateref22_Pair x).cells.length = 32 := by rw [Encs.eGtidegateref22_Pair_eq]; rfl
end Go.Ab

