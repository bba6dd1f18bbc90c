/- GQTypes GQTy GQEn -/
import Derived.Test.YtodfgmbacmnalaaGreatT22
import Derived.KernelRfl
import Derived.Test.YtodfgmbacmnalaaGreatChecked
import Derived.Test.YtodfgmbacmnalaaGreatT24
import Derived.Test.YtodfgmbacmnalaaGreatT25
set_option linter.all false

namespace Go.Ab
open Go.RowKit Go.Proofs
set_option maxRecDepth 100000
def ti3 : TInf := ⟨1, 8, false, none, none, [], none, some (.int .i64 0), some [0], false, false, some .i64, true⟩
theorem tiOk3 : TOk1 Tryz.prog 3 ti3 := ⟨by kernel_rfl, by kernel_rfl, by kernel_rfl, by kernel_rfl, by kernel_rfl, trivial, trivial, (by show zeO Tryz.prog 3 = some _; kernel_rfl), (by show flatEq Tryz.prog 9 3 = some _; kernel_rfl), by kernel_rfl, (fun h => (by cases h)), (by show Tryz.prog.underlying 3 = some (.int _); kernel_rfl), (fun _ => (by kernel_rfl))⟩
def ti4 : TInf := ⟨1, 1, false, none, none, [], none, some (.bool false), some [1], false, true, none, true⟩
theorem tiOk4 : TOk1 Tryz.prog 4 ti4 := ⟨by kernel_rfl, by kernel_rfl, by kernel_rfl, by kernel_rfl, by kernel_rfl, trivial, trivial, (by show zeO Tryz.prog 4 = some _; kernel_rfl), (by show flatEq Tryz.prog 9 4 = some _; kernel_rfl), by kernel_rfl, (fun _ => (by kernel_rfl)), trivial, (fun _ => (by kernel_rfl))⟩
def ti5 : TInf := ⟨1, 1, false, none, none, [], none, some (.int .u8 0), some [0], false, false, some .u8, true⟩
theorem tiOk5 : TOk1 Tryz.prog 5 ti5 := ⟨by kernel_rfl, by kernel_rfl, by kernel_rfl, by kernel_rfl, by kernel_rfl, trivial, trivial, (by show zeO Tryz.prog 5 = some _; kernel_rfl), (by show flatEq Tryz.prog 9 5 = some _; kernel_rfl), by kernel_rfl, (fun h => (by cases h)), (by show Tryz.prog.underlying 5 = some (.int _); kernel_rfl), (fun _ => (by kernel_rfl))⟩
def ti9 : TInf := ⟨1, 16, false, none, none, [], none, some (.str ⟨#[]⟩), some [2], true, false, none, true⟩
theorem tiOk9 : TOk1 Tryz.prog 9 ti9 := ⟨by kernel_rfl, by kernel_rfl, by kernel_rfl, by kernel_rfl, by kernel_rfl, trivial, trivial, (by show zeO Tryz.prog 9 = some _; kernel_rfl), (by show flatEq Tryz.prog 9 9 = some _; kernel_rfl), by kernel_rfl, (fun h => (by cases h)), trivial, (fun _ => (by kernel_rfl))⟩
def ti22 : TInf := ⟨1, 24, false, some (68), none, [], none, some (.sl [] .nil), none, false, false, none, true⟩
theorem tiOk22 : TOk1 Tryz.prog 22 ti22 := ⟨by kernel_rfl, by kernel_rfl, by kernel_rfl, by kernel_rfl, by kernel_rfl, trivial, trivial, (by show zeO Tryz.prog 22 = some _; kernel_rfl), trivial, by kernel_rfl, (fun h => (by cases h)), trivial, (fun _ => (by kernel_rfl))⟩
def ti23 : TInf := ⟨1, 24, false, some (27), none, [], none, some (.sl [] .nil), none, false, false, none, true⟩
theorem tiOk23 : TOk1 Tryz.prog 23 ti23 := ⟨by kernel_rfl, by kernel_rfl, by kernel_rfl, by kernel_rfl, by kernel_rfl, trivial, trivial, (by show zeO Tryz.prog 23 = some _; kernel_rfl), trivial, by kernel_rfl, (fun h => (by cases h)), trivial, (fun _ => (by kernel_rfl))⟩
def ti25 : TInf := ⟨3, 32, true, none, none, [some (0, 3), some (1, 3), some (2, 9)], some [(0, 1), (1, 1), (2, 1)], some (.agg [.int .i64 0, .int .i64 0, .str ⟨#[]⟩]), some [0, 0, 2], false, false, none, true⟩
theorem tiOk25 : TOk1 Tryz.prog 25 ti25 := ⟨by kernel_rfl, by kernel_rfl, by kernel_rfl, by kernel_rfl, by kernel_rfl, ⟨by kernel_rfl, by kernel_rfl, by kernel_rfl, trivial⟩, (by show placesO Tryz.prog 25 = some _; kernel_rfl), (by show zeO Tryz.prog 25 = some _; kernel_rfl), (by show flatEq Tryz.prog 9 25 = some _; kernel_rfl), by kernel_rfl, (fun h => (by cases h)), trivial, (fun _ => (by kernel_rfl))⟩
def ti27 : TInf := ⟨8, 88, true, none, none, [some (0, 3), some (1, 23), some (2, 3), some (3, 3), some (4, 3), some (5, 25)], some [(0, 1), (1, 1), (2, 1), (3, 1), (4, 1), (5, 3)], some (.agg [.int .i64 0, .sl [] .nil, .int .i64 0, .int .i64 0, .int .i64 0, .int .i64 0, .int .i64 0, .str ⟨#[]⟩]), none, false, false, none, true⟩
theorem tiOk27 : TOk1 Tryz.prog 27 ti27 := ⟨by kernel_rfl, by kernel_rfl, by kernel_rfl, by kernel_rfl, by kernel_rfl, ⟨by kernel_rfl, by kernel_rfl, by kernel_rfl, by kernel_rfl, by kernel_rfl, by kernel_rfl, trivial⟩, (by show placesO Tryz.prog 27 = some _; kernel_rfl), (by show zeO Tryz.prog 27 = some _; kernel_rfl), trivial, by kernel_rfl, (fun h => (by cases h)), trivial, (fun _ => (by kernel_rfl))⟩
def ti28 : TInf := ⟨1, 24, false, some (25), none, [], none, some (.sl [] .nil), none, false, false, none, true⟩
theorem tiOk28 : TOk1 Tryz.prog 28 ti28 := ⟨by kernel_rfl, by kernel_rfl, by kernel_rfl, by kernel_rfl, by kernel_rfl, trivial, trivial, (by show zeO Tryz.prog 28 = some _; kernel_rfl), trivial, by kernel_rfl, (fun h => (by cases h)), trivial, (fun _ => (by kernel_rfl))⟩
def ti30 : TInf := ⟨5, 56, true, none, none, [some (0, 3), some (1, 3), some (2, 3), some (3, 3), some (4, 28)], some [(0, 1), (1, 1), (2, 1), (3, 1), (4, 1)], some (.agg [.int .i64 0, .int .i64 0, .int .i64 0, .int .i64 0, .sl [] .nil]), none, false, false, none, true⟩
theorem tiOk30 : TOk1 Tryz.prog 30 ti30 := ⟨by kernel_rfl, by kernel_rfl, by kernel_rfl, by kernel_rfl, by kernel_rfl, ⟨by kernel_rfl, by kernel_rfl, by kernel_rfl, by kernel_rfl, by kernel_rfl, trivial⟩, (by show placesO Tryz.prog 30 = some _; kernel_rfl), (by show zeO Tryz.prog 30 = some _; kernel_rfl), trivial, by kernel_rfl, (fun h => (by cases h)), trivial, (fun _ => (by kernel_rfl))⟩
def ti32 : TInf := ⟨15, 160, true, none, none, [some (0, 3), some (1, 3), some (2, 27), some (10, 30)], some [(0, 1), (1, 1), (2, 8), (10, 5)], some (.agg [.int .i64 0, .int .i64 0, .int .i64 0, .sl [] .nil, .int .i64 0, .int .i64 0, .int .i64 0, .int .i64 0, .int .i64 0, .str ⟨#[]⟩, .int .i64 0, .int .i64 0, .int .i64 0, .int .i64 0, .sl [] .nil]), none, false, false, none, true⟩
theorem tiOk32 : TOk1 Tryz.prog 32 ti32 := ⟨by kernel_rfl, by kernel_rfl, by kernel_rfl, by kernel_rfl, by kernel_rfl, ⟨by kernel_rfl, by kernel_rfl, by kernel_rfl, by kernel_rfl, trivial⟩, (by show placesO Tryz.prog 32 = some _; kernel_rfl), (by show zeO Tryz.prog 32 = some _; kernel_rfl), trivial, by kernel_rfl, (fun h => (by cases h)), trivial, (fun _ => (by kernel_rfl))⟩
def ti35 : TInf := ⟨1, 24, false, some (74), none, [], none, some (.sl [] .nil), none, false, false, none, true⟩
theorem tiOk35 : TOk1 Tryz.prog 35 ti35 := ⟨by kernel_rfl, by kernel_rfl, by kernel_rfl, by kernel_rfl, by kernel_rfl, trivial, trivial, (by show zeO Tryz.prog 35 = some _; kernel_rfl), trivial, by kernel_rfl, (fun h => (by cases h)), trivial, (fun _ => (by kernel_rfl))⟩
def ti37 : TInf := ⟨1, 24, true, none, none, [some (0, 35)], some [(0, 1)], some (.agg [.sl [] .nil]), none, false, false, none, true⟩
theorem tiOk37 : TOk1 Tryz.prog 37 ti37 := ⟨by kernel_rfl, by kernel_rfl, by kernel_rfl, by kernel_rfl, by kernel_rfl, ⟨by kernel_rfl, trivial⟩, (by show placesO Tryz.prog 37 = some _; kernel_rfl), (by show zeO Tryz.prog 37 = some _; kernel_rfl), trivial, by kernel_rfl, (fun h => (by cases h)), trivial, (fun _ => (by kernel_rfl))⟩
def ti38 : TInf := ⟨1, 8, false, none, none, [], none, some (.int .i64 0), some [0], false, false, some .i64, true⟩
theorem tiOk38 : TOk1 Tryz.prog 38 ti38 := ⟨by kernel_rfl, by kernel_rfl, by kernel_rfl, by kernel_rfl, by kernel_rfl, trivial, trivial, (by show zeO Tryz.prog 38 = some _; kernel_rfl), (by show flatEq Tryz.prog 9 38 = some _; kernel_rfl), by kernel_rfl, (fun h => (by cases h)), (by show Tryz.prog.underlying 38 = some (.int _); kernel_rfl), (fun _ => (by kernel_rfl))⟩
def ti44 : TInf := ⟨2, 16, true, none, none, [some (0, 3), some (1, 3)], some [(0, 1), (1, 1)], some (.agg [.int .i64 0, .int .i64 0]), some [0, 0], false, false, none, true⟩
theorem tiOk44 : TOk1 Tryz.prog 44 ti44 := ⟨by kernel_rfl, by kernel_rfl, by kernel_rfl, by kernel_rfl, by kernel_rfl, ⟨by kernel_rfl, by kernel_rfl, trivial⟩, (by show placesO Tryz.prog 44 = some _; kernel_rfl), (by show zeO Tryz.prog 44 = some _; kernel_rfl), (by show flatEq Tryz.prog 9 44 = some _; kernel_rfl), by kernel_rfl, (fun h => (by cases h)), trivial, (fun _ => (by kernel_rfl))⟩
def ti55 : TInf := ⟨1, 24, false, some (187), none, [], none, some (.sl [] .nil), none, false, false, none, true⟩
theorem tiOk55 : TOk1 Tryz.prog 55 ti55 := ⟨by kernel_rfl, by kernel_rfl, by kernel_rfl, by kernel_rfl, by kernel_rfl, trivial, trivial, (by show zeO Tryz.prog 55 = some _; kernel_rfl), trivial, by kernel_rfl, (fun h => (by cases h)), trivial, (fun _ => (by kernel_rfl))⟩
def ti57 : TInf := ⟨1, 24, true, none, none, [some (0, 55)], some [(0, 1)], some (.agg [.sl [] .nil]), none, false, false, none, true⟩
theorem tiOk57 : TOk1 Tryz.prog 57 ti57 := ⟨by kernel_rfl, by kernel_rfl, by kernel_rfl, by kernel_rfl, by kernel_rfl, ⟨by kernel_rfl, trivial⟩, (by show placesO Tryz.prog 57 = some _; kernel_rfl), (by show zeO Tryz.prog 57 = some _; kernel_rfl), trivial, by kernel_rfl, (fun h => (by cases h)), trivial, (fun _ => (by kernel_rfl))⟩
def ti60 : TInf := ⟨1, 24, false, some (37), none, [], none, some (.sl [] .nil), none, false, false, none, true⟩
theorem tiOk60 : TOk1 Tryz.prog 60 ti60 := ⟨by kernel_rfl, by kernel_rfl, by kernel_rfl, by kernel_rfl, by kernel_rfl, trivial, trivial, (by show zeO Tryz.prog 60 = some _; kernel_rfl), trivial, by kernel_rfl, (fun h => (by cases h)), trivial, (fun _ => (by kernel_rfl))⟩
def ti65 : TInf := ⟨2, 24, true, none, none, [some (0, 9), some (1, 3)], some [(0, 1), (1, 1)], some (.agg [.str ⟨#[]⟩, .int .i64 0]), some [2, 0], false, false, none, true⟩
theorem tiOk65 : TOk1 Tryz.prog 65 ti65 := ⟨by kernel_rfl, by kernel_rfl, by kernel_rfl, by kernel_rfl, by kernel_rfl, ⟨by kernel_rfl, by kernel_rfl, trivial⟩, (by show placesO Tryz.prog 65 = some _; kernel_rfl), (by show zeO Tryz.prog 65 = some _; kernel_rfl), (by show flatEq Tryz.prog 9 65 = some _; kernel_rfl), by kernel_rfl, (fun h => (by cases h)), trivial, (fun _ => (by kernel_rfl))⟩
def ti66 : TInf := ⟨1, 24, false, some (65), none, [], none, some (.sl [] .nil), none, false, false, none, true⟩
theorem tiOk66 : TOk1 Tryz.prog 66 ti66 := ⟨by kernel_rfl, by kernel_rfl, by kernel_rfl, by kernel_rfl, by kernel_rfl, trivial, trivial, (by show zeO Tryz.prog 66 = some _; kernel_rfl), trivial, by kernel_rfl, (fun h => (by cases h)), trivial, (fun _ => (by kernel_rfl))⟩
def ti68 : TInf := ⟨2, 40, true, none, none, [some (0, 9), some (1, 66)], some [(0, 1), (1, 1)], some (.agg [.str ⟨#[]⟩, .sl [] .nil]), none, false, false, none, true⟩
theorem tiOk68 : TOk1 Tryz.prog 68 ti68 := ⟨by kernel_rfl, by kernel_rfl, by kernel_rfl, by kernel_rfl, by kernel_rfl, ⟨by kernel_rfl, by kernel_rfl, trivial⟩, (by show placesO Tryz.prog 68 = some _; kernel_rfl), (by show zeO Tryz.prog 68 = some _; kernel_rfl), trivial, by kernel_rfl, (fun h => (by cases h)), trivial, (fun _ => (by kernel_rfl))⟩
def ti73 : TInf := ⟨2, 16, true, none, none, [some (0, 3), some (1, 3)], some [(0, 1), (1, 1)], some (.agg [.int .i64 0, .int .i64 0]), some [0, 0], false, false, none, true⟩
theorem tiOk73 : TOk1 Tryz.prog 73 ti73 := ⟨by kernel_rfl, by kernel_rfl, by kernel_rfl, by kernel_rfl, by kernel_rfl, ⟨by kernel_rfl, by kernel_rfl, trivial⟩, (by show placesO Tryz.prog 73 = some _; kernel_rfl), (by show zeO Tryz.prog 73 = some _; kernel_rfl), (by show flatEq Tryz.prog 9 73 = some _; kernel_rfl), by kernel_rfl, (fun h => (by cases h)), trivial, (fun _ => (by kernel_rfl))⟩
def ti74 : TInf := ⟨1, 24, false, some (73), none, [], none, some (.sl [] .nil), none, false, false, none, true⟩
theorem tiOk74 : TOk1 Tryz.prog 74 ti74 := ⟨by kernel_rfl, by kernel_rfl, by kernel_rfl, by kernel_rfl, by kernel_rfl, trivial, trivial, (by show zeO Tryz.prog 74 = some _; kernel_rfl), trivial, by kernel_rfl, (fun h => (by cases h)), trivial, (fun _ => (by kernel_rfl))⟩
def ti79 : TInf := ⟨1, 24, false, some (82), none, [], none, some (.sl [] .nil), none, false, false, none, true⟩
theorem tiOk79 : TOk1 Tryz.prog 79 ti79 := ⟨by kernel_rfl, by kernel_rfl, by kernel_rfl, by kernel_rfl, by kernel_rfl, trivial, trivial, (by show zeO Tryz.prog 79 = some _; kernel_rfl), trivial, by kernel_rfl, (fun h => (by cases h)), trivial, (fun _ => (by kernel_rfl))⟩
def ti82 : TInf := ⟨2, 24, true, none, none, [some (0, 9), some (1, 3)], some [(0, 1), (1, 1)], some (.agg [.str ⟨#[]⟩, .int .i64 0]), some [2, 0], false, false, none, true⟩
theorem tiOk82 : TOk1 Tryz.prog 82 ti82 := ⟨by kernel_rfl, by kernel_rfl, by kernel_rfl, by kernel_rfl, by kernel_rfl, ⟨by kernel_rfl, by kernel_rfl, trivial⟩, (by show placesO Tryz.prog 82 = some _; kernel_rfl), (by show zeO Tryz.prog 82 = some _; kernel_rfl), (by show flatEq Tryz.prog 9 82 = some _; kernel_rfl), by kernel_rfl, (fun h => (by cases h)), trivial, (fun _ => (by kernel_rfl))⟩
def ti102 : TInf := ⟨1, 8, false, none, none, [], none, some (.nilmap), none, false, false, none, true⟩
theorem tiOk102 : TOk1 Tryz.prog 102 ti102 := ⟨by kernel_rfl, by kernel_rfl, by kernel_rfl, by kernel_rfl, by kernel_rfl, trivial, trivial, (by show zeO Tryz.prog 102 = some _; kernel_rfl), trivial, by kernel_rfl, (fun h => (by cases h)), trivial, (fun _ => (by kernel_rfl))⟩
def ti103 : TInf := ⟨1, 24, false, some (3), none, [], none, some (.sl [] .nil), none, false, false, none, true⟩
theorem tiOk103 : TOk1 Tryz.prog 103 ti103 := ⟨by kernel_rfl, by kernel_rfl, by kernel_rfl, by kernel_rfl, by kernel_rfl, trivial, trivial, (by show zeO Tryz.prog 103 = some _; kernel_rfl), trivial, by kernel_rfl, (fun h => (by cases h)), trivial, (fun _ => (by kernel_rfl))⟩
def ti111 : TInf := ⟨1, 8, false, none, none, [], none, some (.nilmap), none, false, false, none, true⟩
theorem tiOk111 : TOk1 Tryz.prog 111 ti111 := ⟨by kernel_rfl, by kernel_rfl, by kernel_rfl, by kernel_rfl, by kernel_rfl, trivial, trivial, (by show zeO Tryz.prog 111 = some _; kernel_rfl), trivial, by kernel_rfl, (fun h => (by cases h)), trivial, (fun _ => (by kernel_rfl))⟩
def ti115 : TInf := ⟨2, 48, true, none, none, [some (0, 22), some (1, 79)], some [(0, 1), (1, 1)], some (.agg [.sl [] .nil, .sl [] .nil]), none, false, false, none, true⟩
theorem tiOk115 : TOk1 Tryz.prog 115 ti115 := ⟨by kernel_rfl, by kernel_rfl, by kernel_rfl, by kernel_rfl, by kernel_rfl, ⟨by kernel_rfl, by kernel_rfl, trivial⟩, (by show placesO Tryz.prog 115 = some _; kernel_rfl), (by show zeO Tryz.prog 115 = some _; kernel_rfl), trivial, by kernel_rfl, (fun h => (by cases h)), trivial, (fun _ => (by kernel_rfl))⟩
def ti117 : TInf := ⟨1, 8, false, none, none, [], none, some (.int .u64 0), some [0], false, false, some .u64, true⟩
theorem tiOk117 : TOk1 Tryz.prog 117 ti117 := ⟨by kernel_rfl, by kernel_rfl, by kernel_rfl, by kernel_rfl, by kernel_rfl, trivial, trivial, (by show zeO Tryz.prog 117 = some _; kernel_rfl), (by show flatEq Tryz.prog 9 117 = some _; kernel_rfl), by kernel_rfl, (fun h => (by cases h)), (by show Tryz.prog.underlying 117 = some (.int _); kernel_rfl), (fun _ => (by kernel_rfl))⟩
def ti122 : TInf := ⟨2, 16, true, none, none, [some (0, 3), some (1, 3)], some [(0, 1), (1, 1)], some (.agg [.int .i64 0, .int .i64 0]), some [0, 0], false, false, none, true⟩
theorem tiOk122 : TOk1 Tryz.prog 122 ti122 := ⟨by kernel_rfl, by kernel_rfl, by kernel_rfl, by kernel_rfl, by kernel_rfl, ⟨by kernel_rfl, by kernel_rfl, trivial⟩, (by show placesO Tryz.prog 122 = some _; kernel_rfl), (by show zeO Tryz.prog 122 = some _; kernel_rfl), (by show flatEq Tryz.prog 9 122 = some _; kernel_rfl), by kernel_rfl, (fun h => (by cases h)), trivial, (fun _ => (by kernel_rfl))⟩
def ti138 : TInf := ⟨1, 8, false, none, none, [], none, some (.nilmap), none, false, false, none, true⟩
theorem tiOk138 : TOk1 Tryz.prog 138 ti138 := ⟨by kernel_rfl, by kernel_rfl, by kernel_rfl, by kernel_rfl, by kernel_rfl, trivial, trivial, (by show zeO Tryz.prog 138 = some _; kernel_rfl), trivial, by kernel_rfl, (fun h => (by cases h)), trivial, (fun _ => (by kernel_rfl))⟩
def ti141 : TInf := ⟨8, 96, true, none, none, [some (0, 57), some (1, 3), some (2, 30), some (7, 138)], some [(0, 1), (1, 1), (2, 5), (7, 1)], some (.agg [.sl [] .nil, .int .i64 0, .int .i64 0, .int .i64 0, .int .i64 0, .int .i64 0, .sl [] .nil, .nilmap]), none, false, false, none, true⟩
theorem tiOk141 : TOk1 Tryz.prog 141 ti141 := ⟨by kernel_rfl, by kernel_rfl, by kernel_rfl, by kernel_rfl, by kernel_rfl, ⟨by kernel_rfl, by kernel_rfl, by kernel_rfl, by kernel_rfl, trivial⟩, (by show placesO Tryz.prog 141 = some _; kernel_rfl), (by show zeO Tryz.prog 141 = some _; kernel_rfl), trivial, by kernel_rfl, (fun h => (by cases h)), trivial, (fun _ => (by kernel_rfl))⟩
def ti145 : TInf := ⟨1, 24, false, some (5), none, [], none, some (.sl [] .nil), none, false, false, none, true⟩
theorem tiOk145 : TOk1 Tryz.prog 145 ti145 := ⟨by kernel_rfl, by kernel_rfl, by kernel_rfl, by kernel_rfl, by kernel_rfl, trivial, trivial, (by show zeO Tryz.prog 145 = some _; kernel_rfl), trivial, by kernel_rfl, (fun h => (by cases h)), trivial, (fun _ => (by kernel_rfl))⟩
def ti151 : TInf := ⟨1, 4, false, none, none, [], none, some (.int .u32 0), some [0], false, false, some .u32, true⟩
theorem tiOk151 : TOk1 Tryz.prog 151 ti151 := ⟨by kernel_rfl, by kernel_rfl, by kernel_rfl, by kernel_rfl, by kernel_rfl, trivial, trivial, (by show zeO Tryz.prog 151 = some _; kernel_rfl), (by show flatEq Tryz.prog 9 151 = some _; kernel_rfl), by kernel_rfl, (fun h => (by cases h)), (by show Tryz.prog.underlying 151 = some (.int _); kernel_rfl), (fun _ => (by kernel_rfl))⟩
def ti154 : TInf := ⟨1, 8, false, none, none, [], none, some (.int .u64 0), some [0], false, false, some .u64, true⟩
theorem tiOk154 : TOk1 Tryz.prog 154 ti154 := ⟨by kernel_rfl, by kernel_rfl, by kernel_rfl, by kernel_rfl, by kernel_rfl, trivial, trivial, (by show zeO Tryz.prog 154 = some _; kernel_rfl), (by show flatEq Tryz.prog 9 154 = some _; kernel_rfl), by kernel_rfl, (fun h => (by cases h)), (by show Tryz.prog.underlying 154 = some (.int _); kernel_rfl), (fun _ => (by kernel_rfl))⟩
def ti174 : TInf := ⟨1, 8, false, none, none, [], none, some (.nilf), none, false, false, none, true⟩
theorem tiOk174 : TOk1 Tryz.prog 174 ti174 := ⟨by kernel_rfl, by kernel_rfl, by kernel_rfl, by kernel_rfl, by kernel_rfl, trivial, trivial, (by show zeO Tryz.prog 174 = some _; kernel_rfl), trivial, by kernel_rfl, (fun h => (by cases h)), trivial, (fun _ => (by kernel_rfl))⟩
def ti187 : TInf := ⟨1, 24, false, some (30), none, [], none, some (.sl [] .nil), none, false, false, none, true⟩
theorem tiOk187 : TOk1 Tryz.prog 187 ti187 := ⟨by kernel_rfl, by kernel_rfl, by kernel_rfl, by kernel_rfl, by kernel_rfl, trivial, trivial, (by show zeO Tryz.prog 187 = some _; kernel_rfl), trivial, by kernel_rfl, (fun h => (by cases h)), trivial, (fun _ => (by kernel_rfl))⟩
def ti191 : TInf := ⟨1, 8, false, none, none, [], none, some (.int .i64 0), some [0], false, false, some .i64, true⟩
theorem tiOk191 : TOk1 Tryz.prog 191 ti191 := ⟨by kernel_rfl, by kernel_rfl, by kernel_rfl, by kernel_rfl, by kernel_rfl, trivial, trivial, (by show zeO Tryz.prog 191 = some _; kernel_rfl), (by show flatEq Tryz.prog 9 191 = some _; kernel_rfl), by kernel_rfl, (fun h => (by cases h)), (by show Tryz.prog.underlying 191 = some (.int _); kernel_rfl), (fun _ => (by kernel_rfl))⟩
def ti203 : TInf := ⟨1, 8, false, none, none, [], none, some (.int .u64 0), some [0], false, false, some .u64, true⟩
theorem tiOk203 : TOk1 Tryz.prog 203 ti203 := ⟨by kernel_rfl, by kernel_rfl, by kernel_rfl, by kernel_rfl, by kernel_rfl, trivial, trivial, (by show zeO Tryz.prog 203 = some _; kernel_rfl), (by show flatEq Tryz.prog 9 203 = some _; kernel_rfl), by kernel_rfl, (fun h => (by cases h)), (by show Tryz.prog.underlying 203 = some (.int _); kernel_rfl), (fun _ => (by kernel_rfl))⟩
def ti213 : TInf := ⟨5, 48, true, none, none, [some (0, 3), some (1, 3), some (2, 25)], some [(0, 1), (1, 1), (2, 3)], some (.agg [.int .i64 0, .int .i64 0, .int .i64 0, .int .i64 0, .str ⟨#[]⟩]), some [0, 0, 0, 0, 2], false, false, none, true⟩
theorem tiOk213 : TOk1 Tryz.prog 213 ti213 := ⟨by kernel_rfl, by kernel_rfl, by kernel_rfl, by kernel_rfl, by kernel_rfl, ⟨by kernel_rfl, by kernel_rfl, by kernel_rfl, trivial⟩, (by show placesO Tryz.prog 213 = some _; kernel_rfl), (by show zeO Tryz.prog 213 = some _; kernel_rfl), (by show flatEq Tryz.prog 9 213 = some _; kernel_rfl), by kernel_rfl, (fun h => (by cases h)), trivial, (fun _ => (by kernel_rfl))⟩
def ti223 : TInf := ⟨1, 8, false, none, none, [], none, some (.nilf), none, false, false, none, true⟩
theorem tiOk223 : TOk1 Tryz.prog 223 ti223 := ⟨by kernel_rfl, by kernel_rfl, by kernel_rfl, by kernel_rfl, by kernel_rfl, trivial, trivial, (by show zeO Tryz.prog 223 = some _; kernel_rfl), trivial, by kernel_rfl, (fun h => (by cases h)), trivial, (fun _ => (by kernel_rfl))⟩
def ti224 : TInf := ⟨6, 48, true, none, some (6, 223), [], none, some (.agg [.nilf, .nilf, .nilf, .nilf, .nilf, .nilf]), none, false, false, none, true⟩
theorem tiOk224 : TOk1 Tryz.prog 224 ti224 := ⟨by kernel_rfl, by kernel_rfl, by kernel_rfl, by kernel_rfl, by kernel_rfl, trivial, trivial, (by show zeO Tryz.prog 224 = some _; kernel_rfl), trivial, by kernel_rfl, (fun h => (by cases h)), trivial, (fun _ => (by kernel_rfl))⟩
def TT : Tbl := [(3, ti3), (4, ti4), (5, ti5), (9, ti9), (22, ti22), (23, ti23), (25, ti25), (27, ti27), (28, ti28), (30, ti30), (32, ti32), (35, ti35), (37, ti37), (38, ti38), (44, ti44), (55, ti55), (57, ti57), (60, ti60), (65, ti65), (66, ti66), (68, ti68), (73, ti73), (74, ti74), (79, ti79), (82, ti82), (102, ti102), (103, ti103), (111, ti111), (115, ti115), (117, ti117), (122, ti122), (138, ti138), (141, ti141), (145, ti145), (151, ti151), (154, ti154), (174, ti174), (187, ti187), (191, ti191), (203, ti203), (213, ti213), (223, ti223), (224, ti224)]
theorem okT : TOk Tryz.prog TT := ⟨tiOk3, tiOk4, tiOk5, tiOk9, tiOk22, tiOk23, tiOk25, tiOk27, tiOk28, tiOk30, tiOk32, tiOk35, tiOk37, tiOk38, tiOk44, tiOk55, tiOk57, tiOk60, tiOk65, tiOk66, tiOk68, tiOk73, tiOk74, tiOk79, tiOk82, tiOk102, tiOk103, tiOk111, tiOk115, tiOk117, tiOk122, tiOk138, tiOk141, tiOk145, tiOk151, tiOk154, tiOk174, tiOk187, tiOk191, tiOk203, tiOk213, tiOk223, tiOk224, trivial⟩
end Go.Ab

namespace Go.Ab
structure GField where
 Name : ByteArray
 Kind : Int
structure GSchema where
 Name : ByteArray
 Fields : List GField
structure GValue where
 Kind : Int
 Num : Int
 Text : ByteArray
structure GExpr where
 Op : Int
 Args : List GExpr
 Var : Int
 Field : Int
 Kind : Int
 Value : GValue
structure GEvent where
 Source : Int
 Seq : Int
 Typ : Int
 Time : Int
 Values : List GValue
structure Gtidegatelaw27_Case where
 Index : Int
 Own : Int
 Cond : GExpr
 Event : GEvent
structure GInterval where
 Low : Int
 High : Int
structure GPredicate where
 Sets : List (List GInterval)
structure GSymbol where
 Typ : Int
 Num : Int
structure GEnv where
 Vars : List (List GEvent)
structure GVariable where
 Name : ByteArray
 Typ : Int
structure Gexpr_typer where
 types : List GSchema
 vars : List GVariable
structure Gpredicate_line where
 times : Int
 plus : Int
structure Gexpr_evaluator where
 env : GEnv
 own : Int
 event : GEvent
 apply : Unit
structure GAccumulator where
 Kind : Int
 Count : Int
 Value : GValue
end Go.Ab

namespace Go.Ab
variable [Ar]
def fmK138 : List Int := [5, 6, 7, 8, 10, 11, 12]
def fmX138 : List V := [.func (.func 111) [] [.eref [.func (.func 110) [] []] 0], .func (.func 112) [] [.eref [.func (.func 110) [] []] 0], .func (.func 113) [] [], .func (.func 114) [] [], .func (.func 115) [] [], .func (.func 116) [] [], .func (.func 117) [] []]
class Encs where
 eGField : GField → V
 eGSchema : GSchema → V
 eGValue : GValue → V
 eGExpr : GExpr → V
 eGEvent : GEvent → V
 eGtidegatelaw27_Case : Gtidegatelaw27_Case → V
 eGInterval : GInterval → V
 eGPredicate : GPredicate → V
 eGSymbol : GSymbol → V
 eGEnv : GEnv → V
 eGVariable : GVariable → V
 eGexpr_typer : Gexpr_typer → V
 eGpredicate_line : Gpredicate_line → V
 eGexpr_evaluator : Gexpr_evaluator → V
 eGAccumulator : GAccumulator → V
 eLGInterval : List GInterval → V
 eLGEvent : List GEvent → V
 eGField_eq : ∀ x, eGField x = .agg [.str x.Name, .int .i64 x.Kind]
 eGSchema_eq : ∀ x, eGSchema x = .agg [.str x.Name, .sl (Ar.lst eGField x.Fields) .ro]
 eGValue_eq : ∀ x, eGValue x = .agg [.int .i64 x.Kind, .int .i64 x.Num, .str x.Text]
 eGExpr_eq : ∀ x, eGExpr x = .agg [.int .i64 x.Op, .sl (Ar.lst eGExpr x.Args) .ro, .int .i64 x.Var, .int .i64 x.Field, .int .i64 x.Kind, .int .i64 x.Value.Kind, .int .i64 x.Value.Num, .str x.Value.Text]
 eGEvent_eq : ∀ x, eGEvent x = .agg [.int .i64 x.Source, .int .i64 x.Seq, .int .i64 x.Typ, .int .i64 x.Time, .sl (Ar.lst eGValue x.Values) .ro]
 eGtidegatelaw27_Case_eq : ∀ x, eGtidegatelaw27_Case x = .agg [.int .i64 x.Index, .int .i64 x.Own, .int .i64 x.Cond.Op, .sl (Ar.lst eGExpr x.Cond.Args) .ro, .int .i64 x.Cond.Var, .int .i64 x.Cond.Field, .int .i64 x.Cond.Kind, .int .i64 x.Cond.Value.Kind, .int .i64 x.Cond.Value.Num, .str x.Cond.Value.Text, .int .i64 x.Event.Source, .int .i64 x.Event.Seq, .int .i64 x.Event.Typ, .int .i64 x.Event.Time, .sl (Ar.lst eGValue x.Event.Values) .ro]
 eGInterval_eq : ∀ x, eGInterval x = .agg [.int .i64 x.Low, .int .i64 x.High]
 eGPredicate_eq : ∀ x, eGPredicate x = .agg [.sl (Ar.lst eLGInterval x.Sets) .ro]
 eGSymbol_eq : ∀ x, eGSymbol x = .agg [.int .i64 x.Typ, .int .i64 x.Num]
 eGEnv_eq : ∀ x, eGEnv x = .agg [.sl (Ar.lst eLGEvent x.Vars) .ro]
 eGVariable_eq : ∀ x, eGVariable x = .agg [.str x.Name, .int .i64 x.Typ]
 eGexpr_typer_eq : ∀ x, eGexpr_typer x = .agg [.sl (Ar.lst eGSchema x.types) .ro, .sl (Ar.lst eGVariable x.vars) .ro]
 eGpredicate_line_eq : ∀ x, eGpredicate_line x = .agg [.int .i64 x.times, .int .i64 x.plus]
 eGexpr_evaluator_eq : ∀ x, eGexpr_evaluator x = .agg [.sl (Ar.lst eLGEvent x.env.Vars) .ro, .int .i64 x.own, .int .i64 x.event.Source, .int .i64 x.event.Seq, .int .i64 x.event.Typ, .int .i64 x.event.Time, .sl (Ar.lst eGValue x.event.Values) .ro, .fmap fmK138 fmX138]
 eGAccumulator_eq : ∀ x, eGAccumulator x = .agg [.int .i64 x.Kind, .int .i64 x.Count, .int .i64 x.Value.Kind, .int .i64 x.Value.Num, .str x.Value.Text]
 eLGInterval_eq : ∀ x, eLGInterval x = .sl (Ar.lst eGInterval x) .ro
 eLGEvent_eq : ∀ x, eLGEvent x = .sl (Ar.lst eGEvent x) .ro
theorem sz_GValue [Encs] (x : GValue) : (Encs.eGValue x).cells.length = 3 := by rw [Encs.eGValue_eq]; rfl
theorem sz_GInterval [Encs] (x : GInterval) : (Encs.eGInterval x).cells.length = 2 := by rw [Encs.eGInterval_eq]; rfl
theorem sz_GVariable [Encs] (x : GVariable) : (Encs.eGVariable x).cells.length = 2 := by rw [Encs.eGVariable_eq]; rfl
theorem sz_LGInterval [Encs] (x : List GInterval) : (Encs.eLGInterval x).cells.length = 1 := by rw [Encs.eLGInterval_eq]; rfl
end Go.Ab

