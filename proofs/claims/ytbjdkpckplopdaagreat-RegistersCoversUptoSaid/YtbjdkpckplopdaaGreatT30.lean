/- GSTypes GSTy GSEn -/
import Derived.Test.YtbjdkpckplopdaaGreatT22
import Derived.KernelRfl
import Derived.Test.YtbjdkpckplopdaaGreatChecked
import Derived.Test.YtbjdkpckplopdaaGreatT23
import Derived.Test.YtbjdkpckplopdaaGreatT26
set_option linter.all false

namespace Go.Ab
open Go.RowKit Go.Proofs
set_option maxRecDepth 100000
def ti3 : TInf := ⟨1, 8, false, none, none, [], none, some (.int .i64 0), some [0], false, false, some .i64, true⟩
theorem tiOk3 : TOk1 Tryz.prog 3 ti3 := ⟨by kernel_rfl, by kernel_rfl, by kernel_rfl, by kernel_rfl, by kernel_rfl, trivial, trivial, (by show zeO Tryz.prog 3 = some _; kernel_rfl), (by show flatEq Tryz.prog 9 3 = some _; kernel_rfl), by kernel_rfl, (fun h => (by cases h)), (by show Tryz.prog.underlying 3 = some (.int _); kernel_rfl), (fun _ => (by kernel_rfl))⟩
def ti4 : TInf := ⟨1, 1, false, none, none, [], none, some (.bool false), some [1], false, true, none, true⟩
theorem tiOk4 : TOk1 Tryz.prog 4 ti4 := ⟨by kernel_rfl, by kernel_rfl, by kernel_rfl, by kernel_rfl, by kernel_rfl, trivial, trivial, (by show zeO Tryz.prog 4 = some _; kernel_rfl), (by show flatEq Tryz.prog 9 4 = some _; kernel_rfl), by kernel_rfl, (fun _ => (by kernel_rfl)), trivial, (fun _ => (by kernel_rfl))⟩
def ti5 : TInf := ⟨1, 1, false, none, none, [], none, some (.int .u8 0), some [0], false, false, some .u8, true⟩
theorem tiOk5 : TOk1 Tryz.prog 5 ti5 := ⟨by kernel_rfl, by kernel_rfl, by kernel_rfl, by kernel_rfl, by kernel_rfl, trivial, trivial, (by show zeO Tryz.prog 5 = some _; kernel_rfl), (by show flatEq Tryz.prog 9 5 = some _; kernel_rfl), by kernel_rfl, (fun h => (by cases h)), (by show Tryz.prog.underlying 5 = some (.int _); kernel_rfl), (fun _ => (by kernel_rfl))⟩
def ti9 : TInf := ⟨1, 16, false, none, none, [], none, some (.str ⟨#[]⟩), some [2], true, false, none, true⟩
theorem tiOk9 : TOk1 Tryz.prog 9 ti9 := ⟨by kernel_rfl, by kernel_rfl, by kernel_rfl, by kernel_rfl, by kernel_rfl, trivial, trivial, (by show zeO Tryz.prog 9 = some _; kernel_rfl), (by show flatEq Tryz.prog 9 9 = some _; kernel_rfl), by kernel_rfl, (fun h => (by cases h)), trivial, (fun _ => (by kernel_rfl))⟩
def ti22 : TInf := ⟨1, 24, false, some (26), none, [], none, some (.sl [] .nil), none, false, false, none, true⟩
theorem tiOk22 : TOk1 Tryz.prog 22 ti22 := ⟨by kernel_rfl, by kernel_rfl, by kernel_rfl, by kernel_rfl, by kernel_rfl, trivial, trivial, (by show zeO Tryz.prog 22 = some _; kernel_rfl), trivial, by kernel_rfl, (fun h => (by cases h)), trivial, (fun _ => (by kernel_rfl))⟩
def ti24 : TInf := ⟨3, 32, true, none, none, [some (0, 3), some (1, 3), some (2, 9)], some [(0, 1), (1, 1), (2, 1)], some (.agg [.int .i64 0, .int .i64 0, .str ⟨#[]⟩]), some [0, 0, 2], false, false, none, true⟩
theorem tiOk24 : TOk1 Tryz.prog 24 ti24 := ⟨by kernel_rfl, by kernel_rfl, by kernel_rfl, by kernel_rfl, by kernel_rfl, ⟨by kernel_rfl, by kernel_rfl, by kernel_rfl, trivial⟩, (by show placesO Tryz.prog 24 = some _; kernel_rfl), (by show zeO Tryz.prog 24 = some _; kernel_rfl), (by show flatEq Tryz.prog 9 24 = some _; kernel_rfl), by kernel_rfl, (fun h => (by cases h)), trivial, (fun _ => (by kernel_rfl))⟩
def ti26 : TInf := ⟨8, 88, true, none, none, [some (0, 3), some (1, 22), some (2, 3), some (3, 3), some (4, 3), some (5, 24)], some [(0, 1), (1, 1), (2, 1), (3, 1), (4, 1), (5, 3)], some (.agg [.int .i64 0, .sl [] .nil, .int .i64 0, .int .i64 0, .int .i64 0, .int .i64 0, .int .i64 0, .str ⟨#[]⟩]), none, false, false, none, true⟩
theorem tiOk26 : TOk1 Tryz.prog 26 ti26 := ⟨by kernel_rfl, by kernel_rfl, by kernel_rfl, by kernel_rfl, by kernel_rfl, ⟨by kernel_rfl, by kernel_rfl, by kernel_rfl, by kernel_rfl, by kernel_rfl, by kernel_rfl, trivial⟩, (by show placesO Tryz.prog 26 = some _; kernel_rfl), (by show zeO Tryz.prog 26 = some _; kernel_rfl), trivial, by kernel_rfl, (fun h => (by cases h)), trivial, (fun _ => (by kernel_rfl))⟩
def ti27 : TInf := ⟨1, 24, false, some (37), none, [], none, some (.sl [] .nil), none, false, false, none, true⟩
theorem tiOk27 : TOk1 Tryz.prog 27 ti27 := ⟨by kernel_rfl, by kernel_rfl, by kernel_rfl, by kernel_rfl, by kernel_rfl, trivial, trivial, (by show zeO Tryz.prog 27 = some _; kernel_rfl), trivial, by kernel_rfl, (fun h => (by cases h)), trivial, (fun _ => (by kernel_rfl))⟩
def ti29 : TInf := ⟨1, 24, true, none, none, [some (0, 27)], some [(0, 1)], some (.agg [.sl [] .nil]), none, false, false, none, true⟩
theorem tiOk29 : TOk1 Tryz.prog 29 ti29 := ⟨by kernel_rfl, by kernel_rfl, by kernel_rfl, by kernel_rfl, by kernel_rfl, ⟨by kernel_rfl, trivial⟩, (by show placesO Tryz.prog 29 = some _; kernel_rfl), (by show zeO Tryz.prog 29 = some _; kernel_rfl), trivial, by kernel_rfl, (fun h => (by cases h)), trivial, (fun _ => (by kernel_rfl))⟩
def ti30 : TInf := ⟨2, 16, true, none, some (2, 3), [], none, some (.agg [.int .i64 0, .int .i64 0]), none, false, false, none, true⟩
theorem tiOk30 : TOk1 Tryz.prog 30 ti30 := ⟨by kernel_rfl, by kernel_rfl, by kernel_rfl, by kernel_rfl, by kernel_rfl, trivial, trivial, (by show zeO Tryz.prog 30 = some _; kernel_rfl), trivial, by kernel_rfl, (fun h => (by cases h)), trivial, (fun _ => (by kernel_rfl))⟩
def ti34 : TInf := ⟨1, 24, false, some (24), none, [], none, some (.sl [] .nil), none, false, false, none, true⟩
theorem tiOk34 : TOk1 Tryz.prog 34 ti34 := ⟨by kernel_rfl, by kernel_rfl, by kernel_rfl, by kernel_rfl, by kernel_rfl, trivial, trivial, (by show zeO Tryz.prog 34 = some _; kernel_rfl), trivial, by kernel_rfl, (fun h => (by cases h)), trivial, (fun _ => (by kernel_rfl))⟩
def ti36 : TInf := ⟨5, 56, true, none, none, [some (0, 3), some (1, 3), some (2, 3), some (3, 3), some (4, 34)], some [(0, 1), (1, 1), (2, 1), (3, 1), (4, 1)], some (.agg [.int .i64 0, .int .i64 0, .int .i64 0, .int .i64 0, .sl [] .nil]), none, false, false, none, true⟩
theorem tiOk36 : TOk1 Tryz.prog 36 ti36 := ⟨by kernel_rfl, by kernel_rfl, by kernel_rfl, by kernel_rfl, by kernel_rfl, ⟨by kernel_rfl, by kernel_rfl, by kernel_rfl, by kernel_rfl, by kernel_rfl, trivial⟩, (by show placesO Tryz.prog 36 = some _; kernel_rfl), (by show zeO Tryz.prog 36 = some _; kernel_rfl), trivial, by kernel_rfl, (fun h => (by cases h)), trivial, (fun _ => (by kernel_rfl))⟩
def ti37 : TInf := ⟨1, 24, false, some (36), none, [], none, some (.sl [] .nil), none, false, false, none, true⟩
theorem tiOk37 : TOk1 Tryz.prog 37 ti37 := ⟨by kernel_rfl, by kernel_rfl, by kernel_rfl, by kernel_rfl, by kernel_rfl, trivial, trivial, (by show zeO Tryz.prog 37 = some _; kernel_rfl), trivial, by kernel_rfl, (fun h => (by cases h)), trivial, (fun _ => (by kernel_rfl))⟩
def ti38 : TInf := ⟨1, 24, false, some (76), none, [], none, some (.sl [] .nil), none, false, false, none, true⟩
theorem tiOk38 : TOk1 Tryz.prog 38 ti38 := ⟨by kernel_rfl, by kernel_rfl, by kernel_rfl, by kernel_rfl, by kernel_rfl, trivial, trivial, (by show zeO Tryz.prog 38 = some _; kernel_rfl), trivial, by kernel_rfl, (fun h => (by cases h)), trivial, (fun _ => (by kernel_rfl))⟩
def ti39 : TInf := ⟨1, 8, false, none, none, [], none, some (.int .i64 0), some [0], false, false, some .i64, true⟩
theorem tiOk39 : TOk1 Tryz.prog 39 ti39 := ⟨by kernel_rfl, by kernel_rfl, by kernel_rfl, by kernel_rfl, by kernel_rfl, trivial, trivial, (by show zeO Tryz.prog 39 = some _; kernel_rfl), (by show flatEq Tryz.prog 9 39 = some _; kernel_rfl), by kernel_rfl, (fun h => (by cases h)), (by show Tryz.prog.underlying 39 = some (.int _); kernel_rfl), (fun _ => (by kernel_rfl))⟩
def ti50 : TInf := ⟨1, 24, false, some (60), none, [], none, some (.sl [] .nil), none, false, false, none, true⟩
theorem tiOk50 : TOk1 Tryz.prog 50 ti50 := ⟨by kernel_rfl, by kernel_rfl, by kernel_rfl, by kernel_rfl, by kernel_rfl, trivial, trivial, (by show zeO Tryz.prog 50 = some _; kernel_rfl), trivial, by kernel_rfl, (fun h => (by cases h)), trivial, (fun _ => (by kernel_rfl))⟩
def ti51 : TInf := ⟨1, 24, false, some (67), none, [], none, some (.sl [] .nil), none, false, false, none, true⟩
theorem tiOk51 : TOk1 Tryz.prog 51 ti51 := ⟨by kernel_rfl, by kernel_rfl, by kernel_rfl, by kernel_rfl, by kernel_rfl, trivial, trivial, (by show zeO Tryz.prog 51 = some _; kernel_rfl), trivial, by kernel_rfl, (fun h => (by cases h)), trivial, (fun _ => (by kernel_rfl))⟩
def ti53 : TInf := ⟨4, 64, true, none, none, [some (0, 3), some (1, 3), some (2, 50), some (3, 51)], some [(0, 1), (1, 1), (2, 1), (3, 1)], some (.agg [.int .i64 0, .int .i64 0, .sl [] .nil, .sl [] .nil]), none, false, false, none, true⟩
theorem tiOk53 : TOk1 Tryz.prog 53 ti53 := ⟨by kernel_rfl, by kernel_rfl, by kernel_rfl, by kernel_rfl, by kernel_rfl, ⟨by kernel_rfl, by kernel_rfl, by kernel_rfl, by kernel_rfl, trivial⟩, (by show placesO Tryz.prog 53 = some _; kernel_rfl), (by show zeO Tryz.prog 53 = some _; kernel_rfl), trivial, by kernel_rfl, (fun h => (by cases h)), trivial, (fun _ => (by kernel_rfl))⟩
def ti55 : TInf := ⟨1, 24, false, some (38), none, [], none, some (.sl [] .nil), none, false, false, none, true⟩
theorem tiOk55 : TOk1 Tryz.prog 55 ti55 := ⟨by kernel_rfl, by kernel_rfl, by kernel_rfl, by kernel_rfl, by kernel_rfl, trivial, trivial, (by show zeO Tryz.prog 55 = some _; kernel_rfl), trivial, by kernel_rfl, (fun h => (by cases h)), trivial, (fun _ => (by kernel_rfl))⟩
def ti58 : TInf := ⟨1, 24, false, some (63), none, [], none, some (.sl [] .nil), none, false, false, none, true⟩
theorem tiOk58 : TOk1 Tryz.prog 58 ti58 := ⟨by kernel_rfl, by kernel_rfl, by kernel_rfl, by kernel_rfl, by kernel_rfl, trivial, trivial, (by show zeO Tryz.prog 58 = some _; kernel_rfl), trivial, by kernel_rfl, (fun h => (by cases h)), trivial, (fun _ => (by kernel_rfl))⟩
def ti60 : TInf := ⟨1, 24, true, none, none, [some (0, 58)], some [(0, 1)], some (.agg [.sl [] .nil]), none, false, false, none, true⟩
theorem tiOk60 : TOk1 Tryz.prog 60 ti60 := ⟨by kernel_rfl, by kernel_rfl, by kernel_rfl, by kernel_rfl, by kernel_rfl, ⟨by kernel_rfl, trivial⟩, (by show placesO Tryz.prog 60 = some _; kernel_rfl), (by show zeO Tryz.prog 60 = some _; kernel_rfl), trivial, by kernel_rfl, (fun h => (by cases h)), trivial, (fun _ => (by kernel_rfl))⟩
def ti63 : TInf := ⟨11, 112, true, none, none, [some (0, 3), some (1, 3), some (2, 3), some (3, 26)], some [(0, 1), (1, 1), (2, 1), (3, 8)], some (.agg [.int .i64 0, .int .i64 0, .int .i64 0, .int .i64 0, .sl [] .nil, .int .i64 0, .int .i64 0, .int .i64 0, .int .i64 0, .int .i64 0, .str ⟨#[]⟩]), none, false, false, none, true⟩
theorem tiOk63 : TOk1 Tryz.prog 63 ti63 := ⟨by kernel_rfl, by kernel_rfl, by kernel_rfl, by kernel_rfl, by kernel_rfl, ⟨by kernel_rfl, by kernel_rfl, by kernel_rfl, by kernel_rfl, trivial⟩, (by show placesO Tryz.prog 63 = some _; kernel_rfl), (by show zeO Tryz.prog 63 = some _; kernel_rfl), trivial, by kernel_rfl, (fun h => (by cases h)), trivial, (fun _ => (by kernel_rfl))⟩
def ti64 : TInf := ⟨1, 24, false, some (3), none, [], none, some (.sl [] .nil), none, false, false, none, true⟩
theorem tiOk64 : TOk1 Tryz.prog 64 ti64 := ⟨by kernel_rfl, by kernel_rfl, by kernel_rfl, by kernel_rfl, by kernel_rfl, trivial, trivial, (by show zeO Tryz.prog 64 = some _; kernel_rfl), trivial, by kernel_rfl, (fun h => (by cases h)), trivial, (fun _ => (by kernel_rfl))⟩
def ti65 : TInf := ⟨1, 24, false, some (135), none, [], none, some (.sl [] .nil), none, false, false, none, true⟩
theorem tiOk65 : TOk1 Tryz.prog 65 ti65 := ⟨by kernel_rfl, by kernel_rfl, by kernel_rfl, by kernel_rfl, by kernel_rfl, trivial, trivial, (by show zeO Tryz.prog 65 = some _; kernel_rfl), trivial, by kernel_rfl, (fun h => (by cases h)), trivial, (fun _ => (by kernel_rfl))⟩
def ti67 : TInf := ⟨17, 240, true, none, none, [some (0, 3), some (1, 3), some (2, 3), some (3, 3), some (4, 26), some (12, 64), some (13, 64), some (14, 22), some (15, 65), some (16, 64)], some [(0, 1), (1, 1), (2, 1), (3, 1), (4, 8), (12, 1), (13, 1), (14, 1), (15, 1), (16, 1)], some (.agg [.int .i64 0, .int .i64 0, .int .i64 0, .int .i64 0, .int .i64 0, .sl [] .nil, .int .i64 0, .int .i64 0, .int .i64 0, .int .i64 0, .int .i64 0, .str ⟨#[]⟩, .sl [] .nil, .sl [] .nil, .sl [] .nil, .sl [] .nil, .sl [] .nil]), none, false, false, none, true⟩
theorem tiOk67 : TOk1 Tryz.prog 67 ti67 := ⟨by kernel_rfl, by kernel_rfl, by kernel_rfl, by kernel_rfl, by kernel_rfl, ⟨by kernel_rfl, by kernel_rfl, by kernel_rfl, by kernel_rfl, by kernel_rfl, by kernel_rfl, by kernel_rfl, by kernel_rfl, by kernel_rfl, by kernel_rfl, trivial⟩, (by show placesO Tryz.prog 67 = some _; kernel_rfl), (by show zeO Tryz.prog 67 = some _; kernel_rfl), trivial, by kernel_rfl, (fun h => (by cases h)), trivial, (fun _ => (by kernel_rfl))⟩
def ti76 : TInf := ⟨3, 24, true, none, none, [some (0, 3), some (1, 3), some (2, 3)], some [(0, 1), (1, 1), (2, 1)], some (.agg [.int .i64 0, .int .i64 0, .int .i64 0]), some [0, 0, 0], false, false, none, true⟩
theorem tiOk76 : TOk1 Tryz.prog 76 ti76 := ⟨by kernel_rfl, by kernel_rfl, by kernel_rfl, by kernel_rfl, by kernel_rfl, ⟨by kernel_rfl, by kernel_rfl, by kernel_rfl, trivial⟩, (by show placesO Tryz.prog 76 = some _; kernel_rfl), (by show zeO Tryz.prog 76 = some _; kernel_rfl), (by show flatEq Tryz.prog 9 76 = some _; kernel_rfl), by kernel_rfl, (fun h => (by cases h)), trivial, (fun _ => (by kernel_rfl))⟩
def ti81 : TInf := ⟨1, 8, false, none, none, [], none, some (.nilmap), none, false, false, none, true⟩
theorem tiOk81 : TOk1 Tryz.prog 81 ti81 := ⟨by kernel_rfl, by kernel_rfl, by kernel_rfl, by kernel_rfl, by kernel_rfl, trivial, trivial, (by show zeO Tryz.prog 81 = some _; kernel_rfl), trivial, by kernel_rfl, (fun h => (by cases h)), trivial, (fun _ => (by kernel_rfl))⟩
def ti89 : TInf := ⟨1, 8, false, none, none, [], none, some (.nilmap), none, false, false, none, true⟩
theorem tiOk89 : TOk1 Tryz.prog 89 ti89 := ⟨by kernel_rfl, by kernel_rfl, by kernel_rfl, by kernel_rfl, by kernel_rfl, trivial, trivial, (by show zeO Tryz.prog 89 = some _; kernel_rfl), trivial, by kernel_rfl, (fun h => (by cases h)), trivial, (fun _ => (by kernel_rfl))⟩
def ti92 : TInf := ⟨8, 96, true, none, none, [some (0, 29), some (1, 3), some (2, 36), some (7, 89)], some [(0, 1), (1, 1), (2, 5), (7, 1)], some (.agg [.sl [] .nil, .int .i64 0, .int .i64 0, .int .i64 0, .int .i64 0, .int .i64 0, .sl [] .nil, .nilmap]), none, false, false, none, true⟩
theorem tiOk92 : TOk1 Tryz.prog 92 ti92 := ⟨by kernel_rfl, by kernel_rfl, by kernel_rfl, by kernel_rfl, by kernel_rfl, ⟨by kernel_rfl, by kernel_rfl, by kernel_rfl, by kernel_rfl, trivial⟩, (by show placesO Tryz.prog 92 = some _; kernel_rfl), (by show zeO Tryz.prog 92 = some _; kernel_rfl), trivial, by kernel_rfl, (fun h => (by cases h)), trivial, (fun _ => (by kernel_rfl))⟩
def ti100 : TInf := ⟨1, 24, false, some (81), none, [], none, some (.sl [] .nil), none, false, false, none, true⟩
theorem tiOk100 : TOk1 Tryz.prog 100 ti100 := ⟨by kernel_rfl, by kernel_rfl, by kernel_rfl, by kernel_rfl, by kernel_rfl, trivial, trivial, (by show zeO Tryz.prog 100 = some _; kernel_rfl), trivial, by kernel_rfl, (fun h => (by cases h)), trivial, (fun _ => (by kernel_rfl))⟩
def ti103 : TInf := ⟨1, 8, false, none, none, [], none, some (.nilf), none, false, false, none, true⟩
theorem tiOk103 : TOk1 Tryz.prog 103 ti103 := ⟨by kernel_rfl, by kernel_rfl, by kernel_rfl, by kernel_rfl, by kernel_rfl, trivial, trivial, (by show zeO Tryz.prog 103 = some _; kernel_rfl), trivial, by kernel_rfl, (fun h => (by cases h)), trivial, (fun _ => (by kernel_rfl))⟩
def ti116 : TInf := ⟨1, 8, false, none, none, [], none, some (.nilf), none, false, false, none, true⟩
theorem tiOk116 : TOk1 Tryz.prog 116 ti116 := ⟨by kernel_rfl, by kernel_rfl, by kernel_rfl, by kernel_rfl, by kernel_rfl, trivial, trivial, (by show zeO Tryz.prog 116 = some _; kernel_rfl), trivial, by kernel_rfl, (fun h => (by cases h)), trivial, (fun _ => (by kernel_rfl))⟩
def ti135 : TInf := ⟨2, 16, true, none, none, [some (0, 3), some (1, 3)], some [(0, 1), (1, 1)], some (.agg [.int .i64 0, .int .i64 0]), some [0, 0], false, false, none, true⟩
theorem tiOk135 : TOk1 Tryz.prog 135 ti135 := ⟨by kernel_rfl, by kernel_rfl, by kernel_rfl, by kernel_rfl, by kernel_rfl, ⟨by kernel_rfl, by kernel_rfl, trivial⟩, (by show placesO Tryz.prog 135 = some _; kernel_rfl), (by show zeO Tryz.prog 135 = some _; kernel_rfl), (by show flatEq Tryz.prog 9 135 = some _; kernel_rfl), by kernel_rfl, (fun h => (by cases h)), trivial, (fun _ => (by kernel_rfl))⟩
def ti140 : TInf := ⟨1, 8, false, none, none, [], none, some (.int .u64 0), some [0], false, false, some .u64, true⟩
theorem tiOk140 : TOk1 Tryz.prog 140 ti140 := ⟨by kernel_rfl, by kernel_rfl, by kernel_rfl, by kernel_rfl, by kernel_rfl, trivial, trivial, (by show zeO Tryz.prog 140 = some _; kernel_rfl), (by show flatEq Tryz.prog 9 140 = some _; kernel_rfl), by kernel_rfl, (fun h => (by cases h)), (by show Tryz.prog.underlying 140 = some (.int _); kernel_rfl), (fun _ => (by kernel_rfl))⟩
def ti143 : TInf := ⟨1, 24, false, some (64), none, [], none, some (.sl [] .nil), none, false, false, none, true⟩
theorem tiOk143 : TOk1 Tryz.prog 143 ti143 := ⟨by kernel_rfl, by kernel_rfl, by kernel_rfl, by kernel_rfl, by kernel_rfl, trivial, trivial, (by show zeO Tryz.prog 143 = some _; kernel_rfl), trivial, by kernel_rfl, (fun h => (by cases h)), trivial, (fun _ => (by kernel_rfl))⟩
def ti147 : TInf := ⟨1, 8, false, none, none, [], none, some (.int .i64 0), some [0], false, false, some .i64, true⟩
theorem tiOk147 : TOk1 Tryz.prog 147 ti147 := ⟨by kernel_rfl, by kernel_rfl, by kernel_rfl, by kernel_rfl, by kernel_rfl, trivial, trivial, (by show zeO Tryz.prog 147 = some _; kernel_rfl), (by show flatEq Tryz.prog 9 147 = some _; kernel_rfl), by kernel_rfl, (fun h => (by cases h)), (by show Tryz.prog.underlying 147 = some (.int _); kernel_rfl), (fun _ => (by kernel_rfl))⟩
def ti154 : TInf := ⟨1, 4, false, none, none, [], none, some (.int .u32 0), some [0], false, false, some .u32, true⟩
theorem tiOk154 : TOk1 Tryz.prog 154 ti154 := ⟨by kernel_rfl, by kernel_rfl, by kernel_rfl, by kernel_rfl, by kernel_rfl, trivial, trivial, (by show zeO Tryz.prog 154 = some _; kernel_rfl), (by show flatEq Tryz.prog 9 154 = some _; kernel_rfl), by kernel_rfl, (fun h => (by cases h)), (by show Tryz.prog.underlying 154 = some (.int _); kernel_rfl), (fun _ => (by kernel_rfl))⟩
def ti156 : TInf := ⟨1, 8, false, none, none, [], none, some (.int .u64 0), some [0], false, false, some .u64, true⟩
theorem tiOk156 : TOk1 Tryz.prog 156 ti156 := ⟨by kernel_rfl, by kernel_rfl, by kernel_rfl, by kernel_rfl, by kernel_rfl, trivial, trivial, (by show zeO Tryz.prog 156 = some _; kernel_rfl), (by show flatEq Tryz.prog 9 156 = some _; kernel_rfl), by kernel_rfl, (fun h => (by cases h)), (by show Tryz.prog.underlying 156 = some (.int _); kernel_rfl), (fun _ => (by kernel_rfl))⟩
def ti159 : TInf := ⟨5, 48, true, none, none, [some (0, 3), some (1, 3), some (2, 24)], some [(0, 1), (1, 1), (2, 3)], some (.agg [.int .i64 0, .int .i64 0, .int .i64 0, .int .i64 0, .str ⟨#[]⟩]), some [0, 0, 0, 0, 2], false, false, none, true⟩
theorem tiOk159 : TOk1 Tryz.prog 159 ti159 := ⟨by kernel_rfl, by kernel_rfl, by kernel_rfl, by kernel_rfl, by kernel_rfl, ⟨by kernel_rfl, by kernel_rfl, by kernel_rfl, trivial⟩, (by show placesO Tryz.prog 159 = some _; kernel_rfl), (by show zeO Tryz.prog 159 = some _; kernel_rfl), (by show flatEq Tryz.prog 9 159 = some _; kernel_rfl), by kernel_rfl, (fun h => (by cases h)), trivial, (fun _ => (by kernel_rfl))⟩
def ti166 : TInf := ⟨1, 8, false, none, none, [], none, some (.int .u64 0), some [0], false, false, some .u64, true⟩
theorem tiOk166 : TOk1 Tryz.prog 166 ti166 := ⟨by kernel_rfl, by kernel_rfl, by kernel_rfl, by kernel_rfl, by kernel_rfl, trivial, trivial, (by show zeO Tryz.prog 166 = some _; kernel_rfl), (by show flatEq Tryz.prog 9 166 = some _; kernel_rfl), by kernel_rfl, (fun h => (by cases h)), (by show Tryz.prog.underlying 166 = some (.int _); kernel_rfl), (fun _ => (by kernel_rfl))⟩
def ti176 : TInf := ⟨1, 8, false, none, none, [], none, some (.nilf), none, false, false, none, true⟩
theorem tiOk176 : TOk1 Tryz.prog 176 ti176 := ⟨by kernel_rfl, by kernel_rfl, by kernel_rfl, by kernel_rfl, by kernel_rfl, trivial, trivial, (by show zeO Tryz.prog 176 = some _; kernel_rfl), trivial, by kernel_rfl, (fun h => (by cases h)), trivial, (fun _ => (by kernel_rfl))⟩
def ti177 : TInf := ⟨6, 48, true, none, some (6, 176), [], none, some (.agg [.nilf, .nilf, .nilf, .nilf, .nilf, .nilf]), none, false, false, none, true⟩
theorem tiOk177 : TOk1 Tryz.prog 177 ti177 := ⟨by kernel_rfl, by kernel_rfl, by kernel_rfl, by kernel_rfl, by kernel_rfl, trivial, trivial, (by show zeO Tryz.prog 177 = some _; kernel_rfl), trivial, by kernel_rfl, (fun h => (by cases h)), trivial, (fun _ => (by kernel_rfl))⟩
def TT : Tbl := [(3, ti3), (4, ti4), (5, ti5), (9, ti9), (22, ti22), (24, ti24), (26, ti26), (27, ti27), (29, ti29), (30, ti30), (34, ti34), (36, ti36), (37, ti37), (38, ti38), (39, ti39), (50, ti50), (51, ti51), (53, ti53), (55, ti55), (58, ti58), (60, ti60), (63, ti63), (64, ti64), (65, ti65), (67, ti67), (76, ti76), (81, ti81), (89, ti89), (92, ti92), (100, ti100), (103, ti103), (116, ti116), (135, ti135), (140, ti140), (143, ti143), (147, ti147), (154, ti154), (156, ti156), (159, ti159), (166, ti166), (176, ti176), (177, ti177)]
theorem okT : TOk Tryz.prog TT := ⟨tiOk3, tiOk4, tiOk5, tiOk9, tiOk22, tiOk24, tiOk26, tiOk27, tiOk29, tiOk30, tiOk34, tiOk36, tiOk37, tiOk38, tiOk39, tiOk50, tiOk51, tiOk53, tiOk55, tiOk58, tiOk60, tiOk63, tiOk64, tiOk65, tiOk67, tiOk76, tiOk81, tiOk89, tiOk92, tiOk100, tiOk103, tiOk116, tiOk135, tiOk140, tiOk143, tiOk147, tiOk154, tiOk156, tiOk159, tiOk166, tiOk176, tiOk177, trivial⟩
end Go.Ab

namespace Go.Ab
structure GValue where
 Kind : Int
 Num : Int
 Text : ByteArray
structure GExpr where
 Op : Int
 Args : List GExpr
 Var : Int
 Field : Int
 Kind : Int
 Value : GValue
structure GEvent where
 Source : Int
 Seq : Int
 Typ : Int
 Time : Int
 Values : List GValue
structure GEnv where
 Vars : List (List GEvent)
structure GS30 where
 E0 : Int
 E1 : Int
structure GNeed where
 Var : Int
 Last : Int
 All : Int
structure GGuard where
 Scope : Int
 Typ : Int
 Var : Int
 Cond : GExpr
structure GState where
 Guards : List GGuard
structure GLimit where
 Scope : Int
 Span : Int
structure GEdge where
 From : Int
 To : Int
 Var : Int
 Typ : Int
 Cond : GExpr
 Opens : List Int
 Closes : List Int
 Checks : List GExpr
 Limits : List GLimit
 Inside : List Int
structure GAutomaton where
 Vars : Int
 Scopes : Int
 States : List GState
 Edges : List GEdge
structure Gexpr_evaluator where
 env : GEnv
 own : Int
 event : GEvent
 apply : Unit
structure GAccumulator where
 Kind : Int
 Count : Int
 Value : GValue
end Go.Ab

namespace Go.Ab
variable [Ar]
def fmK89 : List Int := [5, 6, 7, 8, 10, 11, 12]
def fmX89 : List V := [.func (.func 53) [] [.eref [.func (.func 52) [] []] 0], .func (.func 54) [] [.eref [.func (.func 52) [] []] 0], .func (.func 55) [] [], .func (.func 56) [] [], .func (.func 57) [] [], .func (.func 58) [] [], .func (.func 59) [] []]
class Encs where
 eGValue : GValue → V
 eGExpr : GExpr → V
 eGEvent : GEvent → V
 eGEnv : GEnv → V
 eGS30 : GS30 → V
 eGNeed : GNeed → V
 eGGuard : GGuard → V
 eGState : GState → V
 eGLimit : GLimit → V
 eGEdge : GEdge → V
 eGAutomaton : GAutomaton → V
 eGexpr_evaluator : Gexpr_evaluator → V
 eGAccumulator : GAccumulator → V
 eLGEvent : List GEvent → V
 eLGNeed : List GNeed → V
 eLI : List Int → V
 eGValue_eq : ∀ x, eGValue x = .agg [.int .i64 x.Kind, .int .i64 x.Num, .str x.Text]
 eGExpr_eq : ∀ x, eGExpr x = .agg [.int .i64 x.Op, .sl (Ar.lst eGExpr x.Args) .ro, .int .i64 x.Var, .int .i64 x.Field, .int .i64 x.Kind, .int .i64 x.Value.Kind, .int .i64 x.Value.Num, .str x.Value.Text]
 eGEvent_eq : ∀ x, eGEvent x = .agg [.int .i64 x.Source, .int .i64 x.Seq, .int .i64 x.Typ, .int .i64 x.Time, .sl (Ar.lst eGValue x.Values) .ro]
 eGEnv_eq : ∀ x, eGEnv x = .agg [.sl (Ar.lst eLGEvent x.Vars) .ro]
 eGS30_eq : ∀ x, eGS30 x = .agg [.int .i64 x.E0, .int .i64 x.E1]
 eGNeed_eq : ∀ x, eGNeed x = .agg [.int .i64 x.Var, .int .i64 x.Last, .int .i64 x.All]
 eGGuard_eq : ∀ x, eGGuard x = .agg [.int .i64 x.Scope, .int .i64 x.Typ, .int .i64 x.Var, .int .i64 x.Cond.Op, .sl (Ar.lst eGExpr x.Cond.Args) .ro, .int .i64 x.Cond.Var, .int .i64 x.Cond.Field, .int .i64 x.Cond.Kind, .int .i64 x.Cond.Value.Kind, .int .i64 x.Cond.Value.Num, .str x.Cond.Value.Text]
 eGState_eq : ∀ x, eGState x = .agg [.sl (Ar.lst eGGuard x.Guards) .ro]
 eGLimit_eq : ∀ x, eGLimit x = .agg [.int .i64 x.Scope, .int .i64 x.Span]
 eGEdge_eq : ∀ x, eGEdge x = .agg [.int .i64 x.From, .int .i64 x.To, .int .i64 x.Var, .int .i64 x.Typ, .int .i64 x.Cond.Op, .sl (Ar.lst eGExpr x.Cond.Args) .ro, .int .i64 x.Cond.Var, .int .i64 x.Cond.Field, .int .i64 x.Cond.Kind, .int .i64 x.Cond.Value.Kind, .int .i64 x.Cond.Value.Num, .str x.Cond.Value.Text, .sl (Ar.lst (V.int .i64) x.Opens) .ro, .sl (Ar.lst (V.int .i64) x.Closes) .ro, .sl (Ar.lst eGExpr x.Checks) .ro, .sl (Ar.lst eGLimit x.Limits) .ro, .sl (Ar.lst (V.int .i64) x.Inside) .ro]
 eGAutomaton_eq : ∀ x, eGAutomaton x = .agg [.int .i64 x.Vars, .int .i64 x.Scopes, .sl (Ar.lst eGState x.States) .ro, .sl (Ar.lst eGEdge x.Edges) .ro]
 eGexpr_evaluator_eq : ∀ x, eGexpr_evaluator x = .agg [.sl (Ar.lst eLGEvent x.env.Vars) .ro, .int .i64 x.own, .int .i64 x.event.Source, .int .i64 x.event.Seq, .int .i64 x.event.Typ, .int .i64 x.event.Time, .sl (Ar.lst eGValue x.event.Values) .ro, .fmap fmK89 fmX89]
 eGAccumulator_eq : ∀ x, eGAccumulator x = .agg [.int .i64 x.Kind, .int .i64 x.Count, .int .i64 x.Value.Kind, .int .i64 x.Value.Num, .str x.Value.Text]
 eLGEvent_eq : ∀ x, eLGEvent x = .sl (Ar.lst eGEvent x) .ro
 eLGNeed_eq : ∀ x, eLGNeed x = .sl (Ar.lst eGNeed x) .ro
 eLI_eq : ∀ x, eLI x = .sl (Ar.lst (V.int .i64) x) .ro
theorem sz_GValue [Encs] (x : GValue) : (Encs.eGValue x).cells.length = 3 := by rw [Encs.eGValue_eq]; rfl
theorem sz_GEvent [Encs] (x : GEvent) : (Encs.eGEvent x).cells.length = 5 := by rw [Encs.eGEvent_eq]; rfl
theorem sz_GNeed [Encs] (x : GNeed) : (Encs.eGNeed x).cells.length = 3 := by rw [Encs.eGNeed_eq]; rfl
theorem sz_GGuard [Encs] (x : GGuard) : (Encs.eGGuard x).cells.length = 11 := by rw [Encs.eGGuard_eq]; rfl
theorem sz_LGEvent [Encs] (x : List GEvent) : (Encs.eLGEvent x).cells.length = 1 := by rw [Encs.eLGEvent_eq]; rfl
theorem sz_LGNeed [Encs] (x : List GNeed) : (Encs.eLGNeed x).cells.length = 1 := by rw [Encs.eLGNeed_eq]; rfl
end Go.Ab

