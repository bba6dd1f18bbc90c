/- GPTypes GPTy GPEn -/
import Derived.Test.YtpapabjndpgcnaaGreatT21
import Derived.KernelRfl
import Derived.Test.YtpapabjndpgcnaaGreatChecked
import Derived.Test.YtpapabjndpgcnaaGreatT24
set_option linter.all false

namespace Go.Ab
open Go.RowKit Go.Proofs
set_option maxRecDepth 100000
def ti3 : TInf := ⟨1, 8, false, none, none, [], none, some (.int .i64 0), some [0], false, false, some .i64, true⟩
theorem tiOk3 : TOk1 Tryz.prog 3 ti3 := ⟨by kernel_rfl, by kernel_rfl, by kernel_rfl, by kernel_rfl, by kernel_rfl, trivial, trivial, (by show zeO Tryz.prog 3 = some _; kernel_rfl), (by show flatEq Tryz.prog 9 3 = some _; kernel_rfl), by kernel_rfl, (fun h => (by cases h)), (by show Tryz.prog.underlying 3 = some (.int _); kernel_rfl), (fun _ => (by kernel_rfl))⟩
def ti4 : TInf := ⟨1, 1, false, none, none, [], none, some (.bool false), some [1], false, true, none, true⟩
theorem tiOk4 : TOk1 Tryz.prog 4 ti4 := ⟨by kernel_rfl, by kernel_rfl, by kernel_rfl, by kernel_rfl, by kernel_rfl, trivial, trivial, (by show zeO Tryz.prog 4 = some _; kernel_rfl), (by show flatEq Tryz.prog 9 4 = some _; kernel_rfl), by kernel_rfl, (fun _ => (by kernel_rfl)), trivial, (fun _ => (by kernel_rfl))⟩
def ti5 : TInf := ⟨1, 1, false, none, none, [], none, some (.int .u8 0), some [0], false, false, some .u8, true⟩
theorem tiOk5 : TOk1 Tryz.prog 5 ti5 := ⟨by kernel_rfl, by kernel_rfl, by kernel_rfl, by kernel_rfl, by kernel_rfl, trivial, trivial, (by show zeO Tryz.prog 5 = some _; kernel_rfl), (by show flatEq Tryz.prog 9 5 = some _; kernel_rfl), by kernel_rfl, (fun h => (by cases h)), (by show Tryz.prog.underlying 5 = some (.int _); kernel_rfl), (fun _ => (by kernel_rfl))⟩
def ti9 : TInf := ⟨1, 16, false, none, none, [], none, some (.str ⟨#[]⟩), some [2], true, false, none, true⟩
theorem tiOk9 : TOk1 Tryz.prog 9 ti9 := ⟨by kernel_rfl, by kernel_rfl, by kernel_rfl, by kernel_rfl, by kernel_rfl, trivial, trivial, (by show zeO Tryz.prog 9 = some _; kernel_rfl), (by show flatEq Tryz.prog 9 9 = some _; kernel_rfl), by kernel_rfl, (fun h => (by cases h)), trivial, (fun _ => (by kernel_rfl))⟩
def ti22 : TInf := ⟨1, 24, false, some (26), none, [], none, some (.sl [] .nil), none, false, false, none, true⟩
theorem tiOk22 : TOk1 Tryz.prog 22 ti22 := ⟨by kernel_rfl, by kernel_rfl, by kernel_rfl, by kernel_rfl, by kernel_rfl, trivial, trivial, (by show zeO Tryz.prog 22 = some _; kernel_rfl), trivial, by kernel_rfl, (fun h => (by cases h)), trivial, (fun _ => (by kernel_rfl))⟩
def ti24 : TInf := ⟨1, 24, false, some (87), none, [], none, some (.sl [] .nil), none, false, false, none, true⟩
theorem tiOk24 : TOk1 Tryz.prog 24 ti24 := ⟨by kernel_rfl, by kernel_rfl, by kernel_rfl, by kernel_rfl, by kernel_rfl, trivial, trivial, (by show zeO Tryz.prog 24 = some _; kernel_rfl), trivial, by kernel_rfl, (fun h => (by cases h)), trivial, (fun _ => (by kernel_rfl))⟩
def ti26 : TInf := ⟨1, 24, true, none, none, [some (0, 24)], some [(0, 1)], some (.agg [.sl [] .nil]), none, false, false, none, true⟩
theorem tiOk26 : TOk1 Tryz.prog 26 ti26 := ⟨by kernel_rfl, by kernel_rfl, by kernel_rfl, by kernel_rfl, by kernel_rfl, ⟨by kernel_rfl, trivial⟩, (by show placesO Tryz.prog 26 = some _; kernel_rfl), (by show zeO Tryz.prog 26 = some _; kernel_rfl), trivial, by kernel_rfl, (fun h => (by cases h)), trivial, (fun _ => (by kernel_rfl))⟩
def ti29 : TInf := ⟨1, 8, false, none, none, [], none, some (.int .i64 0), some [0], false, false, some .i64, true⟩
theorem tiOk29 : TOk1 Tryz.prog 29 ti29 := ⟨by kernel_rfl, by kernel_rfl, by kernel_rfl, by kernel_rfl, by kernel_rfl, trivial, trivial, (by show zeO Tryz.prog 29 = some _; kernel_rfl), (by show flatEq Tryz.prog 9 29 = some _; kernel_rfl), by kernel_rfl, (fun h => (by cases h)), (by show Tryz.prog.underlying 29 = some (.int _); kernel_rfl), (fun _ => (by kernel_rfl))⟩
def ti44 : TInf := ⟨2, 16, true, none, none, [some (0, 3), some (1, 3)], some [(0, 1), (1, 1)], some (.agg [.int .i64 0, .int .i64 0]), some [0, 0], false, false, none, true⟩
theorem tiOk44 : TOk1 Tryz.prog 44 ti44 := ⟨by kernel_rfl, by kernel_rfl, by kernel_rfl, by kernel_rfl, by kernel_rfl, ⟨by kernel_rfl, by kernel_rfl, trivial⟩, (by show placesO Tryz.prog 44 = some _; kernel_rfl), (by show zeO Tryz.prog 44 = some _; kernel_rfl), (by show flatEq Tryz.prog 9 44 = some _; kernel_rfl), by kernel_rfl, (fun h => (by cases h)), trivial, (fun _ => (by kernel_rfl))⟩
def ti64 : TInf := ⟨1, 24, false, some (65), none, [], none, some (.sl [] .nil), none, false, false, none, true⟩
theorem tiOk64 : TOk1 Tryz.prog 64 ti64 := ⟨by kernel_rfl, by kernel_rfl, by kernel_rfl, by kernel_rfl, by kernel_rfl, trivial, trivial, (by show zeO Tryz.prog 64 = some _; kernel_rfl), trivial, by kernel_rfl, (fun h => (by cases h)), trivial, (fun _ => (by kernel_rfl))⟩
def ti65 : TInf := ⟨1, 24, false, some (4), none, [], none, some (.sl [] .nil), none, false, false, none, true⟩
theorem tiOk65 : TOk1 Tryz.prog 65 ti65 := ⟨by kernel_rfl, by kernel_rfl, by kernel_rfl, by kernel_rfl, by kernel_rfl, trivial, trivial, (by show zeO Tryz.prog 65 = some _; kernel_rfl), trivial, by kernel_rfl, (fun h => (by cases h)), trivial, (fun _ => (by kernel_rfl))⟩
def ti70 : TInf := ⟨1, 24, false, some (104), none, [], none, some (.sl [] .nil), none, false, false, none, true⟩
theorem tiOk70 : TOk1 Tryz.prog 70 ti70 := ⟨by kernel_rfl, by kernel_rfl, by kernel_rfl, by kernel_rfl, by kernel_rfl, trivial, trivial, (by show zeO Tryz.prog 70 = some _; kernel_rfl), trivial, by kernel_rfl, (fun h => (by cases h)), trivial, (fun _ => (by kernel_rfl))⟩
def ti71 : TInf := ⟨1, 24, false, some (75), none, [], none, some (.sl [] .nil), none, false, false, none, true⟩
theorem tiOk71 : TOk1 Tryz.prog 71 ti71 := ⟨by kernel_rfl, by kernel_rfl, by kernel_rfl, by kernel_rfl, by kernel_rfl, trivial, trivial, (by show zeO Tryz.prog 71 = some _; kernel_rfl), trivial, by kernel_rfl, (fun h => (by cases h)), trivial, (fun _ => (by kernel_rfl))⟩
def ti73 : TInf := ⟨3, 32, true, none, none, [some (0, 3), some (1, 3), some (2, 9)], some [(0, 1), (1, 1), (2, 1)], some (.agg [.int .i64 0, .int .i64 0, .str ⟨#[]⟩]), some [0, 0, 2], false, false, none, true⟩
theorem tiOk73 : TOk1 Tryz.prog 73 ti73 := ⟨by kernel_rfl, by kernel_rfl, by kernel_rfl, by kernel_rfl, by kernel_rfl, ⟨by kernel_rfl, by kernel_rfl, by kernel_rfl, trivial⟩, (by show placesO Tryz.prog 73 = some _; kernel_rfl), (by show zeO Tryz.prog 73 = some _; kernel_rfl), (by show flatEq Tryz.prog 9 73 = some _; kernel_rfl), by kernel_rfl, (fun h => (by cases h)), trivial, (fun _ => (by kernel_rfl))⟩
def ti75 : TInf := ⟨8, 88, true, none, none, [some (0, 3), some (1, 71), some (2, 3), some (3, 3), some (4, 3), some (5, 73)], some [(0, 1), (1, 1), (2, 1), (3, 1), (4, 1), (5, 3)], some (.agg [.int .i64 0, .sl [] .nil, .int .i64 0, .int .i64 0, .int .i64 0, .int .i64 0, .int .i64 0, .str ⟨#[]⟩]), none, false, false, none, true⟩
theorem tiOk75 : TOk1 Tryz.prog 75 ti75 := ⟨by kernel_rfl, by kernel_rfl, by kernel_rfl, by kernel_rfl, by kernel_rfl, ⟨by kernel_rfl, by kernel_rfl, by kernel_rfl, by kernel_rfl, by kernel_rfl, by kernel_rfl, trivial⟩, (by show placesO Tryz.prog 75 = some _; kernel_rfl), (by show zeO Tryz.prog 75 = some _; kernel_rfl), trivial, by kernel_rfl, (fun h => (by cases h)), trivial, (fun _ => (by kernel_rfl))⟩
def ti76 : TInf := ⟨1, 24, false, some (73), none, [], none, some (.sl [] .nil), none, false, false, none, true⟩
theorem tiOk76 : TOk1 Tryz.prog 76 ti76 := ⟨by kernel_rfl, by kernel_rfl, by kernel_rfl, by kernel_rfl, by kernel_rfl, trivial, trivial, (by show zeO Tryz.prog 76 = some _; kernel_rfl), trivial, by kernel_rfl, (fun h => (by cases h)), trivial, (fun _ => (by kernel_rfl))⟩
def ti78 : TInf := ⟨5, 56, true, none, none, [some (0, 3), some (1, 3), some (2, 3), some (3, 3), some (4, 76)], some [(0, 1), (1, 1), (2, 1), (3, 1), (4, 1)], some (.agg [.int .i64 0, .int .i64 0, .int .i64 0, .int .i64 0, .sl [] .nil]), none, false, false, none, true⟩
theorem tiOk78 : TOk1 Tryz.prog 78 ti78 := ⟨by kernel_rfl, by kernel_rfl, by kernel_rfl, by kernel_rfl, by kernel_rfl, ⟨by kernel_rfl, by kernel_rfl, by kernel_rfl, by kernel_rfl, by kernel_rfl, trivial⟩, (by show placesO Tryz.prog 78 = some _; kernel_rfl), (by show zeO Tryz.prog 78 = some _; kernel_rfl), trivial, by kernel_rfl, (fun h => (by cases h)), trivial, (fun _ => (by kernel_rfl))⟩
def ti80 : TInf := ⟨15, 160, true, none, none, [some (0, 3), some (1, 3), some (2, 75), some (10, 78)], some [(0, 1), (1, 1), (2, 8), (10, 5)], some (.agg [.int .i64 0, .int .i64 0, .int .i64 0, .sl [] .nil, .int .i64 0, .int .i64 0, .int .i64 0, .int .i64 0, .int .i64 0, .str ⟨#[]⟩, .int .i64 0, .int .i64 0, .int .i64 0, .int .i64 0, .sl [] .nil]), none, false, false, none, true⟩
theorem tiOk80 : TOk1 Tryz.prog 80 ti80 := ⟨by kernel_rfl, by kernel_rfl, by kernel_rfl, by kernel_rfl, by kernel_rfl, ⟨by kernel_rfl, by kernel_rfl, by kernel_rfl, by kernel_rfl, trivial⟩, (by show placesO Tryz.prog 80 = some _; kernel_rfl), (by show zeO Tryz.prog 80 = some _; kernel_rfl), trivial, by kernel_rfl, (fun h => (by cases h)), trivial, (fun _ => (by kernel_rfl))⟩
def ti87 : TInf := ⟨1, 24, false, some (90), none, [], none, some (.sl [] .nil), none, false, false, none, true⟩
theorem tiOk87 : TOk1 Tryz.prog 87 ti87 := ⟨by kernel_rfl, by kernel_rfl, by kernel_rfl, by kernel_rfl, by kernel_rfl, trivial, trivial, (by show zeO Tryz.prog 87 = some _; kernel_rfl), trivial, by kernel_rfl, (fun h => (by cases h)), trivial, (fun _ => (by kernel_rfl))⟩
def ti90 : TInf := ⟨2, 16, true, none, none, [some (0, 3), some (1, 3)], some [(0, 1), (1, 1)], some (.agg [.int .i64 0, .int .i64 0]), some [0, 0], false, false, none, true⟩
theorem tiOk90 : TOk1 Tryz.prog 90 ti90 := ⟨by kernel_rfl, by kernel_rfl, by kernel_rfl, by kernel_rfl, by kernel_rfl, ⟨by kernel_rfl, by kernel_rfl, trivial⟩, (by show placesO Tryz.prog 90 = some _; kernel_rfl), (by show zeO Tryz.prog 90 = some _; kernel_rfl), (by show flatEq Tryz.prog 9 90 = some _; kernel_rfl), by kernel_rfl, (fun h => (by cases h)), trivial, (fun _ => (by kernel_rfl))⟩
def ti94 : TInf := ⟨1, 24, false, some (242), none, [], none, some (.sl [] .nil), none, false, false, none, true⟩
theorem tiOk94 : TOk1 Tryz.prog 94 ti94 := ⟨by kernel_rfl, by kernel_rfl, by kernel_rfl, by kernel_rfl, by kernel_rfl, trivial, trivial, (by show zeO Tryz.prog 94 = some _; kernel_rfl), trivial, by kernel_rfl, (fun h => (by cases h)), trivial, (fun _ => (by kernel_rfl))⟩
def ti96 : TInf := ⟨1, 24, true, none, none, [some (0, 94)], some [(0, 1)], some (.agg [.sl [] .nil]), none, false, false, none, true⟩
theorem tiOk96 : TOk1 Tryz.prog 96 ti96 := ⟨by kernel_rfl, by kernel_rfl, by kernel_rfl, by kernel_rfl, by kernel_rfl, ⟨by kernel_rfl, trivial⟩, (by show placesO Tryz.prog 96 = some _; kernel_rfl), (by show zeO Tryz.prog 96 = some _; kernel_rfl), trivial, by kernel_rfl, (fun h => (by cases h)), trivial, (fun _ => (by kernel_rfl))⟩
def ti101 : TInf := ⟨2, 24, true, none, none, [some (0, 9), some (1, 3)], some [(0, 1), (1, 1)], some (.agg [.str ⟨#[]⟩, .int .i64 0]), some [2, 0], false, false, none, true⟩
theorem tiOk101 : TOk1 Tryz.prog 101 ti101 := ⟨by kernel_rfl, by kernel_rfl, by kernel_rfl, by kernel_rfl, by kernel_rfl, ⟨by kernel_rfl, by kernel_rfl, trivial⟩, (by show placesO Tryz.prog 101 = some _; kernel_rfl), (by show zeO Tryz.prog 101 = some _; kernel_rfl), (by show flatEq Tryz.prog 9 101 = some _; kernel_rfl), by kernel_rfl, (fun h => (by cases h)), trivial, (fun _ => (by kernel_rfl))⟩
def ti102 : TInf := ⟨1, 24, false, some (101), none, [], none, some (.sl [] .nil), none, false, false, none, true⟩
theorem tiOk102 : TOk1 Tryz.prog 102 ti102 := ⟨by kernel_rfl, by kernel_rfl, by kernel_rfl, by kernel_rfl, by kernel_rfl, trivial, trivial, (by show zeO Tryz.prog 102 = some _; kernel_rfl), trivial, by kernel_rfl, (fun h => (by cases h)), trivial, (fun _ => (by kernel_rfl))⟩
def ti104 : TInf := ⟨2, 40, true, none, none, [some (0, 9), some (1, 102)], some [(0, 1), (1, 1)], some (.agg [.str ⟨#[]⟩, .sl [] .nil]), none, false, false, none, true⟩
theorem tiOk104 : TOk1 Tryz.prog 104 ti104 := ⟨by kernel_rfl, by kernel_rfl, by kernel_rfl, by kernel_rfl, by kernel_rfl, ⟨by kernel_rfl, by kernel_rfl, trivial⟩, (by show placesO Tryz.prog 104 = some _; kernel_rfl), (by show zeO Tryz.prog 104 = some _; kernel_rfl), trivial, by kernel_rfl, (fun h => (by cases h)), trivial, (fun _ => (by kernel_rfl))⟩
def ti107 : TInf := ⟨1, 8, false, none, none, [], none, some (.nilmap), none, false, false, none, true⟩
theorem tiOk107 : TOk1 Tryz.prog 107 ti107 := ⟨by kernel_rfl, by kernel_rfl, by kernel_rfl, by kernel_rfl, by kernel_rfl, trivial, trivial, (by show zeO Tryz.prog 107 = some _; kernel_rfl), trivial, by kernel_rfl, (fun h => (by cases h)), trivial, (fun _ => (by kernel_rfl))⟩
def ti108 : TInf := ⟨1, 24, false, some (3), none, [], none, some (.sl [] .nil), none, false, false, none, true⟩
theorem tiOk108 : TOk1 Tryz.prog 108 ti108 := ⟨by kernel_rfl, by kernel_rfl, by kernel_rfl, by kernel_rfl, by kernel_rfl, trivial, trivial, (by show zeO Tryz.prog 108 = some _; kernel_rfl), trivial, by kernel_rfl, (fun h => (by cases h)), trivial, (fun _ => (by kernel_rfl))⟩
def ti115 : TInf := ⟨1, 8, false, none, none, [], none, some (.nilf), none, false, false, none, true⟩
theorem tiOk115 : TOk1 Tryz.prog 115 ti115 := ⟨by kernel_rfl, by kernel_rfl, by kernel_rfl, by kernel_rfl, by kernel_rfl, trivial, trivial, (by show zeO Tryz.prog 115 = some _; kernel_rfl), trivial, by kernel_rfl, (fun h => (by cases h)), trivial, (fun _ => (by kernel_rfl))⟩
def ti141 : TInf := ⟨1, 24, false, some (144), none, [], none, some (.sl [] .nil), none, false, false, none, true⟩
theorem tiOk141 : TOk1 Tryz.prog 141 ti141 := ⟨by kernel_rfl, by kernel_rfl, by kernel_rfl, by kernel_rfl, by kernel_rfl, trivial, trivial, (by show zeO Tryz.prog 141 = some _; kernel_rfl), trivial, by kernel_rfl, (fun h => (by cases h)), trivial, (fun _ => (by kernel_rfl))⟩
def ti144 : TInf := ⟨2, 24, true, none, none, [some (0, 9), some (1, 3)], some [(0, 1), (1, 1)], some (.agg [.str ⟨#[]⟩, .int .i64 0]), some [2, 0], false, false, none, true⟩
theorem tiOk144 : TOk1 Tryz.prog 144 ti144 := ⟨by kernel_rfl, by kernel_rfl, by kernel_rfl, by kernel_rfl, by kernel_rfl, ⟨by kernel_rfl, by kernel_rfl, trivial⟩, (by show placesO Tryz.prog 144 = some _; kernel_rfl), (by show zeO Tryz.prog 144 = some _; kernel_rfl), (by show flatEq Tryz.prog 9 144 = some _; kernel_rfl), by kernel_rfl, (fun h => (by cases h)), trivial, (fun _ => (by kernel_rfl))⟩
def ti159 : TInf := ⟨1, 24, false, some (5), none, [], none, some (.sl [] .nil), none, false, false, none, true⟩
theorem tiOk159 : TOk1 Tryz.prog 159 ti159 := ⟨by kernel_rfl, by kernel_rfl, by kernel_rfl, by kernel_rfl, by kernel_rfl, trivial, trivial, (by show zeO Tryz.prog 159 = some _; kernel_rfl), trivial, by kernel_rfl, (fun h => (by cases h)), trivial, (fun _ => (by kernel_rfl))⟩
def ti170 : TInf := ⟨1, 8, false, none, none, [], none, some (.nilmap), none, false, false, none, true⟩
theorem tiOk170 : TOk1 Tryz.prog 170 ti170 := ⟨by kernel_rfl, by kernel_rfl, by kernel_rfl, by kernel_rfl, by kernel_rfl, trivial, trivial, (by show zeO Tryz.prog 170 = some _; kernel_rfl), trivial, by kernel_rfl, (fun h => (by cases h)), trivial, (fun _ => (by kernel_rfl))⟩
def ti174 : TInf := ⟨2, 48, true, none, none, [some (0, 70), some (1, 141)], some [(0, 1), (1, 1)], some (.agg [.sl [] .nil, .sl [] .nil]), none, false, false, none, true⟩
theorem tiOk174 : TOk1 Tryz.prog 174 ti174 := ⟨by kernel_rfl, by kernel_rfl, by kernel_rfl, by kernel_rfl, by kernel_rfl, ⟨by kernel_rfl, by kernel_rfl, trivial⟩, (by show placesO Tryz.prog 174 = some _; kernel_rfl), (by show zeO Tryz.prog 174 = some _; kernel_rfl), trivial, by kernel_rfl, (fun h => (by cases h)), trivial, (fun _ => (by kernel_rfl))⟩
def ti176 : TInf := ⟨1, 8, false, none, none, [], none, some (.int .u64 0), some [0], false, false, some .u64, true⟩
theorem tiOk176 : TOk1 Tryz.prog 176 ti176 := ⟨by kernel_rfl, by kernel_rfl, by kernel_rfl, by kernel_rfl, by kernel_rfl, trivial, trivial, (by show zeO Tryz.prog 176 = some _; kernel_rfl), (by show flatEq Tryz.prog 9 176 = some _; kernel_rfl), by kernel_rfl, (fun h => (by cases h)), (by show Tryz.prog.underlying 176 = some (.int _); kernel_rfl), (fun _ => (by kernel_rfl))⟩
def ti180 : TInf := ⟨2, 16, true, none, none, [some (0, 3), some (1, 3)], some [(0, 1), (1, 1)], some (.agg [.int .i64 0, .int .i64 0]), some [0, 0], false, false, none, true⟩
theorem tiOk180 : TOk1 Tryz.prog 180 ti180 := ⟨by kernel_rfl, by kernel_rfl, by kernel_rfl, by kernel_rfl, by kernel_rfl, ⟨by kernel_rfl, by kernel_rfl, trivial⟩, (by show placesO Tryz.prog 180 = some _; kernel_rfl), (by show zeO Tryz.prog 180 = some _; kernel_rfl), (by show flatEq Tryz.prog 9 180 = some _; kernel_rfl), by kernel_rfl, (fun h => (by cases h)), trivial, (fun _ => (by kernel_rfl))⟩
def ti191 : TInf := ⟨1, 8, false, none, none, [], none, some (.nilmap), none, false, false, none, true⟩
theorem tiOk191 : TOk1 Tryz.prog 191 ti191 := ⟨by kernel_rfl, by kernel_rfl, by kernel_rfl, by kernel_rfl, by kernel_rfl, trivial, trivial, (by show zeO Tryz.prog 191 = some _; kernel_rfl), trivial, by kernel_rfl, (fun h => (by cases h)), trivial, (fun _ => (by kernel_rfl))⟩
def ti194 : TInf := ⟨8, 96, true, none, none, [some (0, 96), some (1, 3), some (2, 78), some (7, 191)], some [(0, 1), (1, 1), (2, 5), (7, 1)], some (.agg [.sl [] .nil, .int .i64 0, .int .i64 0, .int .i64 0, .int .i64 0, .int .i64 0, .sl [] .nil, .nilmap]), none, false, false, none, true⟩
theorem tiOk194 : TOk1 Tryz.prog 194 ti194 := ⟨by kernel_rfl, by kernel_rfl, by kernel_rfl, by kernel_rfl, by kernel_rfl, ⟨by kernel_rfl, by kernel_rfl, by kernel_rfl, by kernel_rfl, trivial⟩, (by show placesO Tryz.prog 194 = some _; kernel_rfl), (by show zeO Tryz.prog 194 = some _; kernel_rfl), trivial, by kernel_rfl, (fun h => (by cases h)), trivial, (fun _ => (by kernel_rfl))⟩
def ti208 : TInf := ⟨1, 4, false, none, none, [], none, some (.int .u32 0), some [0], false, false, some .u32, true⟩
theorem tiOk208 : TOk1 Tryz.prog 208 ti208 := ⟨by kernel_rfl, by kernel_rfl, by kernel_rfl, by kernel_rfl, by kernel_rfl, trivial, trivial, (by show zeO Tryz.prog 208 = some _; kernel_rfl), (by show flatEq Tryz.prog 9 208 = some _; kernel_rfl), by kernel_rfl, (fun h => (by cases h)), (by show Tryz.prog.underlying 208 = some (.int _); kernel_rfl), (fun _ => (by kernel_rfl))⟩
def ti211 : TInf := ⟨1, 8, false, none, none, [], none, some (.int .u64 0), some [0], false, false, some .u64, true⟩
theorem tiOk211 : TOk1 Tryz.prog 211 ti211 := ⟨by kernel_rfl, by kernel_rfl, by kernel_rfl, by kernel_rfl, by kernel_rfl, trivial, trivial, (by show zeO Tryz.prog 211 = some _; kernel_rfl), (by show flatEq Tryz.prog 9 211 = some _; kernel_rfl), by kernel_rfl, (fun h => (by cases h)), (by show Tryz.prog.underlying 211 = some (.int _); kernel_rfl), (fun _ => (by kernel_rfl))⟩
def ti222 : TInf := ⟨1, 8, false, none, none, [], none, some (.nilf), none, false, false, none, true⟩
theorem tiOk222 : TOk1 Tryz.prog 222 ti222 := ⟨by kernel_rfl, by kernel_rfl, by kernel_rfl, by kernel_rfl, by kernel_rfl, trivial, trivial, (by show zeO Tryz.prog 222 = some _; kernel_rfl), trivial, by kernel_rfl, (fun h => (by cases h)), trivial, (fun _ => (by kernel_rfl))⟩
def ti225 : TInf := ⟨1, 8, false, none, none, [], none, some (.int .i64 0), some [0], false, false, some .i64, true⟩
theorem tiOk225 : TOk1 Tryz.prog 225 ti225 := ⟨by kernel_rfl, by kernel_rfl, by kernel_rfl, by kernel_rfl, by kernel_rfl, trivial, trivial, (by show zeO Tryz.prog 225 = some _; kernel_rfl), (by show flatEq Tryz.prog 9 225 = some _; kernel_rfl), by kernel_rfl, (fun h => (by cases h)), (by show Tryz.prog.underlying 225 = some (.int _); kernel_rfl), (fun _ => (by kernel_rfl))⟩
def ti242 : TInf := ⟨1, 24, false, some (78), none, [], none, some (.sl [] .nil), none, false, false, none, true⟩
theorem tiOk242 : TOk1 Tryz.prog 242 ti242 := ⟨by kernel_rfl, by kernel_rfl, by kernel_rfl, by kernel_rfl, by kernel_rfl, trivial, trivial, (by show zeO Tryz.prog 242 = some _; kernel_rfl), trivial, by kernel_rfl, (fun h => (by cases h)), trivial, (fun _ => (by kernel_rfl))⟩
def ti245 : TInf := ⟨1, 8, false, none, none, [], none, some (.int .u64 0), some [0], false, false, some .u64, true⟩
theorem tiOk245 : TOk1 Tryz.prog 245 ti245 := ⟨by kernel_rfl, by kernel_rfl, by kernel_rfl, by kernel_rfl, by kernel_rfl, trivial, trivial, (by show zeO Tryz.prog 245 = some _; kernel_rfl), (by show flatEq Tryz.prog 9 245 = some _; kernel_rfl), by kernel_rfl, (fun h => (by cases h)), (by show Tryz.prog.underlying 245 = some (.int _); kernel_rfl), (fun _ => (by kernel_rfl))⟩
def ti257 : TInf := ⟨5, 48, true, none, none, [some (0, 3), some (1, 3), some (2, 73)], some [(0, 1), (1, 1), (2, 3)], some (.agg [.int .i64 0, .int .i64 0, .int .i64 0, .int .i64 0, .str ⟨#[]⟩]), some [0, 0, 0, 0, 2], false, false, none, true⟩
theorem tiOk257 : TOk1 Tryz.prog 257 ti257 := ⟨by kernel_rfl, by kernel_rfl, by kernel_rfl, by kernel_rfl, by kernel_rfl, ⟨by kernel_rfl, by kernel_rfl, by kernel_rfl, trivial⟩, (by show placesO Tryz.prog 257 = some _; kernel_rfl), (by show zeO Tryz.prog 257 = some _; kernel_rfl), (by show flatEq Tryz.prog 9 257 = some _; kernel_rfl), by kernel_rfl, (fun h => (by cases h)), trivial, (fun _ => (by kernel_rfl))⟩
def ti265 : TInf := ⟨1, 8, false, none, none, [], none, some (.nilf), none, false, false, none, true⟩
theorem tiOk265 : TOk1 Tryz.prog 265 ti265 := ⟨by kernel_rfl, by kernel_rfl, by kernel_rfl, by kernel_rfl, by kernel_rfl, trivial, trivial, (by show zeO Tryz.prog 265 = some _; kernel_rfl), trivial, by kernel_rfl, (fun h => (by cases h)), trivial, (fun _ => (by kernel_rfl))⟩
def ti266 : TInf := ⟨6, 48, true, none, some (6, 265), [], none, some (.agg [.nilf, .nilf, .nilf, .nilf, .nilf, .nilf]), none, false, false, none, true⟩
theorem tiOk266 : TOk1 Tryz.prog 266 ti266 := ⟨by kernel_rfl, by kernel_rfl, by kernel_rfl, by kernel_rfl, by kernel_rfl, trivial, trivial, (by show zeO Tryz.prog 266 = some _; kernel_rfl), trivial, by kernel_rfl, (fun h => (by cases h)), trivial, (fun _ => (by kernel_rfl))⟩
def TT : Tbl := [(3, ti3), (4, ti4), (5, ti5), (9, ti9), (22, ti22), (24, ti24), (26, ti26), (29, ti29), (44, ti44), (64, ti64), (65, ti65), (70, ti70), (71, ti71), (73, ti73), (75, ti75), (76, ti76), (78, ti78), (80, ti80), (87, ti87), (90, ti90), (94, ti94), (96, ti96), (101, ti101), (102, ti102), (104, ti104), (107, ti107), (108, ti108), (115, ti115), (141, ti141), (144, ti144), (159, ti159), (170, ti170), (174, ti174), (176, ti176), (180, ti180), (191, ti191), (194, ti194), (208, ti208), (211, ti211), (222, ti222), (225, ti225), (242, ti242), (245, ti245), (257, ti257), (265, ti265), (266, ti266)]
theorem okT : TOk Tryz.prog TT := ⟨tiOk3, tiOk4, tiOk5, tiOk9, tiOk22, tiOk24, tiOk26, tiOk29, tiOk44, tiOk64, tiOk65, tiOk70, tiOk71, tiOk73, tiOk75, tiOk76, tiOk78, tiOk80, tiOk87, tiOk90, tiOk94, tiOk96, tiOk101, tiOk102, tiOk104, tiOk107, tiOk108, tiOk115, tiOk141, tiOk144, tiOk159, tiOk170, tiOk174, tiOk176, tiOk180, tiOk191, tiOk194, tiOk208, tiOk211, tiOk222, tiOk225, tiOk242, tiOk245, tiOk257, tiOk265, tiOk266, trivial⟩
end Go.Ab

namespace Go.Ab
structure GInterval where
 Low : Int
 High : Int
structure GPredicate where
 Sets : List (List GInterval)
structure GSymbol where
 Typ : Int
 Num : Int
structure GField where
 Name : ByteArray
 Kind : Int
structure GSchema where
 Name : ByteArray
 Fields : List GField
structure GValue where
 Kind : Int
 Num : Int
 Text : ByteArray
structure GExpr where
 Op : Int
 Args : List GExpr
 Var : Int
 Field : Int
 Kind : Int
 Value : GValue
structure GEvent where
 Source : Int
 Seq : Int
 Typ : Int
 Time : Int
 Values : List GValue
structure Gtidegatelaw27_Case where
 Index : Int
 Own : Int
 Cond : GExpr
 Event : GEvent
structure GEnv where
 Vars : List (List GEvent)
structure GVariable where
 Name : ByteArray
 Typ : Int
structure Gexpr_typer where
 types : List GSchema
 vars : List GVariable
structure Gpredicate_line where
 times : Int
 plus : Int
structure GAccumulator where
 Kind : Int
 Count : Int
 Value : GValue
end Go.Ab

namespace Go.Ab
variable [Ar]
class Encs where
 eGInterval : GInterval → V
 eGPredicate : GPredicate → V
 eGSymbol : GSymbol → V
 eGField : GField → V
 eGSchema : GSchema → V
 eGValue : GValue → V
 eGExpr : GExpr → V
 eGEvent : GEvent → V
 eGtidegatelaw27_Case : Gtidegatelaw27_Case → V
 eGEnv : GEnv → V
 eGVariable : GVariable → V
 eGexpr_typer : Gexpr_typer → V
 eGpredicate_line : Gpredicate_line → V
 eGAccumulator : GAccumulator → V
 eLB : List Bool → V
 eLGInterval : List GInterval → V
 eLGEvent : List GEvent → V
 eGInterval_eq : ∀ x, eGInterval x = .agg [.int .i64 x.Low, .int .i64 x.High]
 eGPredicate_eq : ∀ x, eGPredicate x = .agg [.sl (Ar.lst eLGInterval x.Sets) .ro]
 eGSymbol_eq : ∀ x, eGSymbol x = .agg [.int .i64 x.Typ, .int .i64 x.Num]
 eGField_eq : ∀ x, eGField x = .agg [.str x.Name, .int .i64 x.Kind]
 eGSchema_eq : ∀ x, eGSchema x = .agg [.str x.Name, .sl (Ar.lst eGField x.Fields) .ro]
 eGValue_eq : ∀ x, eGValue x = .agg [.int .i64 x.Kind, .int .i64 x.Num, .str x.Text]
 eGExpr_eq : ∀ x, eGExpr x = .agg [.int .i64 x.Op, .sl (Ar.lst eGExpr x.Args) .ro, .int .i64 x.Var, .int .i64 x.Field, .int .i64 x.Kind, .int .i64 x.Value.Kind, .int .i64 x.Value.Num, .str x.Value.Text]
 eGEvent_eq : ∀ x, eGEvent x = .agg [.int .i64 x.Source, .int .i64 x.Seq, .int .i64 x.Typ, .int .i64 x.Time, .sl (Ar.lst eGValue x.Values) .ro]
 eGtidegatelaw27_Case_eq : ∀ x, eGtidegatelaw27_Case x = .agg [.int .i64 x.Index, .int .i64 x.Own, .int .i64 x.Cond.Op, .sl (Ar.lst eGExpr x.Cond.Args) .ro, .int .i64 x.Cond.Var, .int .i64 x.Cond.Field, .int .i64 x.Cond.Kind, .int .i64 x.Cond.Value.Kind, .int .i64 x.Cond.Value.Num, .str x.Cond.Value.Text, .int .i64 x.Event.Source, .int .i64 x.Event.Seq, .int .i64 x.Event.Typ, .int .i64 x.Event.Time, .sl (Ar.lst eGValue x.Event.Values) .ro]
 eGEnv_eq : ∀ x, eGEnv x = .agg [.sl (Ar.lst eLGEvent x.Vars) .ro]
 eGVariable_eq : ∀ x, eGVariable x = .agg [.str x.Name, .int .i64 x.Typ]
 eGexpr_typer_eq : ∀ x, eGexpr_typer x = .agg [.sl (Ar.lst eGSchema x.types) .ro, .sl (Ar.lst eGVariable x.vars) .ro]
 eGpredicate_line_eq : ∀ x, eGpredicate_line x = .agg [.int .i64 x.times, .int .i64 x.plus]
 eGAccumulator_eq : ∀ x, eGAccumulator x = .agg [.int .i64 x.Kind, .int .i64 x.Count, .int .i64 x.Value.Kind, .int .i64 x.Value.Num, .str x.Value.Text]
 eLB_eq : ∀ x, eLB x = .sl (Ar.lst V.bool x) .ro
 eLGInterval_eq : ∀ x, eLGInterval x = .sl (Ar.lst eGInterval x) .ro
 eLGEvent_eq : ∀ x, eLGEvent x = .sl (Ar.lst eGEvent x) .ro
theorem sz_GInterval [Encs] (x : GInterval) : (Encs.eGInterval x).cells.length = 2 := by rw [Encs.eGInterval_eq]; rfl
theorem sz_GVariable [Encs] (x : GVariable) : (Encs.eGVariable x).cells.length = 2 := by rw [Encs.eGVariable_eq]; rfl
theorem sz_LGInterval [Encs] (x : List GInterval) : (Encs.eLGInterval x).cells.length = 1 := by rw [Encs.eLGInterval_eq]; rfl
end Go.Ab

