/- GRTypes GRTy GREn -/
import Derived.Test.YtbjdkpckplopdaaT22
import Derived.KernelRfl
import Derived.Test.YtbjdkpckplopdaaChecked
import Derived.Test.YtbjdkpckplopdaaT23
import Derived.Test.YtbjdkpckplopdaaT26
set_option linter.all false

namespace Go.Ab
open Go.RowKit Go.Proofs
set_option maxRecDepth 100000
def ti3 : TInf := ⟨1, 8, false, none, none, [], none, some (.int .i64 0), some [0], false, false, some .i64, true⟩
theorem tiOk3 : TOk1 Try.prog 3 ti3 := ⟨by kernel_rfl, by kernel_rfl, by kernel_rfl, by kernel_rfl, by kernel_rfl, trivial, trivial, (by show zeO Try.prog 3 = some _; kernel_rfl), (by show flatEq Try.prog 9 3 = some _; kernel_rfl), by kernel_rfl, (fun h => (by cases h)), (by show Try.prog.underlying 3 = some (.int _); kernel_rfl), (fun _ => (by kernel_rfl))⟩
def ti4 : TInf := ⟨1, 1, false, none, none, [], none, some (.bool false), some [1], false, true, none, true⟩
theorem tiOk4 : TOk1 Try.prog 4 ti4 := ⟨by kernel_rfl, by kernel_rfl, by kernel_rfl, by kernel_rfl, by kernel_rfl, trivial, trivial, (by show zeO Try.prog 4 = some _; kernel_rfl), (by show flatEq Try.prog 9 4 = some _; kernel_rfl), by kernel_rfl, (fun _ => (by kernel_rfl)), trivial, (fun _ => (by kernel_rfl))⟩
def ti5 : TInf := ⟨1, 1, false, none, none, [], none, some (.int .u8 0), some [0], false, false, some .u8, true⟩
theorem tiOk5 : TOk1 Try.prog 5 ti5 := ⟨by kernel_rfl, by kernel_rfl, by kernel_rfl, by kernel_rfl, by kernel_rfl, trivial, trivial, (by show zeO Try.prog 5 = some _; kernel_rfl), (by show flatEq Try.prog 9 5 = some _; kernel_rfl), by kernel_rfl, (fun h => (by cases h)), (by show Try.prog.underlying 5 = some (.int _); kernel_rfl), (fun _ => (by kernel_rfl))⟩
def ti9 : TInf := ⟨1, 16, false, none, none, [], none, some (.str ⟨#[]⟩), some [2], true, false, none, true⟩
theorem tiOk9 : TOk1 Try.prog 9 ti9 := ⟨by kernel_rfl, by kernel_rfl, by kernel_rfl, by kernel_rfl, by kernel_rfl, trivial, trivial, (by show zeO Try.prog 9 = some _; kernel_rfl), (by show flatEq Try.prog 9 9 = some _; kernel_rfl), by kernel_rfl, (fun h => (by cases h)), trivial, (fun _ => (by kernel_rfl))⟩
def ti22 : TInf := ⟨1, 24, false, some (26), none, [], none, some (.sl [] .nil), none, false, false, none, true⟩
theorem tiOk22 : TOk1 Try.prog 22 ti22 := ⟨by kernel_rfl, by kernel_rfl, by kernel_rfl, by kernel_rfl, by kernel_rfl, trivial, trivial, (by show zeO Try.prog 22 = some _; kernel_rfl), trivial, by kernel_rfl, (fun h => (by cases h)), trivial, (fun _ => (by kernel_rfl))⟩
def ti24 : TInf := ⟨3, 32, true, none, none, [some (0, 3), some (1, 3), some (2, 9)], some [(0, 1), (1, 1), (2, 1)], some (.agg [.int .i64 0, .int .i64 0, .str ⟨#[]⟩]), some [0, 0, 2], false, false, none, true⟩
theorem tiOk24 : TOk1 Try.prog 24 ti24 := ⟨by kernel_rfl, by kernel_rfl, by kernel_rfl, by kernel_rfl, by kernel_rfl, ⟨by kernel_rfl, by kernel_rfl, by kernel_rfl, trivial⟩, (by show placesO Try.prog 24 = some _; kernel_rfl), (by show zeO Try.prog 24 = some _; kernel_rfl), (by show flatEq Try.prog 9 24 = some _; kernel_rfl), by kernel_rfl, (fun h => (by cases h)), trivial, (fun _ => (by kernel_rfl))⟩
def ti26 : TInf := ⟨8, 88, true, none, none, [some (0, 3), some (1, 22), some (2, 3), some (3, 3), some (4, 3), some (5, 24)], some [(0, 1), (1, 1), (2, 1), (3, 1), (4, 1), (5, 3)], some (.agg [.int .i64 0, .sl [] .nil, .int .i64 0, .int .i64 0, .int .i64 0, .int .i64 0, .int .i64 0, .str ⟨#[]⟩]), none, false, false, none, true⟩
theorem tiOk26 : TOk1 Try.prog 26 ti26 := ⟨by kernel_rfl, by kernel_rfl, by kernel_rfl, by kernel_rfl, by kernel_rfl, ⟨by kernel_rfl, by kernel_rfl, by kernel_rfl, by kernel_rfl, by kernel_rfl, by kernel_rfl, trivial⟩, (by show placesO Try.prog 26 = some _; kernel_rfl), (by show zeO Try.prog 26 = some _; kernel_rfl), trivial, by kernel_rfl, (fun h => (by cases h)), trivial, (fun _ => (by kernel_rfl))⟩
def ti29 : TInf := ⟨1, 24, false, some (86), none, [], none, some (.sl [] .nil), none, false, false, none, true⟩
theorem tiOk29 : TOk1 Try.prog 29 ti29 := ⟨by kernel_rfl, by kernel_rfl, by kernel_rfl, by kernel_rfl, by kernel_rfl, trivial, trivial, (by show zeO Try.prog 29 = some _; kernel_rfl), trivial, by kernel_rfl, (fun h => (by cases h)), trivial, (fun _ => (by kernel_rfl))⟩
def ti30 : TInf := ⟨1, 8, false, none, none, [], none, some (.int .i64 0), some [0], false, false, some .i64, true⟩
theorem tiOk30 : TOk1 Try.prog 30 ti30 := ⟨by kernel_rfl, by kernel_rfl, by kernel_rfl, by kernel_rfl, by kernel_rfl, trivial, trivial, (by show zeO Try.prog 30 = some _; kernel_rfl), (by show flatEq Try.prog 9 30 = some _; kernel_rfl), by kernel_rfl, (fun h => (by cases h)), (by show Try.prog.underlying 30 = some (.int _); kernel_rfl), (fun _ => (by kernel_rfl))⟩
def ti37 : TInf := ⟨1, 24, false, some (95), none, [], none, some (.sl [] .nil), none, false, false, none, true⟩
theorem tiOk37 : TOk1 Try.prog 37 ti37 := ⟨by kernel_rfl, by kernel_rfl, by kernel_rfl, by kernel_rfl, by kernel_rfl, trivial, trivial, (by show zeO Try.prog 37 = some _; kernel_rfl), trivial, by kernel_rfl, (fun h => (by cases h)), trivial, (fun _ => (by kernel_rfl))⟩
def ti38 : TInf := ⟨1, 24, false, some (80), none, [], none, some (.sl [] .nil), none, false, false, none, true⟩
theorem tiOk38 : TOk1 Try.prog 38 ti38 := ⟨by kernel_rfl, by kernel_rfl, by kernel_rfl, by kernel_rfl, by kernel_rfl, trivial, trivial, (by show zeO Try.prog 38 = some _; kernel_rfl), trivial, by kernel_rfl, (fun h => (by cases h)), trivial, (fun _ => (by kernel_rfl))⟩
def ti40 : TInf := ⟨4, 64, true, none, none, [some (0, 3), some (1, 3), some (2, 37), some (3, 38)], some [(0, 1), (1, 1), (2, 1), (3, 1)], some (.agg [.int .i64 0, .int .i64 0, .sl [] .nil, .sl [] .nil]), none, false, false, none, true⟩
theorem tiOk40 : TOk1 Try.prog 40 ti40 := ⟨by kernel_rfl, by kernel_rfl, by kernel_rfl, by kernel_rfl, by kernel_rfl, ⟨by kernel_rfl, by kernel_rfl, by kernel_rfl, by kernel_rfl, trivial⟩, (by show placesO Try.prog 40 = some _; kernel_rfl), (by show zeO Try.prog 40 = some _; kernel_rfl), trivial, by kernel_rfl, (fun h => (by cases h)), trivial, (fun _ => (by kernel_rfl))⟩
def ti42 : TInf := ⟨1, 24, false, some (29), none, [], none, some (.sl [] .nil), none, false, false, none, true⟩
theorem tiOk42 : TOk1 Try.prog 42 ti42 := ⟨by kernel_rfl, by kernel_rfl, by kernel_rfl, by kernel_rfl, by kernel_rfl, trivial, trivial, (by show zeO Try.prog 42 = some _; kernel_rfl), trivial, by kernel_rfl, (fun h => (by cases h)), trivial, (fun _ => (by kernel_rfl))⟩
def ti48 : TInf := ⟨1, 24, false, some (84), none, [], none, some (.sl [] .nil), none, false, false, none, true⟩
theorem tiOk48 : TOk1 Try.prog 48 ti48 := ⟨by kernel_rfl, by kernel_rfl, by kernel_rfl, by kernel_rfl, by kernel_rfl, trivial, trivial, (by show zeO Try.prog 48 = some _; kernel_rfl), trivial, by kernel_rfl, (fun h => (by cases h)), trivial, (fun _ => (by kernel_rfl))⟩
def ti50 : TInf := ⟨1, 24, true, none, none, [some (0, 48)], some [(0, 1)], some (.agg [.sl [] .nil]), none, false, false, none, true⟩
theorem tiOk50 : TOk1 Try.prog 50 ti50 := ⟨by kernel_rfl, by kernel_rfl, by kernel_rfl, by kernel_rfl, by kernel_rfl, ⟨by kernel_rfl, trivial⟩, (by show placesO Try.prog 50 = some _; kernel_rfl), (by show zeO Try.prog 50 = some _; kernel_rfl), trivial, by kernel_rfl, (fun h => (by cases h)), trivial, (fun _ => (by kernel_rfl))⟩
def ti62 : TInf := ⟨2, 48, true, none, some (2, 50), [], none, some (.agg [.sl [] .nil, .sl [] .nil]), none, false, false, none, true⟩
theorem tiOk62 : TOk1 Try.prog 62 ti62 := ⟨by kernel_rfl, by kernel_rfl, by kernel_rfl, by kernel_rfl, by kernel_rfl, trivial, trivial, (by show zeO Try.prog 62 = some _; kernel_rfl), trivial, by kernel_rfl, (fun h => (by cases h)), trivial, (fun _ => (by kernel_rfl))⟩
def ti77 : TInf := ⟨1, 24, false, some (3), none, [], none, some (.sl [] .nil), none, false, false, none, true⟩
theorem tiOk77 : TOk1 Try.prog 77 ti77 := ⟨by kernel_rfl, by kernel_rfl, by kernel_rfl, by kernel_rfl, by kernel_rfl, trivial, trivial, (by show zeO Try.prog 77 = some _; kernel_rfl), trivial, by kernel_rfl, (fun h => (by cases h)), trivial, (fun _ => (by kernel_rfl))⟩
def ti78 : TInf := ⟨1, 24, false, some (149), none, [], none, some (.sl [] .nil), none, false, false, none, true⟩
theorem tiOk78 : TOk1 Try.prog 78 ti78 := ⟨by kernel_rfl, by kernel_rfl, by kernel_rfl, by kernel_rfl, by kernel_rfl, trivial, trivial, (by show zeO Try.prog 78 = some _; kernel_rfl), trivial, by kernel_rfl, (fun h => (by cases h)), trivial, (fun _ => (by kernel_rfl))⟩
def ti80 : TInf := ⟨17, 240, true, none, none, [some (0, 3), some (1, 3), some (2, 3), some (3, 3), some (4, 26), some (12, 77), some (13, 77), some (14, 22), some (15, 78), some (16, 77)], some [(0, 1), (1, 1), (2, 1), (3, 1), (4, 8), (12, 1), (13, 1), (14, 1), (15, 1), (16, 1)], some (.agg [.int .i64 0, .int .i64 0, .int .i64 0, .int .i64 0, .int .i64 0, .sl [] .nil, .int .i64 0, .int .i64 0, .int .i64 0, .int .i64 0, .int .i64 0, .str ⟨#[]⟩, .sl [] .nil, .sl [] .nil, .sl [] .nil, .sl [] .nil, .sl [] .nil]), none, false, false, none, true⟩
theorem tiOk80 : TOk1 Try.prog 80 ti80 := ⟨by kernel_rfl, by kernel_rfl, by kernel_rfl, by kernel_rfl, by kernel_rfl, ⟨by kernel_rfl, by kernel_rfl, by kernel_rfl, by kernel_rfl, by kernel_rfl, by kernel_rfl, by kernel_rfl, by kernel_rfl, by kernel_rfl, by kernel_rfl, trivial⟩, (by show placesO Try.prog 80 = some _; kernel_rfl), (by show zeO Try.prog 80 = some _; kernel_rfl), trivial, by kernel_rfl, (fun h => (by cases h)), trivial, (fun _ => (by kernel_rfl))⟩
def ti81 : TInf := ⟨1, 24, false, some (24), none, [], none, some (.sl [] .nil), none, false, false, none, true⟩
theorem tiOk81 : TOk1 Try.prog 81 ti81 := ⟨by kernel_rfl, by kernel_rfl, by kernel_rfl, by kernel_rfl, by kernel_rfl, trivial, trivial, (by show zeO Try.prog 81 = some _; kernel_rfl), trivial, by kernel_rfl, (fun h => (by cases h)), trivial, (fun _ => (by kernel_rfl))⟩
def ti83 : TInf := ⟨5, 56, true, none, none, [some (0, 3), some (1, 3), some (2, 3), some (3, 3), some (4, 81)], some [(0, 1), (1, 1), (2, 1), (3, 1), (4, 1)], some (.agg [.int .i64 0, .int .i64 0, .int .i64 0, .int .i64 0, .sl [] .nil]), none, false, false, none, true⟩
theorem tiOk83 : TOk1 Try.prog 83 ti83 := ⟨by kernel_rfl, by kernel_rfl, by kernel_rfl, by kernel_rfl, by kernel_rfl, ⟨by kernel_rfl, by kernel_rfl, by kernel_rfl, by kernel_rfl, by kernel_rfl, trivial⟩, (by show placesO Try.prog 83 = some _; kernel_rfl), (by show zeO Try.prog 83 = some _; kernel_rfl), trivial, by kernel_rfl, (fun h => (by cases h)), trivial, (fun _ => (by kernel_rfl))⟩
def ti84 : TInf := ⟨1, 24, false, some (83), none, [], none, some (.sl [] .nil), none, false, false, none, true⟩
theorem tiOk84 : TOk1 Try.prog 84 ti84 := ⟨by kernel_rfl, by kernel_rfl, by kernel_rfl, by kernel_rfl, by kernel_rfl, trivial, trivial, (by show zeO Try.prog 84 = some _; kernel_rfl), trivial, by kernel_rfl, (fun h => (by cases h)), trivial, (fun _ => (by kernel_rfl))⟩
def ti86 : TInf := ⟨3, 24, true, none, none, [some (0, 3), some (1, 3), some (2, 3)], some [(0, 1), (1, 1), (2, 1)], some (.agg [.int .i64 0, .int .i64 0, .int .i64 0]), some [0, 0, 0], false, false, none, true⟩
theorem tiOk86 : TOk1 Try.prog 86 ti86 := ⟨by kernel_rfl, by kernel_rfl, by kernel_rfl, by kernel_rfl, by kernel_rfl, ⟨by kernel_rfl, by kernel_rfl, by kernel_rfl, trivial⟩, (by show placesO Try.prog 86 = some _; kernel_rfl), (by show zeO Try.prog 86 = some _; kernel_rfl), (by show flatEq Try.prog 9 86 = some _; kernel_rfl), by kernel_rfl, (fun h => (by cases h)), trivial, (fun _ => (by kernel_rfl))⟩
def ti89 : TInf := ⟨1, 8, false, none, none, [], none, some (.nilmap), none, false, false, none, true⟩
theorem tiOk89 : TOk1 Try.prog 89 ti89 := ⟨by kernel_rfl, by kernel_rfl, by kernel_rfl, by kernel_rfl, by kernel_rfl, trivial, trivial, (by show zeO Try.prog 89 = some _; kernel_rfl), trivial, by kernel_rfl, (fun h => (by cases h)), trivial, (fun _ => (by kernel_rfl))⟩
def ti93 : TInf := ⟨1, 24, false, some (100), none, [], none, some (.sl [] .nil), none, false, false, none, true⟩
theorem tiOk93 : TOk1 Try.prog 93 ti93 := ⟨by kernel_rfl, by kernel_rfl, by kernel_rfl, by kernel_rfl, by kernel_rfl, trivial, trivial, (by show zeO Try.prog 93 = some _; kernel_rfl), trivial, by kernel_rfl, (fun h => (by cases h)), trivial, (fun _ => (by kernel_rfl))⟩
def ti95 : TInf := ⟨1, 24, true, none, none, [some (0, 93)], some [(0, 1)], some (.agg [.sl [] .nil]), none, false, false, none, true⟩
theorem tiOk95 : TOk1 Try.prog 95 ti95 := ⟨by kernel_rfl, by kernel_rfl, by kernel_rfl, by kernel_rfl, by kernel_rfl, ⟨by kernel_rfl, trivial⟩, (by show placesO Try.prog 95 = some _; kernel_rfl), (by show zeO Try.prog 95 = some _; kernel_rfl), trivial, by kernel_rfl, (fun h => (by cases h)), trivial, (fun _ => (by kernel_rfl))⟩
def ti98 : TInf := ⟨1, 24, false, some (89), none, [], none, some (.sl [] .nil), none, false, false, none, true⟩
theorem tiOk98 : TOk1 Try.prog 98 ti98 := ⟨by kernel_rfl, by kernel_rfl, by kernel_rfl, by kernel_rfl, by kernel_rfl, trivial, trivial, (by show zeO Try.prog 98 = some _; kernel_rfl), trivial, by kernel_rfl, (fun h => (by cases h)), trivial, (fun _ => (by kernel_rfl))⟩
def ti100 : TInf := ⟨11, 112, true, none, none, [some (0, 3), some (1, 3), some (2, 3), some (3, 26)], some [(0, 1), (1, 1), (2, 1), (3, 8)], some (.agg [.int .i64 0, .int .i64 0, .int .i64 0, .int .i64 0, .sl [] .nil, .int .i64 0, .int .i64 0, .int .i64 0, .int .i64 0, .int .i64 0, .str ⟨#[]⟩]), none, false, false, none, true⟩
theorem tiOk100 : TOk1 Try.prog 100 ti100 := ⟨by kernel_rfl, by kernel_rfl, by kernel_rfl, by kernel_rfl, by kernel_rfl, ⟨by kernel_rfl, by kernel_rfl, by kernel_rfl, by kernel_rfl, trivial⟩, (by show placesO Try.prog 100 = some _; kernel_rfl), (by show zeO Try.prog 100 = some _; kernel_rfl), trivial, by kernel_rfl, (fun h => (by cases h)), trivial, (fun _ => (by kernel_rfl))⟩
def ti114 : TInf := ⟨1, 8, false, none, none, [], none, some (.int .u64 0), some [0], false, false, some .u64, true⟩
theorem tiOk114 : TOk1 Try.prog 114 ti114 := ⟨by kernel_rfl, by kernel_rfl, by kernel_rfl, by kernel_rfl, by kernel_rfl, trivial, trivial, (by show zeO Try.prog 114 = some _; kernel_rfl), (by show flatEq Try.prog 9 114 = some _; kernel_rfl), by kernel_rfl, (fun h => (by cases h)), (by show Try.prog.underlying 114 = some (.int _); kernel_rfl), (fun _ => (by kernel_rfl))⟩
def ti117 : TInf := ⟨1, 8, false, none, none, [], none, some (.nilf), none, false, false, none, true⟩
theorem tiOk117 : TOk1 Try.prog 117 ti117 := ⟨by kernel_rfl, by kernel_rfl, by kernel_rfl, by kernel_rfl, by kernel_rfl, trivial, trivial, (by show zeO Try.prog 117 = some _; kernel_rfl), trivial, by kernel_rfl, (fun h => (by cases h)), trivial, (fun _ => (by kernel_rfl))⟩
def ti134 : TInf := ⟨1, 4, false, none, none, [], none, some (.int .u32 0), some [0], false, false, some .u32, true⟩
theorem tiOk134 : TOk1 Try.prog 134 ti134 := ⟨by kernel_rfl, by kernel_rfl, by kernel_rfl, by kernel_rfl, by kernel_rfl, trivial, trivial, (by show zeO Try.prog 134 = some _; kernel_rfl), (by show flatEq Try.prog 9 134 = some _; kernel_rfl), by kernel_rfl, (fun h => (by cases h)), (by show Try.prog.underlying 134 = some (.int _); kernel_rfl), (fun _ => (by kernel_rfl))⟩
def ti136 : TInf := ⟨1, 8, false, none, none, [], none, some (.int .u64 0), some [0], false, false, some .u64, true⟩
theorem tiOk136 : TOk1 Try.prog 136 ti136 := ⟨by kernel_rfl, by kernel_rfl, by kernel_rfl, by kernel_rfl, by kernel_rfl, trivial, trivial, (by show zeO Try.prog 136 = some _; kernel_rfl), (by show flatEq Try.prog 9 136 = some _; kernel_rfl), by kernel_rfl, (fun h => (by cases h)), (by show Try.prog.underlying 136 = some (.int _); kernel_rfl), (fun _ => (by kernel_rfl))⟩
def ti149 : TInf := ⟨2, 16, true, none, none, [some (0, 3), some (1, 3)], some [(0, 1), (1, 1)], some (.agg [.int .i64 0, .int .i64 0]), some [0, 0], false, false, none, true⟩
theorem tiOk149 : TOk1 Try.prog 149 ti149 := ⟨by kernel_rfl, by kernel_rfl, by kernel_rfl, by kernel_rfl, by kernel_rfl, ⟨by kernel_rfl, by kernel_rfl, trivial⟩, (by show placesO Try.prog 149 = some _; kernel_rfl), (by show zeO Try.prog 149 = some _; kernel_rfl), (by show flatEq Try.prog 9 149 = some _; kernel_rfl), by kernel_rfl, (fun h => (by cases h)), trivial, (fun _ => (by kernel_rfl))⟩
def ti161 : TInf := ⟨1, 24, false, some (77), none, [], none, some (.sl [] .nil), none, false, false, none, true⟩
theorem tiOk161 : TOk1 Try.prog 161 ti161 := ⟨by kernel_rfl, by kernel_rfl, by kernel_rfl, by kernel_rfl, by kernel_rfl, trivial, trivial, (by show zeO Try.prog 161 = some _; kernel_rfl), trivial, by kernel_rfl, (fun h => (by cases h)), trivial, (fun _ => (by kernel_rfl))⟩
def ti166 : TInf := ⟨1, 8, false, none, none, [], none, some (.int .i64 0), some [0], false, false, some .i64, true⟩
theorem tiOk166 : TOk1 Try.prog 166 ti166 := ⟨by kernel_rfl, by kernel_rfl, by kernel_rfl, by kernel_rfl, by kernel_rfl, trivial, trivial, (by show zeO Try.prog 166 = some _; kernel_rfl), (by show flatEq Try.prog 9 166 = some _; kernel_rfl), by kernel_rfl, (fun h => (by cases h)), (by show Try.prog.underlying 166 = some (.int _); kernel_rfl), (fun _ => (by kernel_rfl))⟩
def ti172 : TInf := ⟨1, 8, false, none, none, [], none, some (.int .u64 0), some [0], false, false, some .u64, true⟩
theorem tiOk172 : TOk1 Try.prog 172 ti172 := ⟨by kernel_rfl, by kernel_rfl, by kernel_rfl, by kernel_rfl, by kernel_rfl, trivial, trivial, (by show zeO Try.prog 172 = some _; kernel_rfl), (by show flatEq Try.prog 9 172 = some _; kernel_rfl), by kernel_rfl, (fun h => (by cases h)), (by show Try.prog.underlying 172 = some (.int _); kernel_rfl), (fun _ => (by kernel_rfl))⟩
def TT : Tbl := [(3, ti3), (4, ti4), (5, ti5), (9, ti9), (22, ti22), (24, ti24), (26, ti26), (29, ti29), (30, ti30), (37, ti37), (38, ti38), (40, ti40), (42, ti42), (48, ti48), (50, ti50), (62, ti62), (77, ti77), (78, ti78), (80, ti80), (81, ti81), (83, ti83), (84, ti84), (86, ti86), (89, ti89), (93, ti93), (95, ti95), (98, ti98), (100, ti100), (114, ti114), (117, ti117), (134, ti134), (136, ti136), (149, ti149), (161, ti161), (166, ti166), (172, ti172)]
theorem okT : TOk Try.prog TT := ⟨tiOk3, tiOk4, tiOk5, tiOk9, tiOk22, tiOk24, tiOk26, tiOk29, tiOk30, tiOk37, tiOk38, tiOk40, tiOk42, tiOk48, tiOk50, tiOk62, tiOk77, tiOk78, tiOk80, tiOk81, tiOk83, tiOk84, tiOk86, tiOk89, tiOk93, tiOk95, tiOk98, tiOk100, tiOk114, tiOk117, tiOk134, tiOk136, tiOk149, tiOk161, tiOk166, tiOk172, trivial⟩
end Go.Ab

namespace Go.Ab
structure GValue where
 Kind : Int
 Num : Int
 Text : ByteArray
structure GExpr where
 Op : Int
 Args : List GExpr
 Var : Int
 Field : Int
 Kind : Int
 Value : GValue
structure GNeed where
 Var : Int
 Last : Int
 All : Int
structure GGuard where
 Scope : Int
 Typ : Int
 Var : Int
 Cond : GExpr
structure GState where
 Guards : List GGuard
structure GLimit where
 Scope : Int
 Span : Int
structure GEdge where
 From : Int
 To : Int
 Var : Int
 Typ : Int
 Cond : GExpr
 Opens : List Int
 Closes : List Int
 Checks : List GExpr
 Limits : List GLimit
 Inside : List Int
structure GAutomaton where
 Vars : Int
 Scopes : Int
 States : List GState
 Edges : List GEdge
structure GEvent where
 Source : Int
 Seq : Int
 Typ : Int
 Time : Int
 Values : List GValue
structure GEnv where
 Vars : List (List GEvent)
structure GS62 where
 E0 : GEnv
 E1 : GEnv
end Go.Ab

namespace Go.Ab
variable [Ar]
class Encs where
 eGValue : GValue → V
 eGExpr : GExpr → V
 eGNeed : GNeed → V
 eGGuard : GGuard → V
 eGState : GState → V
 eGLimit : GLimit → V
 eGEdge : GEdge → V
 eGAutomaton : GAutomaton → V
 eGEvent : GEvent → V
 eGEnv : GEnv → V
 eGS62 : GS62 → V
 eLGNeed : List GNeed → V
 eLI : List Int → V
 eLGEvent : List GEvent → V
 eGValue_eq : ∀ x, eGValue x = .agg [.int .i64 x.Kind, .int .i64 x.Num, .str x.Text]
 eGExpr_eq : ∀ x, eGExpr x = .agg [.int .i64 x.Op, .sl (Ar.lst eGExpr x.Args) .ro, .int .i64 x.Var, .int .i64 x.Field, .int .i64 x.Kind, .int .i64 x.Value.Kind, .int .i64 x.Value.Num, .str x.Value.Text]
 eGNeed_eq : ∀ x, eGNeed x = .agg [.int .i64 x.Var, .int .i64 x.Last, .int .i64 x.All]
 eGGuard_eq : ∀ x, eGGuard x = .agg [.int .i64 x.Scope, .int .i64 x.Typ, .int .i64 x.Var, .int .i64 x.Cond.Op, .sl (Ar.lst eGExpr x.Cond.Args) .ro, .int .i64 x.Cond.Var, .int .i64 x.Cond.Field, .int .i64 x.Cond.Kind, .int .i64 x.Cond.Value.Kind, .int .i64 x.Cond.Value.Num, .str x.Cond.Value.Text]
 eGState_eq : ∀ x, eGState x = .agg [.sl (Ar.lst eGGuard x.Guards) .ro]
 eGLimit_eq : ∀ x, eGLimit x = .agg [.int .i64 x.Scope, .int .i64 x.Span]
 eGEdge_eq : ∀ x, eGEdge x = .agg [.int .i64 x.From, .int .i64 x.To, .int .i64 x.Var, .int .i64 x.Typ, .int .i64 x.Cond.Op, .sl (Ar.lst eGExpr x.Cond.Args) .ro, .int .i64 x.Cond.Var, .int .i64 x.Cond.Field, .int .i64 x.Cond.Kind, .int .i64 x.Cond.Value.Kind, .int .i64 x.Cond.Value.Num, .str x.Cond.Value.Text, .sl (Ar.lst (V.int .i64) x.Opens) .ro, .sl (Ar.lst (V.int .i64) x.Closes) .ro, .sl (Ar.lst eGExpr x.Checks) .ro, .sl (Ar.lst eGLimit x.Limits) .ro, .sl (Ar.lst (V.int .i64) x.Inside) .ro]
 eGAutomaton_eq : ∀ x, eGAutomaton x = .agg [.int .i64 x.Vars, .int .i64 x.Scopes, .sl (Ar.lst eGState x.States) .ro, .sl (Ar.lst eGEdge x.Edges) .ro]
 eGEvent_eq : ∀ x, eGEvent x = .agg [.int .i64 x.Source, .int .i64 x.Seq, .int .i64 x.Typ, .int .i64 x.Time, .sl (Ar.lst eGValue x.Values) .ro]
 eGEnv_eq : ∀ x, eGEnv x = .agg [.sl (Ar.lst eLGEvent x.Vars) .ro]
 eGS62_eq : ∀ x, eGS62 x = .agg [.sl (Ar.lst eLGEvent x.E0.Vars) .ro, .sl (Ar.lst eLGEvent x.E1.Vars) .ro]
 eLGNeed_eq : ∀ x, eLGNeed x = .sl (Ar.lst eGNeed x) .ro
 eLI_eq : ∀ x, eLI x = .sl (Ar.lst (V.int .i64) x) .ro
 eLGEvent_eq : ∀ x, eLGEvent x = .sl (Ar.lst eGEvent x) .ro
theorem sz_GValue [Encs] (x : GValue) : (Encs.eGValue x).cells.length = 3 := by rw [Encs.eGValue_eq]; rfl
theorem sz_GNeed [Encs] (x : GNeed) : (Encs.eGNeed x).cells.length = 3 := by rw [Encs.eGNeed_eq]; rfl
theorem sz_GGuard [Encs] (x : GGuard) : (Encs.eGGuard x).cells.length = 11 := by rw [Encs.eGGuard_eq]; rfl
theorem sz_GEvent [Encs] (x : GEvent) : (Encs.eGEvent x).cells.length = 5 := by rw [Encs.eGEvent_eq]; rfl
theorem sz_LGNeed [Encs] (x : List GNeed) : (Encs.eLGNeed x).cells.length = 1 := by rw [Encs.eLGNeed_eq]; rfl
end Go.Ab

