/- Joined texts of this claim (part 3), printed by a program of this work. The last part holds the claimed theorem: the law answers true at every input of its row. -/
import Derived.Test.YtnhgjgoglmadnaaProg
import Derived.Test.YtnhgjgoglmadnaaSP14b
namespace Go.Proofs.Ytnhgjgoglmadnaa
theorem Try.ti2 : tinfo Try.prog 2 = ⟨true, false, some 1, some (.int .i64 0), none, none, none, some .i64, false, false, false, false⟩ := by kernel_rfl
theorem Try.ti3 : tinfo Try.prog 3 = ⟨true, false, some 1, some (.int .i64 0), none, none, none, some .i64, false, false, false, false⟩ := by kernel_rfl
theorem Try.ti4 : tinfo Try.prog 4 = ⟨true, false, some 1, some (.bool false), none, none, none, none, false, false, true, false⟩ := by kernel_rfl
theorem Try.ti5 : tinfo Try.prog 5 = ⟨true, false, some 1, some (.int .u8 0), none, none, none, some .u8, false, false, false, false⟩ := by kernel_rfl
theorem Try.ti6 : tinfo Try.prog 6 = ⟨true, false, some 1, some (.int .u8 0), none, none, none, some .u8, false, false, false, false⟩ := by kernel_rfl
theorem Try.ti7 : tinfo Try.prog 7 = ⟨true, true, some 4, some (.agg #[.int .i64 0, .int .i64 0, .bool false, .int .u8 0]), some [(0, some 1, some false), (1, some 1, some false), (2, some 1, some false), (3, some 1, some false)], none, none, none, false, false, false, false⟩ := by kernel_rfl
theorem Try.ti8 : tinfo Try.prog 8 = ⟨true, true, some 4, some (.agg #[.int .i64 0, .int .i64 0, .bool false, .int .u8 0]), some [(0, some 1, some false), (1, some 1, some false), (2, some 1, some false), (3, some 1, some false)], none, none, none, false, false, false, false⟩ := by kernel_rfl
theorem Try.ti9 : tinfo Try.prog 9 = ⟨true, false, some 1, some (.string ⟨#[]⟩), none, none, none, none, false, false, false, true⟩ := by kernel_rfl
theorem Try.ti10 : tinfo Try.prog 10 = ⟨true, false, some 1, some (.string ⟨#[]⟩), none, none, none, none, false, false, false, true⟩ := by kernel_rfl
theorem Try.ti11 : tinfo Try.prog 11 = ⟨true, false, some 1, some (.string ⟨#[]⟩), none, none, none, none, false, false, false, true⟩ := by kernel_rfl
theorem Try.ti12 : tinfo Try.prog 12 = ⟨true, false, some 1, some (.int .u64 0), none, none, none, some .u64, false, false, false, false⟩ := by kernel_rfl
theorem Try.ti13 : tinfo Try.prog 13 = ⟨true, true, some 2, some (.agg #[.string ⟨#[]⟩, .int .u64 0]), some [(0, some 1, some false), (1, some 1, some false)], none, none, none, false, false, false, false⟩ := by kernel_rfl
theorem Try.ti14 : tinfo Try.prog 14 = ⟨true, true, some 2, some (.agg #[.string ⟨#[]⟩, .int .u64 0]), some [(0, some 1, some false), (1, some 1, some false)], none, none, none, false, false, false, false⟩ := by kernel_rfl
theorem Try.ti15 : tinfo Try.prog 15 = ⟨true, false, some 1, some (.pointer none), none, none, none, none, true, false, false, false⟩ := by kernel_rfl
theorem Try.ti16 : tinfo Try.prog 16 = ⟨true, false, some 1, some (.pointer none), none, none, none, none, true, false, false, false⟩ := by kernel_rfl
theorem Try.ti17 : tinfo Try.prog 17 = ⟨true, false, some 1, some (.pointer none), none, none, none, none, true, false, false, false⟩ := by kernel_rfl
theorem Try.ti18 : tinfo Try.prog 18 = ⟨true, true, some 1, some (.agg #[.pointer none]), some [(0, some 1, some false)], none, none, none, false, false, false, false⟩ := by kernel_rfl
theorem Try.ti19 : tinfo Try.prog 19 = ⟨true, true, some 1, some (.agg #[.pointer none]), some [(0, some 1, some false)], none, none, none, false, false, false, false⟩ := by kernel_rfl
theorem Try.ti21 : tinfo Try.prog 21 = ⟨true, false, some 1, some (.int .i32 0), none, none, none, some .i32, false, false, false, false⟩ := by kernel_rfl
theorem Try.ti22 : tinfo Try.prog 22 = ⟨true, false, some 1, some (.slice none 0 0), none, none, some (5, some 1), none, false, true, false, false⟩ := by kernel_rfl
theorem Try.ti24 : tinfo Try.prog 24 = ⟨true, false, some 1, some (.int .u64 0), none, none, none, some .u64, false, false, false, false⟩ := by kernel_rfl
theorem Try.ti28 : tinfo Try.prog 28 = ⟨true, false, some 1, some (.slice none 0 0), none, none, some (41, some 12), none, false, true, false, false⟩ := by kernel_rfl
theorem Try.ti30 : tinfo Try.prog 30 = ⟨true, false, some 1, some (.pointer none), none, none, none, none, true, false, false, false⟩ := by kernel_rfl
theorem Try.ti31 : tinfo Try.prog 31 = ⟨true, true, some 2, some (.agg #[.slice none 0 0, .bool false]), some [(0, some 1, some false), (1, some 1, some false)], none, none, none, false, false, false, false⟩ := by kernel_rfl
theorem Try.ti32 : tinfo Try.prog 32 = ⟨true, true, some 2, some (.agg #[.slice none 0 0, .bool false]), some [(0, some 1, some false), (1, some 1, some false)], none, none, none, false, false, false, false⟩ := by kernel_rfl
theorem Try.ti33 : tinfo Try.prog 33 = ⟨true, false, some 1, some (.pointer none), none, none, none, none, true, false, false, false⟩ := by kernel_rfl
theorem Try.ti34 : tinfo Try.prog 34 = ⟨true, true, some 2, some (.agg #[.slice none 0 0, .bool false]), some [(0, some 1, some false), (1, some 1, some false)], none, none, none, false, false, false, false⟩ := by kernel_rfl
theorem Try.ti35 : tinfo Try.prog 35 = ⟨true, true, some 2, some (.agg #[.slice none 0 0, .bool false]), some [(0, some 1, some false), (1, some 1, some false)], none, none, none, false, false, false, false⟩ := by kernel_rfl
theorem Try.ti36 : tinfo Try.prog 36 = ⟨true, true, some 2, some (.agg #[.int .i64 0, .int .i64 0]), some [(0, some 1, some false), (1, some 1, some false)], none, none, none, false, false, false, false⟩ := by kernel_rfl
theorem Try.ti37 : tinfo Try.prog 37 = ⟨true, true, some 2, some (.agg #[.int .i64 0, .int .i64 0]), some [(0, some 1, some false), (1, some 1, some false)], none, none, none, false, false, false, false⟩ := by kernel_rfl
theorem Try.ti38 : tinfo Try.prog 38 = ⟨true, true, some 6, some (.agg #[.int .i64 0, .int .i64 0, .int .i64 0, .int .i64 0, .int .i64 0, .int .i64 0]), some [(0, some 2, some true), (2, some 2, some true), (4, some 2, some true)], none, none, none, false, false, false, false⟩ := by kernel_rfl
theorem Try.ti39 : tinfo Try.prog 39 = ⟨true, true, some 6, some (.agg #[.int .i64 0, .int .i64 0, .int .i64 0, .int .i64 0, .int .i64 0, .int .i64 0]), some [(0, some 2, some true), (2, some 2, some true), (4, some 2, some true)], none, none, none, false, false, false, false⟩ := by kernel_rfl
theorem Try.ti40 : tinfo Try.prog 40 = ⟨true, true, some 12, some (.agg #[.int .i64 0, .int .i64 0, .int .i64 0, .int .i64 0, .int .i64 0, .int .i64 0, .int .i64 0, .int .i64 0, .int .i64 0, .int .i64 0, .int .i64 0, .slice none 0 0]), some [(0, some 1, some false), (1, some 1, some false), (2, some 1, some false), (3, some 2, some true), (5, some 6, some true), (11, some 1, some false)], none, none, none, false, false, false, false⟩ := by kernel_rfl
theorem Try.ti41 : tinfo Try.prog 41 = ⟨true, true, some 12, some (.agg #[.int .i64 0, .int .i64 0, .int .i64 0, .int .i64 0, .int .i64 0, .int .i64 0, .int .i64 0, .int .i64 0, .int .i64 0, .int .i64 0, .int .i64 0, .slice none 0 0]), some [(0, some 1, some false), (1, some 1, some false), (2, some 1, some false), (3, some 2, some true), (5, some 6, some true), (11, some 1, some false)], none, none, none, false, false, false, false⟩ := by kernel_rfl
theorem Try.ti49 : tinfo Try.prog 49 = ⟨true, false, some 1, some (.int .i64 0), none, none, none, some .i64, false, false, false, false⟩ := by kernel_rfl
theorem Try.ti52 : tinfo Try.prog 52 = ⟨true, false, some 1, some (.int .u64 0), none, none, none, some .u64, false, false, false, false⟩ := by kernel_rfl
theorem Try.ti53 : tinfo Try.prog 53 = ⟨true, false, some 1, some (.pointer none), none, none, none, none, true, false, false, false⟩ := by kernel_rfl
theorem Try.ti59 : tinfo Try.prog 59 = ⟨true, false, some 1, some (.slice none 0 0), none, none, some (22, some 1), none, false, true, false, false⟩ := by kernel_rfl
theorem Try.ti60 : tinfo Try.prog 60 = ⟨true, false, some 1, some (.slice none 0 0), none, none, some (3, some 1), none, false, true, false, false⟩ := by kernel_rfl
theorem Try.ti61 : tinfo Try.prog 61 = ⟨true, false, some 1, some (.pointer none), none, none, none, none, true, false, false, false⟩ := by kernel_rfl
theorem Try.ti65 : tinfo Try.prog 65 = ⟨true, false, some 1, some (.pointer none), none, none, none, none, true, false, false, false⟩ := by kernel_rfl
theorem Try.ti66 : tinfo Try.prog 66 = ⟨true, true, some 2, some (.agg #[.bool false, .slice none 0 0]), some [(0, some 1, some false), (1, some 1, some false)], none, none, none, false, false, false, false⟩ := by kernel_rfl
theorem Try.ti67 : tinfo Try.prog 67 = ⟨true, true, some 2, some (.agg #[.bool false, .slice none 0 0]), some [(0, some 1, some false), (1, some 1, some false)], none, none, none, false, false, false, false⟩ := by kernel_rfl
theorem Try.ti84 : tinfo Try.prog 84 = ⟨true, false, some 1, some (.pointer none), none, none, none, none, true, false, false, false⟩ := by kernel_rfl
theorem Try.ti85 : tinfo Try.prog 85 = ⟨true, true, some 2, some (.agg #[.slice none 0 0, .bool false]), some [(0, some 1, some false), (1, some 1, some false)], none, none, none, false, false, false, false⟩ := by kernel_rfl
theorem Try.ti87 : tinfo Try.prog 87 = ⟨true, false, some 1, some (.slice none 0 0), none, none, some (37, some 2), none, false, true, false, false⟩ := by kernel_rfl
theorem Try.ti88 : tinfo Try.prog 88 = ⟨true, false, some 1, some (.slice none 0 0), none, none, some (149, some 5), none, false, true, false, false⟩ := by kernel_rfl
theorem Try.ti89 : tinfo Try.prog 89 = ⟨true, false, some 1, some (.slice none 0 0), none, none, some (153, some 2), none, false, true, false, false⟩ := by kernel_rfl
theorem Try.ti90 : tinfo Try.prog 90 = ⟨true, false, some 1, some (.slice none 0 0), none, none, some (144, some 10), none, false, true, false, false⟩ := by kernel_rfl
theorem Try.ti91 : tinfo Try.prog 91 = ⟨true, false, some 1, some (.slice none 0 0), none, none, some (159, some 9), none, false, true, false, false⟩ := by kernel_rfl
theorem Try.ti92 : tinfo Try.prog 92 = ⟨true, false, some 1, some (.slice none 0 0), none, none, some (163, some 3), none, false, true, false, false⟩ := by kernel_rfl
theorem Try.ti93 : tinfo Try.prog 93 = ⟨true, false, some 1, some (.slice none 0 0), none, none, some (167, some 3), none, false, true, false, false⟩ := by kernel_rfl
theorem Try.ti94 : tinfo Try.prog 94 = ⟨true, false, some 1, some (.slice none 0 0), none, none, some (141, some 3), none, false, true, false, false⟩ := by kernel_rfl
theorem Try.ti95 : tinfo Try.prog 95 = ⟨true, true, some 15, some (.agg #[.int .i64 0, .int .i64 0, .int .i64 0, .int .i64 0, .int .i64 0, .int .i64 0, .int .i64 0, .slice none 0 0, .slice none 0 0, .slice none 0 0, .slice none 0 0, .slice none 0 0, .slice none 0 0, .slice none 0 0, .slice none 0 0]), some [(0, some 1, some false), (1, some 1, some false), (2, some 1, some false), (3, some 1, some false), (4, some 1, some false), (5, some 1, some false), (6, some 1, some false), (7, some 1, some false), (8, some 1, some false), (9, some 1, some false), (10, some 1, some false), (11, some 1, some false), (12, some 1, some false), (13, some 1, some false), (14, some 1, some false)], none, none, none, false, false, false, false⟩ := by kernel_rfl
theorem Try.ti96 : tinfo Try.prog 96 = ⟨true, true, some 15, some (.agg #[.int .i64 0, .int .i64 0, .int .i64 0, .int .i64 0, .int .i64 0, .int .i64 0, .int .i64 0, .slice none 0 0, .slice none 0 0, .slice none 0 0, .slice none 0 0, .slice none 0 0, .slice none 0 0, .slice none 0 0, .slice none 0 0]), some [(0, some 1, some false), (1, some 1, some false), (2, some 1, some false), (3, some 1, some false), (4, some 1, some false), (5, some 1, some false), (6, some 1, some false), (7, some 1, some false), (8, some 1, some false), (9, some 1, some false), (10, some 1, some false), (11, some 1, some false), (12, some 1, some false), (13, some 1, some false), (14, some 1, some false)], none, none, none, false, false, false, false⟩ := by kernel_rfl
theorem Try.ti108 : tinfo Try.prog 108 = ⟨true, true, some 4, some (.agg #[.int .i64 0, .int .i64 0, .int .i64 0, .int .i64 0]), some [(0, some 1, some false), (1, some 1, some false), (2, some 1, some false), (3, some 1, some false)], none, none, none, false, false, false, false⟩ := by kernel_rfl
theorem Try.ti109 : tinfo Try.prog 109 = ⟨true, true, some 4, some (.agg #[.int .i64 0, .int .i64 0, .int .i64 0, .int .i64 0]), some [(0, some 1, some false), (1, some 1, some false), (2, some 1, some false), (3, some 1, some false)], none, none, none, false, false, false, false⟩ := by kernel_rfl
theorem Try.ti110 : tinfo Try.prog 110 = ⟨true, true, some 26, some (.agg #[.int .i64 0, .int .i64 0, .int .i64 0, .int .i64 0, .int .i64 0, .int .i64 0, .int .i64 0, .int .i64 0, .int .i64 0, .int .i64 0, .int .i64 0, .int .i64 0, .int .i64 0, .int .i64 0, .int .i64 0, .int .i64 0, .int .i64 0, .int .i64 0, .int .i64 0, .int .i64 0, .int .i64 0, .int .i64 0, .int .i64 0, .int .i64 0, .int .i64 0, .int .i64 0]), some [(0, some 1, some false), (1, some 2, some true), (3, some 2, some true), (5, some 6, some true), (11, some 1, some false), (12, some 1, some false), (13, some 1, some false), (14, some 1, some false), (15, some 4, some true), (19, some 1, some false), (20, some 1, some false), (21, some 1, some false), (22, some 1, some false), (23, some 1, some false), (24, some 1, some false), (25, some 1, some false)], none, none, none, false, false, false, false⟩ := by kernel_rfl
theorem Try.ti111 : tinfo Try.prog 111 = ⟨true, true, some 26, some (.agg #[.int .i64 0, .int .i64 0, .int .i64 0, .int .i64 0, .int .i64 0, .int .i64 0, .int .i64 0, .int .i64 0, .int .i64 0, .int .i64 0, .int .i64 0, .int .i64 0, .int .i64 0, .int .i64 0, .int .i64 0, .int .i64 0, .int .i64 0, .int .i64 0, .int .i64 0, .int .i64 0, .int .i64 0, .int .i64 0, .int .i64 0, .int .i64 0, .int .i64 0, .int .i64 0]), some [(0, some 1, some false), (1, some 2, some true), (3, some 2, some true), (5, some 6, some true), (11, some 1, some false), (12, some 1, some false), (13, some 1, some false), (14, some 1, some false), (15, some 4, some true), (19, some 1, some false), (20, some 1, some false), (21, some 1, some false), (22, some 1, some false), (23, some 1, some false), (24, some 1, some false), (25, some 1, some false)], none, none, none, false, false, false, false⟩ := by kernel_rfl
theorem Try.ti112 : tinfo Try.prog 112 = ⟨true, false, some 1, some (.slice none 0 0), none, none, some (205, some 9), none, false, true, false, false⟩ := by kernel_rfl
theorem Try.ti113 : tinfo Try.prog 113 = ⟨true, true, some 7, some (.agg #[.int .i64 0, .slice none 0 0, .bool false, .slice none 0 0, .slice none 0 0, .int .i64 0, .int .u64 0]), some [(0, some 1, some false), (1, some 1, some false), (2, some 1, some false), (3, some 1, some false), (4, some 1, some false), (5, some 1, some false), (6, some 1, some false)], none, none, none, false, false, false, false⟩ := by kernel_rfl
theorem Try.ti114 : tinfo Try.prog 114 = ⟨true, true, some 7, some (.agg #[.int .i64 0, .slice none 0 0, .bool false, .slice none 0 0, .slice none 0 0, .int .i64 0, .int .u64 0]), some [(0, some 1, some false), (1, some 1, some false), (2, some 1, some false), (3, some 1, some false), (4, some 1, some false), (5, some 1, some false), (6, some 1, some false)], none, none, none, false, false, false, false⟩ := by kernel_rfl
theorem Try.ti134 : tinfo Try.prog 134 = ⟨true, true, some 2, some (.agg #[.slice none 0 0, .bool false]), some [(0, some 1, some false), (1, some 1, some false)], none, none, none, false, false, false, false⟩ := by kernel_rfl
theorem Try.ti136 : tinfo Try.prog 136 = ⟨true, true, some 2, some (.agg #[.bool false, .slice none 0 0]), some [(0, some 1, some false), (1, some 1, some false)], none, none, none, false, false, false, false⟩ := by kernel_rfl
theorem Try.ti137 : tinfo Try.prog 137 = ⟨true, true, some 2, some (.agg #[.bool false, .slice none 0 0]), some [(0, some 1, some false), (1, some 1, some false)], none, none, none, false, false, false, false⟩ := by kernel_rfl
theorem Try.ti140 : tinfo Try.prog 140 = ⟨true, true, some 3, some (.agg #[.int .i64 0, .bool false, .slice none 0 0]), some [(0, some 1, some false), (1, some 1, some false), (2, some 1, some false)], none, none, none, false, false, false, false⟩ := by kernel_rfl
theorem Try.ti141 : tinfo Try.prog 141 = ⟨true, true, some 3, some (.agg #[.int .i64 0, .bool false, .slice none 0 0]), some [(0, some 1, some false), (1, some 1, some false), (2, some 1, some false)], none, none, none, false, false, false, false⟩ := by kernel_rfl
theorem Try.ti143 : tinfo Try.prog 143 = ⟨true, true, some 10, some (.agg #[.int .i64 0, .int .i64 0, .int .i64 0, .int .i64 0, .int .i64 0, .int .i64 0, .int .i64 0, .int .i64 0, .int .i64 0, .int .i64 0]), some [(0, some 1, some false), (1, some 1, some false), (2, some 1, some false), (3, some 1, some false), (4, some 6, some true)], none, none, none, false, false, false, false⟩ := by kernel_rfl
theorem Try.ti144 : tinfo Try.prog 144 = ⟨true, true, some 10, some (.agg #[.int .i64 0, .int .i64 0, .int .i64 0, .int .i64 0, .int .i64 0, .int .i64 0, .int .i64 0, .int .i64 0, .int .i64 0, .int .i64 0]), some [(0, some 1, some false), (1, some 1, some false), (2, some 1, some false), (3, some 1, some false), (4, some 6, some true)], none, none, none, false, false, false, false⟩ := by kernel_rfl
theorem Try.ti148 : tinfo Try.prog 148 = ⟨true, true, some 5, some (.agg #[.int .i64 0, .int .i64 0, .int .i64 0, .int .i64 0, .int .i64 0]), some [(0, some 2, some true), (2, some 2, some true), (4, some 1, some false)], none, none, none, false, false, false, false⟩ := by kernel_rfl
theorem Try.ti149 : tinfo Try.prog 149 = ⟨true, true, some 5, some (.agg #[.int .i64 0, .int .i64 0, .int .i64 0, .int .i64 0, .int .i64 0]), some [(0, some 2, some true), (2, some 2, some true), (4, some 1, some false)], none, none, none, false, false, false, false⟩ := by kernel_rfl
theorem Try.ti152 : tinfo Try.prog 152 = ⟨true, true, some 2, some (.agg #[.int .i64 0, .int .i64 0]), some [(0, some 1, some false), (1, some 1, some false)], none, none, none, false, false, false, false⟩ := by kernel_rfl
theorem Try.ti153 : tinfo Try.prog 153 = ⟨true, true, some 2, some (.agg #[.int .i64 0, .int .i64 0]), some [(0, some 1, some false), (1, some 1, some false)], none, none, none, false, false, false, false⟩ := by kernel_rfl
theorem Try.ti158 : tinfo Try.prog 158 = ⟨true, true, some 9, some (.agg #[.int .i64 0, .int .i64 0, .int .i64 0, .int .i64 0, .int .i64 0, .int .i64 0, .int .i64 0, .int .i64 0, .int .i64 0]), some [(0, some 1, some false), (1, some 1, some false), (2, some 1, some false), (3, some 1, some false), (4, some 1, some false), (5, some 1, some false), (6, some 1, some false), (7, some 1, some false), (8, some 1, some false)], none, none, none, false, false, false, false⟩ := by kernel_rfl
theorem Try.ti159 : tinfo Try.prog 159 = ⟨true, true, some 9, some (.agg #[.int .i64 0, .int .i64 0, .int .i64 0, .int .i64 0, .int .i64 0, .int .i64 0, .int .i64 0, .int .i64 0, .int .i64 0]), some [(0, some 1, some false), (1, some 1, some false), (2, some 1, some false), (3, some 1, some false), (4, some 1, some false), (5, some 1, some false), (6, some 1, some false), (7, some 1, some false), (8, some 1, some false)], none, none, none, false, false, false, false⟩ := by kernel_rfl
theorem Try.ti162 : tinfo Try.prog 162 = ⟨true, true, some 3, some (.agg #[.int .i64 0, .int .i64 0, .int .i64 0]), some [(0, some 1, some false), (1, some 1, some false), (2, some 1, some false)], none, none, none, false, false, false, false⟩ := by kernel_rfl
theorem Try.ti163 : tinfo Try.prog 163 = ⟨true, true, some 3, some (.agg #[.int .i64 0, .int .i64 0, .int .i64 0]), some [(0, some 1, some false), (1, some 1, some false), (2, some 1, some false)], none, none, none, false, false, false, false⟩ := by kernel_rfl
theorem Try.ti166 : tinfo Try.prog 166 = ⟨true, true, some 3, some (.agg #[.int .i64 0, .int .i64 0, .int .i64 0]), some [(0, some 1, some false), (1, some 1, some false), (2, some 1, some false)], none, none, none, false, false, false, false⟩ := by kernel_rfl
theorem Try.ti167 : tinfo Try.prog 167 = ⟨true, true, some 3, some (.agg #[.int .i64 0, .int .i64 0, .int .i64 0]), some [(0, some 1, some false), (1, some 1, some false), (2, some 1, some false)], none, none, none, false, false, false, false⟩ := by kernel_rfl
theorem Try.ti188 : tinfo Try.prog 188 = ⟨true, true, some 7, some (.agg #[.int .i64 0, .int .i64 0, .int .i64 0, .int .i64 0, .int .i64 0, .int .i64 0, .int .i64 0]), none, some (7, some 1, false), none, none, false, false, false, false⟩ := by kernel_rfl
theorem Try.ti204 : tinfo Try.prog 204 = ⟨true, true, some 9, some (.agg #[.int .i64 0, .int .i64 0, .int .i64 0, .int .i64 0, .int .i64 0, .int .i64 0, .int .i64 0, .int .i64 0, .int .i64 0]), some [(0, some 6, some true), (6, some 1, some false), (7, some 1, some false), (8, some 1, some false)], none, none, none, false, false, false, false⟩ := by kernel_rfl
theorem Try.ti205 : tinfo Try.prog 205 = ⟨true, true, some 9, some (.agg #[.int .i64 0, .int .i64 0, .int .i64 0, .int .i64 0, .int .i64 0, .int .i64 0, .int .i64 0, .int .i64 0, .int .i64 0]), some [(0, some 6, some true), (6, some 1, some false), (7, some 1, some false), (8, some 1, some false)], none, none, none, false, false, false, false⟩ := by kernel_rfl
theorem Try.ti213 : tinfo Try.prog 213 = ⟨true, false, some 1, some (.slice none 0 0), none, none, some (9, some 1), none, false, true, false, false⟩ := by kernel_rfl
theorem Try.ti222 : tinfo Try.prog 222 = ⟨true, true, some 4, some (.agg #[.pointer none, .pointer none, .pointer none, .string ⟨#[]⟩]), some [(0, some 1, some false), (1, some 1, some false), (2, some 1, some false), (3, some 1, some false)], none, none, none, false, false, false, false⟩ := by kernel_rfl
theorem Try.ti223 : tinfo Try.prog 223 = ⟨true, true, some 4, some (.agg #[.pointer none, .pointer none, .pointer none, .string ⟨#[]⟩]), some [(0, some 1, some false), (1, some 1, some false), (2, some 1, some false), (3, some 1, some false)], none, none, none, false, false, false, false⟩ := by kernel_rfl
theorem Try.ti224 : tinfo Try.prog 224 = ⟨true, true, some 0, some (.agg #[]), none, some (0, some 1, false), none, none, false, false, false, false⟩ := by kernel_rfl
theorem Try.ti225 : tinfo Try.prog 225 = ⟨true, true, some 0, some (.agg #[]), some [(0, some 0, some true)], none, none, none, false, false, false, false⟩ := by kernel_rfl
theorem Try.ti226 : tinfo Try.prog 226 = ⟨true, true, some 0, some (.agg #[]), some [(0, some 0, some true)], none, none, none, false, false, false, false⟩ := by kernel_rfl
theorem Try.ti227 : tinfo Try.prog 227 = ⟨true, false, some 1, some (.int .u32 0), none, none, none, some .u32, false, false, false, false⟩ := by kernel_rfl
theorem Try.ti228 : tinfo Try.prog 228 = ⟨true, false, some 1, some (.int .u8 0), none, none, none, some .u8, false, false, false, false⟩ := by kernel_rfl
theorem Try.ti229 : tinfo Try.prog 229 = ⟨true, false, some 1, some (.int .u8 0), none, none, none, some .u8, false, false, false, false⟩ := by kernel_rfl
theorem Try.ti231 : tinfo Try.prog 231 = ⟨true, false, some 1, some (.pointer none), none, none, none, none, true, false, false, false⟩ := by kernel_rfl
theorem Try.ti232 : tinfo Try.prog 232 = ⟨true, false, some 1, some (.int .i32 0), none, none, none, some .i32, false, false, false, false⟩ := by kernel_rfl
theorem Try.ti233 : tinfo Try.prog 233 = ⟨true, false, some 1, some (.int .i32 0), none, none, none, some .i32, false, false, false, false⟩ := by kernel_rfl
theorem Try.ti234 : tinfo Try.prog 234 = ⟨true, true, some 11, some (.agg #[.int .u64 0, .int .u64 0, .int .u32 0, .int .u8 0, .int .u8 0, .int .u8 0, .int .u8 0, .nilFunc, .pointer none, .int .i32 0, .int .i32 0]), some [(0, some 1, some false), (1, some 1, some false), (2, some 1, some false), (3, some 1, some false), (4, some 1, some false), (5, some 1, some false), (6, some 1, some false), (7, some 1, some false), (8, some 1, some false), (9, some 1, some false), (10, some 1, some false)], none, none, none, false, false, false, false⟩ := by kernel_rfl
theorem Try.ti235 : tinfo Try.prog 235 = ⟨true, true, some 11, some (.agg #[.int .u64 0, .int .u64 0, .int .u32 0, .int .u8 0, .int .u8 0, .int .u8 0, .int .u8 0, .nilFunc, .pointer none, .int .i32 0, .int .i32 0]), some [(0, some 1, some false), (1, some 1, some false), (2, some 1, some false), (3, some 1, some false), (4, some 1, some false), (5, some 1, some false), (6, some 1, some false), (7, some 1, some false), (8, some 1, some false), (9, some 1, some false), (10, some 1, some false)], none, none, none, false, false, false, false⟩ := by kernel_rfl
theorem Try.en3 : enters Try.prog 3 = true := by kernel_rfl
theorem Try.en4 : enters Try.prog 4 = true := by kernel_rfl
theorem Try.en5 : enters Try.prog 5 = true := by kernel_rfl
theorem Try.en6 : enters Try.prog 6 = true := by kernel_rfl
theorem Try.en7 : enters Try.prog 7 = true := by kernel_rfl
theorem Try.en8 : enters Try.prog 8 = true := by kernel_rfl
theorem Try.en9 : enters Try.prog 9 = true := by kernel_rfl
theorem Try.en10 : enters Try.prog 10 = true := by kernel_rfl
theorem Try.en11 : enters Try.prog 11 = true := by kernel_rfl
theorem Try.en12 : enters Try.prog 12 = true := by kernel_rfl
theorem Try.en13 : enters Try.prog 13 = true := by kernel_rfl
theorem Try.en14 : enters Try.prog 14 = true := by kernel_rfl
theorem Try.en15 : enters Try.prog 15 = true := by kernel_rfl
theorem Try.en16 : enters Try.prog 16 = true := by kernel_rfl
theorem Try.en17 : enters Try.prog 17 = true := by kernel_rfl
theorem Try.en18 : enters Try.prog 18 = true := by kernel_rfl
theorem Try.en19 : enters Try.prog 19 = true := by kernel_rfl
theorem Try.en20 : enters Try.prog 20 = true := by kernel_rfl
theorem Try.en21 : enters Try.prog 21 = true := by kernel_rfl
theorem Try.en22 : enters Try.prog 22 = true := by kernel_rfl
theorem Try.en23 : enters Try.prog 23 = true := by kernel_rfl
theorem Try.en24 : enters Try.prog 24 = true := by kernel_rfl
theorem Try.en25 : enters Try.prog 25 = true := by kernel_rfl
theorem Try.en26 : enters Try.prog 26 = true := by kernel_rfl
theorem Try.en27 : enters Try.prog 27 = true := by kernel_rfl
theorem Try.en28 : enters Try.prog 28 = true := by kernel_rfl
theorem Try.en29 : enters Try.prog 29 = true := by kernel_rfl
theorem Try.en30 : enters Try.prog 30 = true := by kernel_rfl
theorem Try.en31 : enters Try.prog 31 = true := by kernel_rfl
theorem Try.en32 : enters Try.prog 32 = true := by kernel_rfl
theorem Try.en33 : enters Try.prog 33 = true := by kernel_rfl
theorem Try.en34 : enters Try.prog 34 = true := by kernel_rfl
theorem Try.en35 : enters Try.prog 35 = true := by kernel_rfl
theorem Try.en36 : enters Try.prog 36 = true := by kernel_rfl
theorem Try.en37 : enters Try.prog 37 = true := by kernel_rfl
theorem Try.en38 : enters Try.prog 38 = true := by kernel_rfl
theorem Try.en39 : enters Try.prog 39 = true := by kernel_rfl
theorem Try.en40 : enters Try.prog 40 = true := by kernel_rfl
theorem Try.en41 : enters Try.prog 41 = true := by kernel_rfl
theorem Try.en42 : enters Try.prog 42 = true := by kernel_rfl
theorem Try.en43 : enters Try.prog 43 = true := by kernel_rfl
theorem Try.en44 : enters Try.prog 44 = true := by kernel_rfl
theorem Try.en45 : enters Try.prog 45 = true := by kernel_rfl
theorem Try.en46 : enters Try.prog 46 = true := by kernel_rfl
theorem Try.en47 : enters Try.prog 47 = true := by kernel_rfl
theorem Try.en48 : enters Try.prog 48 = true := by kernel_rfl
theorem Try.en49 : enters Try.prog 49 = true := by kernel_rfl
theorem Try.en50 : enters Try.prog 50 = true := by kernel_rfl
theorem Try.en51 : enters Try.prog 51 = true := by kernel_rfl
theorem Try.en52 : enters Try.prog 52 = true := by kernel_rfl
theorem Try.en53 : enters Try.prog 53 = true := by kernel_rfl
theorem Try.en54 : enters Try.prog 54 = true := by kernel_rfl
theorem Try.en55 : enters Try.prog 55 = true := by kernel_rfl
theorem Try.en56 : enters Try.prog 56 = true := by kernel_rfl
theorem Try.en57 : enters Try.prog 57 = true := by kernel_rfl
theorem Try.en58 : enters Try.prog 58 = true := by kernel_rfl
theorem Try.en59 : enters Try.prog 59 = true := by kernel_rfl
theorem Try.en60 : enters Try.prog 60 = true := by kernel_rfl
theorem Try.en61 : enters Try.prog 61 = true := by kernel_rfl
theorem Try.en62 : enters Try.prog 62 = true := by kernel_rfl
theorem Try.en63 : enters Try.prog 63 = true := by kernel_rfl
theorem Try.en64 : enters Try.prog 64 = true := by kernel_rfl
theorem Try.en65 : enters Try.prog 65 = true := by kernel_rfl
theorem Try.en66 : enters Try.prog 66 = true := by kernel_rfl
theorem Try.en67 : enters Try.prog 67 = true := by kernel_rfl
theorem Try.en68 : enters Try.prog 68 = true := by kernel_rfl
theorem Try.en69 : enters Try.prog 69 = true := by kernel_rfl
theorem Try.en70 : enters Try.prog 70 = true := by kernel_rfl
theorem Try.en71 : enters Try.prog 71 = true := by kernel_rfl
theorem Try.en72 : enters Try.prog 72 = true := by kernel_rfl
theorem Try.en73 : enters Try.prog 73 = true := by kernel_rfl
theorem Try.en74 : enters Try.prog 74 = true := by kernel_rfl
theorem Try.en75 : enters Try.prog 75 = true := by kernel_rfl
theorem Try.en76 : enters Try.prog 76 = true := by kernel_rfl
theorem Try.en77 : enters Try.prog 77 = true := by kernel_rfl
theorem Try.en78 : enters Try.prog 78 = true := by kernel_rfl
theorem Try.en79 : enters Try.prog 79 = true := by kernel_rfl
theorem Try.en80 : enters Try.prog 80 = true := by kernel_rfl
theorem Try.en81 : enters Try.prog 81 = true := by kernel_rfl
theorem Try.en82 : enters Try.prog 82 = true := by kernel_rfl
theorem Try.en83 : enters Try.prog 83 = true := by kernel_rfl
theorem Try.en84 : enters Try.prog 84 = true := by kernel_rfl
theorem Try.en85 : enters Try.prog 85 = true := by kernel_rfl
theorem Try.en86 : enters Try.prog 86 = true := by kernel_rfl
theorem Try.en87 : enters Try.prog 87 = true := by kernel_rfl
theorem Try.en88 : enters Try.prog 88 = true := by kernel_rfl
theorem Try.en89 : enters Try.prog 89 = true := by kernel_rfl
theorem Try.en90 : enters Try.prog 90 = true := by kernel_rfl
theorem Try.en91 : enters Try.prog 91 = true := by kernel_rfl
theorem Try.en92 : enters Try.prog 92 = true := by kernel_rfl
theorem Try.en93 : enters Try.prog 93 = true := by kernel_rfl
theorem Try.en94 : enters Try.prog 94 = true := by kernel_rfl
theorem Try.en95 : enters Try.prog 95 = true := by kernel_rfl
theorem Try.en96 : enters Try.prog 96 = true := by kernel_rfl
theorem Try.en97 : enters Try.prog 97 = true := by kernel_rfl
theorem Try.en98 : enters Try.prog 98 = true := by kernel_rfl
theorem Try.en99 : enters Try.prog 99 = true := by kernel_rfl
theorem Try.en100 : enters Try.prog 100 = true := by kernel_rfl
theorem Try.en101 : enters Try.prog 101 = true := by kernel_rfl
theorem Try.en102 : enters Try.prog 102 = true := by kernel_rfl
theorem Try.en103 : enters Try.prog 103 = true := by kernel_rfl
theorem Try.en104 : enters Try.prog 104 = true := by kernel_rfl
theorem Try.en105 : enters Try.prog 105 = true := by kernel_rfl
theorem Try.en106 : enters Try.prog 106 = true := by kernel_rfl
theorem Try.en107 : enters Try.prog 107 = true := by kernel_rfl
theorem Try.en108 : enters Try.prog 108 = true := by kernel_rfl
theorem Try.en109 : enters Try.prog 109 = true := by kernel_rfl
theorem Try.en110 : enters Try.prog 110 = true := by kernel_rfl
theorem Try.en111 : enters Try.prog 111 = true := by kernel_rfl
theorem Try.en112 : enters Try.prog 112 = true := by kernel_rfl
theorem Try.en113 : enters Try.prog 113 = true := by kernel_rfl
theorem Try.en114 : enters Try.prog 114 = true := by kernel_rfl
theorem Try.en115 : enters Try.prog 115 = true := by kernel_rfl
theorem Try.en116 : enters Try.prog 116 = true := by kernel_rfl
theorem Try.en117 : enters Try.prog 117 = true := by kernel_rfl
theorem Try.en118 : enters Try.prog 118 = true := by kernel_rfl
theorem Try.en119 : enters Try.prog 119 = true := by kernel_rfl
theorem Try.en120 : enters Try.prog 120 = true := by kernel_rfl
theorem Try.en121 : enters Try.prog 121 = true := by kernel_rfl
theorem Try.en122 : enters Try.prog 122 = true := by kernel_rfl
theorem Try.en123 : enters Try.prog 123 = true := by kernel_rfl
theorem Try.en124 : enters Try.prog 124 = true := by kernel_rfl
theorem Try.en125 : enters Try.prog 125 = true := by kernel_rfl
theorem Try.en126 : enters Try.prog 126 = true := by kernel_rfl
theorem Try.en127 : enters Try.prog 127 = true := by kernel_rfl
theorem Try.en128 : enters Try.prog 128 = true := by kernel_rfl
theorem Try.en129 : enters Try.prog 129 = true := by kernel_rfl
theorem Try.en130 : enters Try.prog 130 = true := by kernel_rfl
theorem Try.en131 : enters Try.prog 131 = true := by kernel_rfl
theorem Try.en132 : enters Try.prog 132 = true := by kernel_rfl
theorem Try.en133 : enters Try.prog 133 = true := by kernel_rfl
theorem Try.en134 : enters Try.prog 134 = true := by kernel_rfl
theorem Try.en135 : enters Try.prog 135 = true := by kernel_rfl
theorem Try.en136 : enters Try.prog 136 = true := by kernel_rfl
theorem Try.en137 : enters Try.prog 137 = true := by kernel_rfl
theorem Try.en138 : enters Try.prog 138 = true := by kernel_rfl
theorem Try.en139 : enters Try.prog 139 = true := by kernel_rfl
theorem Try.en140 : enters Try.prog 140 = true := by kernel_rfl
theorem Try.en141 : enters Try.prog 141 = true := by kernel_rfl
theorem Try.en142 : enters Try.prog 142 = true := by kernel_rfl
theorem Try.en143 : enters Try.prog 143 = true := by kernel_rfl
theorem Try.en144 : enters Try.prog 144 = true := by kernel_rfl
theorem Try.en145 : enters Try.prog 145 = true := by kernel_rfl
theorem Try.en146 : enters Try.prog 146 = true := by kernel_rfl
theorem Try.en147 : enters Try.prog 147 = true := by kernel_rfl
theorem Try.en148 : enters Try.prog 148 = true := by kernel_rfl
theorem Try.en149 : enters Try.prog 149 = true := by kernel_rfl
theorem Try.en150 : enters Try.prog 150 = true := by kernel_rfl
theorem Try.en151 : enters Try.prog 151 = true := by kernel_rfl
theorem Try.nt3 : Try.f3.ntmps = 67 := by kernel_rfl
theorem Try.rs3 : Try.f3.results.toList = [.tmp 6] := by kernel_rfl
theorem Try.nt4 : Try.f4.ntmps = 123 := by kernel_rfl
theorem Try.rs4 : Try.f4.results.toList = [.tmp 2] := by kernel_rfl
theorem Try.nt5 : Try.f5.ntmps = 146 := by kernel_rfl
theorem Try.rs5 : Try.f5.results.toList = [.tmp 6] := by kernel_rfl
theorem Try.nt6 : Try.f6.ntmps = 157 := by kernel_rfl
theorem Try.rs6 : Try.f6.results.toList = [.tmp 8] := by kernel_rfl
theorem Try.nt7 : Try.f7.ntmps = 114 := by kernel_rfl
theorem Try.rs7 : Try.f7.results.toList = [.tmp 4] := by kernel_rfl
theorem Try.nt8 : Try.f8.ntmps = 134 := by kernel_rfl
theorem Try.rs8 : Try.f8.results.toList = [.tmp 6] := by kernel_rfl
theorem Try.nt9 : Try.f9.ntmps = 120 := by kernel_rfl
theorem Try.rs9 : Try.f9.results.toList = [.tmp 4] := by kernel_rfl
theorem Try.nt10 : Try.f10.ntmps = 185 := by kernel_rfl
theorem Try.rs10 : Try.f10.results.toList = [.tmp 2] := by kernel_rfl
theorem Try.nt11 : Try.f11.ntmps = 110 := by kernel_rfl
theorem Try.rs11 : Try.f11.results.toList = [.tmp 4] := by kernel_rfl
theorem Try.nt12 : Try.f12.ntmps = 102 := by kernel_rfl
theorem Try.rs12 : Try.f12.results.toList = [.tmp 6] := by kernel_rfl
theorem Try.nt13 : Try.f13.ntmps = 96 := by kernel_rfl
theorem Try.rs13 : Try.f13.results.toList = [.tmp 6] := by kernel_rfl
theorem Try.nt14 : Try.f14.ntmps = 127 := by kernel_rfl
theorem Try.rs14 : Try.f14.results.toList = [.tmp 8] := by kernel_rfl
theorem Try.nt15 : Try.f15.ntmps = 94 := by kernel_rfl
theorem Try.rs15 : Try.f15.results.toList = [.tmp 6] := by kernel_rfl
theorem Try.nt16 : Try.f16.ntmps = 108 := by kernel_rfl
theorem Try.rs16 : Try.f16.results.toList = [.tmp 6] := by kernel_rfl
theorem Try.nt17 : Try.f17.ntmps = 93 := by kernel_rfl
theorem Try.rs17 : Try.f17.results.toList = [.tmp 4] := by kernel_rfl
theorem Try.nt18 : Try.f18.ntmps = 103 := by kernel_rfl
theorem Try.rs18 : Try.f18.results.toList = [.tmp 6] := by kernel_rfl
theorem Try.nt19 : Try.f19.ntmps = 117 := by kernel_rfl
theorem Try.rs19 : Try.f19.results.toList = [.tmp 0] := by kernel_rfl
theorem Try.nt20 : Try.f20.ntmps = 19 := by kernel_rfl
theorem Try.rs20 : Try.f20.results.toList = [.tmp 2] := by kernel_rfl
theorem Try.nt21 : Try.f21.ntmps = 12 := by kernel_rfl
theorem Try.rs21 : Try.f21.results.toList = [.tmp 4] := by kernel_rfl
theorem Try.nt22 : Try.f22.ntmps = 24 := by kernel_rfl
theorem Try.rs22 : Try.f22.results.toList = [.tmp 2] := by kernel_rfl
theorem Try.nt23 : Try.f23.ntmps = 56 := by kernel_rfl
theorem Try.rs23 : Try.f23.results.toList = [.tmp 6] := by kernel_rfl
theorem Try.nt24 : Try.f24.ntmps = 53 := by kernel_rfl
theorem Try.rs24 : Try.f24.results.toList = [] := by kernel_rfl
theorem Try.nt25 : Try.f25.ntmps = 12 := by kernel_rfl
theorem Try.rs25 : Try.f25.results.toList = [.tmp 4] := by kernel_rfl
theorem Try.nt26 : Try.f26.ntmps = 12 := by kernel_rfl
theorem Try.rs26 : Try.f26.results.toList = [] := by kernel_rfl
theorem Try.nt27 : Try.f27.ntmps = 15 := by kernel_rfl
theorem Try.rs27 : Try.f27.results.toList = [.tmp 4] := by kernel_rfl
theorem Try.nt28 : Try.f28.ntmps = 16 := by kernel_rfl
theorem Try.rs28 : Try.f28.results.toList = [] := by kernel_rfl
theorem Try.nt29 : Try.f29.ntmps = 17 := by kernel_rfl
theorem Try.rs29 : Try.f29.results.toList = [.tmp 4] := by kernel_rfl
theorem Try.nt30 : Try.f30.ntmps = 17 := by kernel_rfl
theorem Try.rs30 : Try.f30.results.toList = [.tmp 2, .tmp 3] := by kernel_rfl
theorem Try.nt31 : Try.f31.ntmps = 20 := by kernel_rfl
theorem Try.rs31 : Try.f31.results.toList = [.tmp 2] := by kernel_rfl
theorem Try.nt32 : Try.f32.ntmps = 7 := by kernel_rfl
theorem Try.rs32 : Try.f32.results.toList = [.tmp 2] := by kernel_rfl
theorem Try.nt33 : Try.f33.ntmps = 33 := by kernel_rfl
theorem Try.rs33 : Try.f33.results.toList = [.tmp 4] := by kernel_rfl
theorem Try.nt34 : Try.f34.ntmps = 19 := by kernel_rfl
theorem Try.rs34 : Try.f34.results.toList = [.tmp 2] := by kernel_rfl
theorem Try.nt35 : Try.f35.ntmps = 16 := by kernel_rfl
theorem Try.rs35 : Try.f35.results.toList = [.tmp 2] := by kernel_rfl
theorem Try.nt36 : Try.f36.ntmps = 137 := by kernel_rfl
theorem Try.rs36 : Try.f36.results.toList = [.tmp 0] := by kernel_rfl
theorem Try.nt37 : Try.f37.ntmps = 35 := by kernel_rfl
theorem Try.rs37 : Try.f37.results.toList = [.tmp 4, .tmp 5] := by kernel_rfl
theorem Try.nt38 : Try.f38.ntmps = 32 := by kernel_rfl
theorem Try.rs38 : Try.f38.results.toList = [.tmp 4] := by kernel_rfl
theorem Try.nt39 : Try.f39.ntmps = 10 := by kernel_rfl
theorem Try.rs39 : Try.f39.results.toList = [] := by kernel_rfl
theorem Try.nt40 : Try.f40.ntmps = 60 := by kernel_rfl
theorem Try.rs40 : Try.f40.results.toList = [.tmp 4, .tmp 5] := by kernel_rfl
theorem Try.nt41 : Try.f41.ntmps = 68 := by kernel_rfl
theorem Try.rs41 : Try.f41.results.toList = [.tmp 4, .tmp 5] := by kernel_rfl
theorem Try.nt42 : Try.f42.ntmps = 28 := by kernel_rfl
theorem Try.rs42 : Try.f42.results.toList = [.tmp 4] := by kernel_rfl
theorem Try.nt43 : Try.f43.ntmps = 11 := by kernel_rfl
theorem Try.rs43 : Try.f43.results.toList = [.tmp 2] := by kernel_rfl
theorem Try.nt44 : Try.f44.ntmps = 10 := by kernel_rfl
theorem Try.rs44 : Try.f44.results.toList = [.tmp 2] := by kernel_rfl
theorem Try.nt45 : Try.f45.ntmps = 19 := by kernel_rfl
theorem Try.rs45 : Try.f45.results.toList = [.tmp 2] := by kernel_rfl
theorem Try.nt46 : Try.f46.ntmps = 16 := by kernel_rfl
theorem Try.rs46 : Try.f46.results.toList = [.tmp 2] := by kernel_rfl
theorem Try.nt47 : Try.f47.ntmps = 21 := by kernel_rfl
theorem Try.rs47 : Try.f47.results.toList = [.tmp 2] := by kernel_rfl
theorem Try.nt48 : Try.f48.ntmps = 21 := by kernel_rfl
theorem Try.rs48 : Try.f48.results.toList = [.tmp 2] := by kernel_rfl
theorem Try.nt49 : Try.f49.ntmps = 21 := by kernel_rfl
theorem Try.rs49 : Try.f49.results.toList = [.cell 2 37] := by kernel_rfl
theorem Try.nt50 : Try.f50.ntmps = 28 := by kernel_rfl
theorem Try.rs50 : Try.f50.results.toList = [.cell 2 39] := by kernel_rfl
theorem Try.nt51 : Try.f51.ntmps = 45 := by kernel_rfl
theorem Try.rs51 : Try.f51.results.toList = [.tmp 4] := by kernel_rfl
theorem Try.nt52 : Try.f52.ntmps = 57 := by kernel_rfl
theorem Try.rs52 : Try.f52.results.toList = [.tmp 4] := by kernel_rfl
theorem Try.nt53 : Try.f53.ntmps = 21 := by kernel_rfl
theorem Try.rs53 : Try.f53.results.toList = [.cell 2 37] := by kernel_rfl
theorem Try.nt54 : Try.f54.ntmps = 40 := by kernel_rfl
theorem Try.rs54 : Try.f54.results.toList = [.cell 2 39] := by kernel_rfl
theorem Try.nt55 : Try.f55.ntmps = 44 := by kernel_rfl
theorem Try.rs55 : Try.f55.results.toList = [.tmp 4] := by kernel_rfl
theorem Try.nt56 : Try.f56.ntmps = 59 := by kernel_rfl
theorem Try.rs56 : Try.f56.results.toList = [.tmp 2] := by kernel_rfl
theorem Try.nt57 : Try.f57.ntmps = 68 := by kernel_rfl
theorem Try.rs57 : Try.f57.results.toList = [.tmp 0] := by kernel_rfl
theorem Try.nt58 : Try.f58.ntmps = 87 := by kernel_rfl
theorem Try.rs58 : Try.f58.results.toList = [.tmp 2, .tmp 3] := by kernel_rfl
theorem Try.nt59 : Try.f59.ntmps = 374 := by kernel_rfl
theorem Try.rs59 : Try.f59.results.toList = [.tmp 2, .tmp 3] := by kernel_rfl
theorem Try.nt60 : Try.f60.ntmps = 81 := by kernel_rfl
theorem Try.rs60 : Try.f60.results.toList = [.cell 2 96, .tmp 3] := by kernel_rfl
theorem Try.nt61 : Try.f61.ntmps = 311 := by kernel_rfl
theorem Try.rs61 : Try.f61.results.toList = [.cell 2 96, .tmp 3] := by kernel_rfl
theorem Try.nt62 : Try.f62.ntmps = 308 := by kernel_rfl
theorem Try.rs62 : Try.f62.results.toList = [.tmp 4] := by kernel_rfl
theorem Try.nt63 : Try.f63.ntmps = 73 := by kernel_rfl
theorem Try.rs63 : Try.f63.results.toList = [.tmp 4] := by kernel_rfl
theorem Try.nt64 : Try.f64.ntmps = 19 := by kernel_rfl
theorem Try.rs64 : Try.f64.results.toList = [.tmp 2] := by kernel_rfl
theorem Try.nt65 : Try.f65.ntmps = 111 := by kernel_rfl
theorem Try.rs65 : Try.f65.results.toList = [.tmp 0] := by kernel_rfl
theorem Try.nt66 : Try.f66.ntmps = 34 := by kernel_rfl
theorem Try.rs66 : Try.f66.results.toList = [.tmp 2, .tmp 3] := by kernel_rfl
theorem Try.nt67 : Try.f67.ntmps = 158 := by kernel_rfl
theorem Try.rs67 : Try.f67.results.toList = [.tmp 2, .tmp 3] := by kernel_rfl
theorem Try.nt68 : Try.f68.ntmps = 27 := by kernel_rfl
theorem Try.rs68 : Try.f68.results.toList = [.cell 2 111, .tmp 3] := by kernel_rfl
theorem Try.nt69 : Try.f69.ntmps = 135 := by kernel_rfl
theorem Try.rs69 : Try.f69.results.toList = [.cell 2 111, .tmp 3] := by kernel_rfl
theorem Try.nt70 : Try.f70.ntmps = 29 := by kernel_rfl
theorem Try.rs70 : Try.f70.results.toList = [.tmp 4, .tmp 5] := by kernel_rfl
theorem Try.nt71 : Try.f71.ntmps = 160 := by kernel_rfl
theorem Try.rs71 : Try.f71.results.toList = [.tmp 4, .tmp 5] := by kernel_rfl
theorem Try.nt72 : Try.f72.ntmps = 42 := by kernel_rfl
theorem Try.rs72 : Try.f72.results.toList = [.cell 4 114, .tmp 5] := by kernel_rfl
theorem Try.nt73 : Try.f73.ntmps = 154 := by kernel_rfl
theorem Try.rs73 : Try.f73.results.toList = [.cell 4 114, .tmp 5] := by kernel_rfl
theorem Try.nt74 : Try.f74.ntmps = 115 := by kernel_rfl
theorem Try.rs74 : Try.f74.results.toList = [.tmp 4] := by kernel_rfl
theorem Try.nt75 : Try.f75.ntmps = 8 := by kernel_rfl
theorem Try.rs75 : Try.f75.results.toList = [.tmp 2] := by kernel_rfl
theorem Try.nt76 : Try.f76.ntmps = 10 := by kernel_rfl
theorem Try.rs76 : Try.f76.results.toList = [.tmp 2] := by kernel_rfl
theorem Try.nt77 : Try.f77.ntmps = 8 := by kernel_rfl
theorem Try.rs77 : Try.f77.results.toList = [.tmp 2] := by kernel_rfl
theorem Try.nt78 : Try.f78.ntmps = 36 := by kernel_rfl
theorem Try.rs78 : Try.f78.results.toList = [.cell 6 39, .tmp 7] := by kernel_rfl
theorem Try.nt79 : Try.f79.ntmps = 21 := by kernel_rfl
theorem Try.rs79 : Try.f79.results.toList = [.tmp 2] := by kernel_rfl
theorem Try.nt80 : Try.f80.ntmps = 9 := by kernel_rfl
theorem Try.rs80 : Try.f80.results.toList = [.tmp 4] := by kernel_rfl
theorem Try.nt81 : Try.f81.ntmps = 7 := by kernel_rfl
theorem Try.rs81 : Try.f81.results.toList = [.tmp 2] := by kernel_rfl
theorem Try.nt82 : Try.f82.ntmps = 22 := by kernel_rfl
theorem Try.rs82 : Try.f82.results.toList = [] := by kernel_rfl
theorem Try.nt83 : Try.f83.ntmps = 6 := by kernel_rfl
theorem Try.rs83 : Try.f83.results.toList = [] := by kernel_rfl
theorem Try.nt84 : Try.f84.ntmps = 22 := by kernel_rfl
theorem Try.rs84 : Try.f84.results.toList = [] := by kernel_rfl
theorem Try.nt85 : Try.f85.ntmps = 13 := by kernel_rfl
theorem Try.rs85 : Try.f85.results.toList = [] := by kernel_rfl
theorem Try.nt86 : Try.f86.ntmps = 22 := by kernel_rfl
theorem Try.rs86 : Try.f86.results.toList = [] := by kernel_rfl
theorem Try.nt87 : Try.f87.ntmps = 10 := by kernel_rfl
theorem Try.rs87 : Try.f87.results.toList = [] := by kernel_rfl
theorem Try.nt88 : Try.f88.ntmps = 22 := by kernel_rfl
theorem Try.rs88 : Try.f88.results.toList = [] := by kernel_rfl
theorem Try.nt89 : Try.f89.ntmps = 19 := by kernel_rfl
theorem Try.rs89 : Try.f89.results.toList = [] := by kernel_rfl
theorem Try.nt90 : Try.f90.ntmps = 22 := by kernel_rfl
theorem Try.rs90 : Try.f90.results.toList = [] := by kernel_rfl
theorem Try.nt91 : Try.f91.ntmps = 32 := by kernel_rfl
theorem Try.rs91 : Try.f91.results.toList = [] := by kernel_rfl
theorem Try.nt92 : Try.f92.ntmps = 22 := by kernel_rfl
theorem Try.rs92 : Try.f92.results.toList = [] := by kernel_rfl
theorem Try.nt93 : Try.f93.ntmps = 13 := by kernel_rfl
theorem Try.rs93 : Try.f93.results.toList = [] := by kernel_rfl
theorem Try.nt94 : Try.f94.ntmps = 22 := by kernel_rfl
theorem Try.rs94 : Try.f94.results.toList = [] := by kernel_rfl
theorem Try.nt95 : Try.f95.ntmps = 13 := by kernel_rfl
theorem Try.rs95 : Try.f95.results.toList = [] := by kernel_rfl
theorem Try.nt96 : Try.f96.ntmps = 22 := by kernel_rfl
theorem Try.rs96 : Try.f96.results.toList = [] := by kernel_rfl
theorem Try.nt97 : Try.f97.ntmps = 18 := by kernel_rfl
theorem Try.rs97 : Try.f97.results.toList = [] := by kernel_rfl
theorem Try.nt98 : Try.f98.ntmps = 4 := by kernel_rfl
theorem Try.rs98 : Try.f98.results.toList = [.tmp 2] := by kernel_rfl
theorem Try.nt99 : Try.f99.ntmps = 23 := by kernel_rfl
theorem Try.rs99 : Try.f99.results.toList = [.tmp 4] := by kernel_rfl
theorem Try.nt100 : Try.f100.ntmps = 23 := by kernel_rfl
theorem Try.rs100 : Try.f100.results.toList = [.tmp 4] := by kernel_rfl
theorem Try.nt101 : Try.f101.ntmps = 9 := by kernel_rfl
theorem Try.rs101 : Try.f101.results.toList = [.cell 1 149] := by kernel_rfl
theorem Try.nt102 : Try.f102.ntmps = 23 := by kernel_rfl
theorem Try.rs102 : Try.f102.results.toList = [.tmp 4] := by kernel_rfl
theorem Try.nt103 : Try.f103.ntmps = 7 := by kernel_rfl
theorem Try.rs103 : Try.f103.results.toList = [.cell 1 153] := by kernel_rfl
theorem Try.nt104 : Try.f104.ntmps = 23 := by kernel_rfl
theorem Try.rs104 : Try.f104.results.toList = [.tmp 4] := by kernel_rfl
theorem Try.nt105 : Try.f105.ntmps = 13 := by kernel_rfl
theorem Try.rs105 : Try.f105.results.toList = [.cell 1 144] := by kernel_rfl
theorem Try.nt106 : Try.f106.ntmps = 23 := by kernel_rfl
theorem Try.rs106 : Try.f106.results.toList = [.tmp 4] := by kernel_rfl
theorem Try.nt107 : Try.f107.ntmps = 22 := by kernel_rfl
theorem Try.rs107 : Try.f107.results.toList = [.cell 1 159] := by kernel_rfl
theorem Try.nt108 : Try.f108.ntmps = 23 := by kernel_rfl
theorem Try.rs108 : Try.f108.results.toList = [.tmp 4] := by kernel_rfl
theorem Try.nt109 : Try.f109.ntmps = 9 := by kernel_rfl
theorem Try.rs109 : Try.f109.results.toList = [.cell 1 163] := by kernel_rfl
theorem Try.nt110 : Try.f110.ntmps = 23 := by kernel_rfl
theorem Try.rs110 : Try.f110.results.toList = [.tmp 4] := by kernel_rfl
theorem Try.nt111 : Try.f111.ntmps = 9 := by kernel_rfl
theorem Try.rs111 : Try.f111.results.toList = [.cell 1 167] := by kernel_rfl
theorem Try.nt112 : Try.f112.ntmps = 23 := by kernel_rfl
theorem Try.rs112 : Try.f112.results.toList = [.tmp 4] := by kernel_rfl
theorem Try.nt113 : Try.f113.ntmps = 15 := by kernel_rfl
theorem Try.rs113 : Try.f113.results.toList = [.cell 1 141] := by kernel_rfl
theorem Try.nt114 : Try.f114.ntmps = 10 := by kernel_rfl
theorem Try.rs114 : Try.f114.results.toList = [.tmp 4] := by kernel_rfl
theorem Try.nt115 : Try.f115.ntmps = 18 := by kernel_rfl
theorem Try.rs115 : Try.f115.results.toList = [.cell 2 188] := by kernel_rfl
theorem Try.nt116 : Try.f116.ntmps = 32 := by kernel_rfl
theorem Try.rs116 : Try.f116.results.toList = [.tmp 6] := by kernel_rfl
theorem Try.nt117 : Try.f117.ntmps = 24 := by kernel_rfl
theorem Try.rs117 : Try.f117.results.toList = [.tmp 4] := by kernel_rfl
theorem Try.nt118 : Try.f118.ntmps = 26 := by kernel_rfl
theorem Try.rs118 : Try.f118.results.toList = [.tmp 4] := by kernel_rfl
theorem Try.nt119 : Try.f119.ntmps = 26 := by kernel_rfl
theorem Try.rs119 : Try.f119.results.toList = [.tmp 4] := by kernel_rfl
theorem Try.nt120 : Try.f120.ntmps = 26 := by kernel_rfl
theorem Try.rs120 : Try.f120.results.toList = [.tmp 4] := by kernel_rfl
theorem Try.nt121 : Try.f121.ntmps = 26 := by kernel_rfl
theorem Try.rs121 : Try.f121.results.toList = [.tmp 4] := by kernel_rfl
theorem Try.nt122 : Try.f122.ntmps = 26 := by kernel_rfl
theorem Try.rs122 : Try.f122.results.toList = [.tmp 4] := by kernel_rfl
theorem Try.nt123 : Try.f123.ntmps = 26 := by kernel_rfl
theorem Try.rs123 : Try.f123.results.toList = [.tmp 4] := by kernel_rfl
theorem Try.nt124 : Try.f124.ntmps = 26 := by kernel_rfl
theorem Try.rs124 : Try.f124.results.toList = [.tmp 4] := by kernel_rfl
theorem Try.nt125 : Try.f125.ntmps = 161 := by kernel_rfl
theorem Try.rs125 : Try.f125.results.toList = [.tmp 4] := by kernel_rfl
theorem Try.nt126 : Try.f126.ntmps = 18 := by kernel_rfl
theorem Try.rs126 : Try.f126.results.toList = [.tmp 2, .tmp 3] := by kernel_rfl
theorem Try.nt127 : Try.f127.ntmps = 119 := by kernel_rfl
theorem Try.rs127 : Try.f127.results.toList = [.cell 4 111] := by kernel_rfl
theorem Try.nt128 : Try.f128.ntmps = 22 := by kernel_rfl
theorem Try.rs128 : Try.f128.results.toList = [.tmp 4, .tmp 5] := by kernel_rfl
theorem Try.nt129 : Try.f129.ntmps = 33 := by kernel_rfl
theorem Try.rs129 : Try.f129.results.toList = [] := by kernel_rfl
theorem Try.nt130 : Try.f130.ntmps = 9 := by kernel_rfl
theorem Try.rs130 : Try.f130.results.toList = [] := by kernel_rfl
theorem Try.nt131 : Try.f131.ntmps = 108 := by kernel_rfl
theorem Try.rs131 : Try.f131.results.toList = [.cell 4 114] := by kernel_rfl
theorem Try.nt132 : Try.f132.ntmps = 17 := by kernel_rfl
theorem Try.rs132 : Try.f132.results.toList = [.cell 2 205] := by kernel_rfl
theorem Try.nt133 : Try.f133.ntmps = 19 := by kernel_rfl
theorem Try.rs133 : Try.f133.results.toList = [.tmp 2] := by kernel_rfl
theorem Try.nt134 : Try.f134.ntmps = 25 := by kernel_rfl
theorem Try.rs134 : Try.f134.results.toList = [.tmp 6] := by kernel_rfl
theorem Try.nt135 : Try.f135.ntmps = 29 := by kernel_rfl
theorem Try.rs135 : Try.f135.results.toList = [.tmp 4] := by kernel_rfl
theorem Try.nt136 : Try.f136.ntmps = 36 := by kernel_rfl
theorem Try.rs136 : Try.f136.results.toList = [.cell 6 39, .tmp 7] := by kernel_rfl
theorem Try.nt137 : Try.f137.ntmps = 19 := by kernel_rfl
theorem Try.rs137 : Try.f137.results.toList = [.tmp 4] := by kernel_rfl
theorem Try.nt138 : Try.f138.ntmps = 125 := by kernel_rfl
theorem Try.rs138 : Try.f138.results.toList = [] := by kernel_rfl
theorem Try.nt139 : Try.f139.ntmps = 11 := by kernel_rfl
theorem Try.rs139 : Try.f139.results.toList = [.cell 1 205] := by kernel_rfl
theorem Try.nt140 : Try.f140.ntmps = 9 := by kernel_rfl
theorem Try.rs140 : Try.f140.results.toList = [.tmp 2] := by kernel_rfl
theorem Try.nt141 : Try.f141.ntmps = 30 := by kernel_rfl
theorem Try.rs141 : Try.f141.results.toList = [.tmp 6] := by kernel_rfl
theorem Try.nt142 : Try.f142.ntmps = 36 := by kernel_rfl
theorem Try.rs142 : Try.f142.results.toList = [.tmp 6] := by kernel_rfl
theorem Try.nt143 : Try.f143.ntmps = 17 := by kernel_rfl
theorem Try.rs143 : Try.f143.results.toList = [.tmp 4] := by kernel_rfl
theorem Try.nt144 : Try.f144.ntmps = 17 := by kernel_rfl
theorem Try.rs144 : Try.f144.results.toList = [] := by kernel_rfl
theorem Try.nt145 : Try.f145.ntmps = 4 := by kernel_rfl
theorem Try.rs145 : Try.f145.results.toList = [.tmp 2] := by kernel_rfl
theorem Try.nt146 : Try.f146.ntmps = 17 := by kernel_rfl
theorem Try.rs146 : Try.f146.results.toList = [.tmp 2] := by kernel_rfl
theorem Try.nt147 : Try.f147.ntmps = 15 := by kernel_rfl
theorem Try.rs147 : Try.f147.results.toList = [.tmp 2] := by kernel_rfl
theorem Try.nt148 : Try.f148.ntmps = 20 := by kernel_rfl
theorem Try.rs148 : Try.f148.results.toList = [.tmp 4] := by kernel_rfl
theorem Try.nt149 : Try.f149.ntmps = 18 := by kernel_rfl
theorem Try.rs149 : Try.f149.results.toList = [.tmp 2] := by kernel_rfl
theorem Try.nt150 : Try.f150.ntmps = 21 := by kernel_rfl
theorem Try.rs150 : Try.f150.results.toList = [.tmp 2] := by kernel_rfl
theorem Try.nt151 : Try.f151.ntmps = 6 := by kernel_rfl
theorem Try.rs151 : Try.f151.results.toList = [.tmp 2] := by kernel_rfl
theorem Try.nt152 : Try.f152.ntmps = 1 := by kernel_rfl
theorem Try.rs152 : Try.f152.results.toList = [] := by kernel_rfl
theorem Try.nt153 : Try.f153.ntmps = 1 := by kernel_rfl
theorem Try.rs153 : Try.f153.results.toList = [] := by kernel_rfl
theorem Try.nt154 : Try.f154.ntmps = 1 := by kernel_rfl
theorem Try.rs154 : Try.f154.results.toList = [] := by kernel_rfl
theorem Try.nt155 : Try.f155.ntmps = 1 := by kernel_rfl
theorem Try.rs155 : Try.f155.results.toList = [] := by kernel_rfl
theorem Try.nt156 : Try.f156.ntmps = 1 := by kernel_rfl
theorem Try.rs156 : Try.f156.results.toList = [] := by kernel_rfl
theorem Try.nt157 : Try.f157.ntmps = 1 := by kernel_rfl
theorem Try.rs157 : Try.f157.results.toList = [] := by kernel_rfl
theorem Try.nt158 : Try.f158.ntmps = 1 := by kernel_rfl
theorem Try.rs158 : Try.f158.results.toList = [] := by kernel_rfl
theorem Try.nt159 : Try.f159.ntmps = 1 := by kernel_rfl
theorem Try.rs159 : Try.f159.results.toList = [] := by kernel_rfl
theorem Try.nt160 : Try.f160.ntmps = 1 := by kernel_rfl
theorem Try.rs160 : Try.f160.results.toList = [] := by kernel_rfl
theorem Try.nt161 : Try.f161.ntmps = 1 := by kernel_rfl
theorem Try.rs161 : Try.f161.results.toList = [] := by kernel_rfl
theorem Try.nt162 : Try.f162.ntmps = 1 := by kernel_rfl
theorem Try.rs162 : Try.f162.results.toList = [] := by kernel_rfl
theorem Try.nt163 : Try.f163.ntmps = 1 := by kernel_rfl
theorem Try.rs163 : Try.f163.results.toList = [] := by kernel_rfl
theorem Try.nt164 : Try.f164.ntmps = 1 := by kernel_rfl
theorem Try.rs164 : Try.f164.results.toList = [] := by kernel_rfl
theorem Try.nt165 : Try.f165.ntmps = 1 := by kernel_rfl
theorem Try.rs165 : Try.f165.results.toList = [] := by kernel_rfl
theorem Try.nt166 : Try.f166.ntmps = 1 := by kernel_rfl
theorem Try.rs166 : Try.f166.results.toList = [] := by kernel_rfl
theorem Try.nt167 : Try.f167.ntmps = 1 := by kernel_rfl
theorem Try.rs167 : Try.f167.results.toList = [] := by kernel_rfl
theorem Try.vcT : type_of% (And.intro (And.intro (And.intro (And.intro (And.intro (And.intro (And.intro (And.intro (And.intro (Try.ti2) (Try.ti3)) (And.intro (Try.ti4) (Try.ti5))) (And.intro (And.intro (Try.ti6) (Try.ti7)) (And.intro (Try.ti8) (Try.ti9)))) (And.intro (And.intro (And.intro (Try.ti10) (Try.ti11)) (And.intro (Try.ti12) (Try.ti13))) (And.intro (And.intro (Try.ti14) (Try.ti15)) (And.intro (Try.ti16) (And.intro (Try.ti17) (Try.ti18)))))) (And.intro (And.intro (And.intro (And.intro (Try.ti19) (Try.ti21)) (And.intro (Try.ti22) (Try.ti24))) (And.intro (And.intro (Try.ti28) (Try.ti30)) (And.intro (Try.ti31) (And.intro (Try.ti32) (Try.ti33))))) (And.intro (And.intro (And.intro (Try.ti34) (Try.ti35)) (And.intro (Try.ti36) (Try.ti37))) (And.intro (And.intro (Try.ti38) (Try.ti39)) (And.intro (Try.ti40) (And.intro (Try.ti41) (Try.ti49))))))) (And.intro (And.intro (And.intro (And.intro (And.intro (Try.ti52) (Try.ti53)) (And.intro (Try.ti59) (Try.ti60))) (And.intro (And.intro (Try.ti61) (Try.ti65)) (And.intro (Try.ti66) (And.intro (Try.ti67) (Try.ti84))))) (And.intro (And.intro (And.intro (Try.ti85) (Try.ti87)) (And.intro (Try.ti88) (Try.ti89))) (And.intro (And.intro (Try.ti90) (Try.ti91)) (And.intro (Try.ti92) (And.intro (Try.ti93) (Try.ti94)))))) (And.intro (And.intro (And.intro (And.intro (Try.ti95) (Try.ti96)) (And.intro (Try.ti108) (Try.ti109))) (And.intro (And.intro (Try.ti110) (Try.ti111)) (And.intro (Try.ti112) (And.intro (Try.ti113) (Try.ti114))))) (And.intro (And.intro (And.intro (Try.ti134) (Try.ti136)) (And.intro (Try.ti137) (Try.ti140))) (And.intro (And.intro (Try.ti141) (Try.ti143)) (And.intro (Try.ti144) (And.intro (Try.ti148) (Try.ti149)))))))) (And.intro (And.intro (And.intro (And.intro (And.intro (And.intro (Try.ti152) (Try.ti153)) (And.intro (Try.ti158) (Try.ti159))) (And.intro (And.intro (Try.ti162) (Try.ti163)) (And.intro (Try.ti166) (And.intro (Try.ti167) (Try.ti188))))) (And.intro (And.intro (And.intro (Try.ti204) (Try.ti205)) (And.intro (Try.ti213) (Try.ti222))) (And.intro (And.intro (Try.ti223) (Try.ti224)) (And.intro (Try.ti225) (And.intro (Try.ti226) (Try.ti227)))))) (And.intro (And.intro (And.intro (And.intro (Try.ti228) (Try.ti229)) (And.intro (Try.ti231) (Try.ti232))) (And.intro (And.intro (Try.ti233) (Try.ti234)) (And.intro (Try.ti235) (And.intro (Try.en3) (Try.en4))))) (And.intro (And.intro (And.intro (Try.en5) (Try.en6)) (And.intro (Try.en7) (Try.en8))) (And.intro (And.intro (Try.en9) (Try.en10)) (And.intro (Try.en11) (And.intro (Try.en12) (Try.en13))))))) (And.intro (And.intro (And.intro (And.intro (And.intro (Try.en14) (Try.en15)) (And.intro (Try.en16) (Try.en17))) (And.intro (And.intro (Try.en18) (Try.en19)) (And.intro (Try.en20) (And.intro (Try.en21) (Try.en22))))) (And.intro (And.intro (And.intro (Try.en23) (Try.en24)) (And.intro (Try.en25) (Try.en26))) (And.intro (And.intro (Try.en27) (Try.en28)) (And.intro (Try.en29) (And.intro (Try.en30) (Try.en31)))))) (And.intro (And.intro (And.intro (And.intro (Try.en32) (Try.en33)) (And.intro (Try.en34) (Try.en35))) (And.intro (And.intro (Try.en36) (Try.en37)) (And.intro (Try.en38) (And.intro (Try.en39) (Try.en40))))) (And.intro (And.intro (And.intro (Try.en41) (Try.en42)) (And.intro (Try.en43) (Try.en44))) (And.intro (And.intro (Try.en45) (Try.en46)) (And.intro (Try.en47) (And.intro (Try.en48) (Try.en49))))))))) (And.intro (And.intro (And.intro (And.intro (And.intro (And.intro (And.intro (Try.en50) (Try.en51)) (And.intro (Try.en52) (Try.en53))) (And.intro (And.intro (Try.en54) (Try.en55)) (And.intro (Try.en56) (And.intro (Try.en57) (Try.en58))))) (And.intro (And.intro (And.intro (Try.en59) (Try.en60)) (And.intro (Try.en61) (Try.en62))) (And.intro (And.intro (Try.en63) (Try.en64)) (And.intro (Try.en65) (And.intro (Try.en66) (Try.en67)))))) (And.intro (And.intro (And.intro (And.intro (Try.en68) (Try.en69)) (And.intro (Try.en70) (Try.en71))) (And.intro (And.intro (Try.en72) (Try.en73)) (And.intro (Try.en74) (And.intro (Try.en75) (Try.en76))))) (And.intro (And.intro (And.intro (Try.en77) (Try.en78)) (And.intro (Try.en79) (Try.en80))) (And.intro (And.intro (Try.en81) (Try.en82)) (And.intro (Try.en83) (And.intro (Try.en84) (Try.en85))))))) (And.intro (And.intro (And.intro (And.intro (And.intro (Try.en86) (Try.en87)) (And.intro (Try.en88) (Try.en89))) (And.intro (And.intro (Try.en90) (Try.en91)) (And.intro (Try.en92) (And.intro (Try.en93) (Try.en94))))) (And.intro (And.intro (And.intro (Try.en95) (Try.en96)) (And.intro (Try.en97) (Try.en98))) (And.intro (And.intro (Try.en99) (Try.en100)) (And.intro (Try.en101) (And.intro (Try.en102) (Try.en103)))))) (And.intro (And.intro (And.intro (And.intro (Try.en104) (Try.en105)) (And.intro (Try.en106) (Try.en107))) (And.intro (And.intro (Try.en108) (Try.en109)) (And.intro (Try.en110) (And.intro (Try.en111) (Try.en112))))) (And.intro (And.intro (And.intro (Try.en113) (Try.en114)) (And.intro (Try.en115) (Try.en116))) (And.intro (And.intro (Try.en117) (Try.en118)) (And.intro (Try.en119) (And.intro (Try.en120) (Try.en121)))))))) (And.intro (And.intro (And.intro (And.intro (And.intro (And.intro (Try.en122) (Try.en123)) (And.intro (Try.en124) (Try.en125))) (And.intro (And.intro (Try.en126) (Try.en127)) (And.intro (Try.en128) (And.intro (Try.en129) (Try.en130))))) (And.intro (And.intro (And.intro (Try.en131) (Try.en132)) (And.intro (Try.en133) (Try.en134))) (And.intro (And.intro (Try.en135) (Try.en136)) (And.intro (Try.en137) (And.intro (Try.en138) (Try.en139)))))) (And.intro (And.intro (And.intro (And.intro (Try.en140) (Try.en141)) (And.intro (Try.en142) (Try.en143))) (And.intro (And.intro (Try.en144) (Try.en145)) (And.intro (Try.en146) (And.intro (Try.en147) (Try.en148))))) (And.intro (And.intro (And.intro (Try.en149) (Try.en150)) (And.intro (Try.en151) (Try.nt3))) (And.intro (And.intro (Try.rs3) (Try.nt4)) (And.intro (Try.rs4) (And.intro (Try.nt5) (Try.rs5))))))) (And.intro (And.intro (And.intro (And.intro (And.intro (Try.nt6) (Try.rs6)) (And.intro (Try.nt7) (Try.rs7))) (And.intro (And.intro (Try.nt8) (Try.rs8)) (And.intro (Try.nt9) (And.intro (Try.rs9) (Try.nt10))))) (And.intro (And.intro (And.intro (Try.rs10) (Try.nt11)) (And.intro (Try.rs11) (Try.nt12))) (And.intro (And.intro (Try.rs12) (Try.nt13)) (And.intro (Try.rs13) (And.intro (Try.nt14) (Try.rs14)))))) (And.intro (And.intro (And.intro (And.intro (Try.nt15) (Try.rs15)) (And.intro (Try.nt16) (Try.rs16))) (And.intro (And.intro (Try.nt17) (Try.rs17)) (And.intro (Try.nt18) (And.intro (Try.rs18) (Try.nt19))))) (And.intro (And.intro (And.intro (Try.rs19) (Try.nt20)) (And.intro (Try.rs20) (Try.nt21))) (And.intro (And.intro (Try.rs21) (Try.nt22)) (And.intro (Try.rs22) (And.intro (Try.nt23) (Try.rs23)))))))))) (And.intro (And.intro (And.intro (And.intro (And.intro (And.intro (And.intro (And.intro (Try.nt24) (Try.rs24)) (And.intro (Try.nt25) (Try.rs25))) (And.intro (And.intro (Try.nt26) (Try.rs26)) (And.intro (Try.nt27) (And.intro (Try.rs27) (Try.nt28))))) (And.intro (And.intro (And.intro (Try.rs28) (Try.nt29)) (And.intro (Try.rs29) (Try.nt30))) (And.intro (And.intro (Try.rs30) (Try.nt31)) (And.intro (Try.rs31) (And.intro (Try.nt32) (Try.rs32)))))) (And.intro (And.intro (And.intro (And.intro (Try.nt33) (Try.rs33)) (And.intro (Try.nt34) (Try.rs34))) (And.intro (And.intro (Try.nt35) (Try.rs35)) (And.intro (Try.nt36) (And.intro (Try.rs36) (Try.nt37))))) (And.intro (And.intro (And.intro (Try.rs37) (Try.nt38)) (And.intro (Try.rs38) (Try.nt39))) (And.intro (And.intro (Try.rs39) (Try.nt40)) (And.intro (Try.rs40) (And.intro (Try.nt41) (Try.rs41))))))) (And.intro (And.intro (And.intro (And.intro (And.intro (Try.nt42) (Try.rs42)) (And.intro (Try.nt43) (Try.rs43))) (And.intro (And.intro (Try.nt44) (Try.rs44)) (And.intro (Try.nt45) (And.intro (Try.rs45) (Try.nt46))))) (And.intro (And.intro (And.intro (Try.rs46) (Try.nt47)) (And.intro (Try.rs47) (Try.nt48))) (And.intro (And.intro (Try.rs48) (Try.nt49)) (And.intro (Try.rs49) (And.intro (Try.nt50) (Try.rs50)))))) (And.intro (And.intro (And.intro (And.intro (Try.nt51) (Try.rs51)) (And.intro (Try.nt52) (Try.rs52))) (And.intro (And.intro (Try.nt53) (Try.rs53)) (And.intro (Try.nt54) (And.intro (Try.rs54) (Try.nt55))))) (And.intro (And.intro (And.intro (Try.rs55) (Try.nt56)) (And.intro (Try.rs56) (Try.nt57))) (And.intro (And.intro (Try.rs57) (Try.nt58)) (And.intro (Try.rs58) (And.intro (Try.nt59) (Try.rs59)))))))) (And.intro (And.intro (And.intro (And.intro (And.intro (And.intro (Try.nt60) (Try.rs60)) (And.intro (Try.nt61) (Try.rs61))) (And.intro (And.intro (Try.nt62) (Try.rs62)) (And.intro (Try.nt63) (And.intro (Try.rs63) (Try.nt64))))) (And.intro (And.intro (And.intro (Try.rs64) (Try.nt65)) (And.intro (Try.rs65) (Try.nt66))) (And.intro (And.intro (Try.rs66) (Try.nt67)) (And.intro (Try.rs67) (And.intro (Try.nt68) (Try.rs68)))))) (And.intro (And.intro (And.intro (And.intro (Try.nt69) (Try.rs69)) (And.intro (Try.nt70) (Try.rs70))) (And.intro (And.intro (Try.nt71) (Try.rs71)) (And.intro (Try.nt72) (And.intro (Try.rs72) (Try.nt73))))) (And.intro (And.intro (And.intro (Try.rs73) (Try.nt74)) (And.intro (Try.rs74) (Try.nt75))) (And.intro (And.intro (Try.rs75) (Try.nt76)) (And.intro (Try.rs76) (And.intro (Try.nt77) (Try.rs77))))))) (And.intro (And.intro (And.intro (And.intro (And.intro (Try.nt78) (Try.rs78)) (And.intro (Try.nt79) (Try.rs79))) (And.intro (And.intro (Try.nt80) (Try.rs80)) (And.intro (Try.nt81) (And.intro (Try.rs81) (Try.nt82))))) (And.intro (And.intro (And.intro (Try.rs82) (Try.nt83)) (And.intro (Try.rs83) (Try.nt84))) (And.intro (And.intro (Try.rs84) (Try.nt85)) (And.intro (Try.rs85) (And.intro (Try.nt86) (Try.rs86)))))) (And.intro (And.intro (And.intro (And.intro (Try.nt87) (Try.rs87)) (And.intro (Try.nt88) (Try.rs88))) (And.intro (And.intro (Try.nt89) (Try.rs89)) (And.intro (Try.nt90) (And.intro (Try.rs90) (Try.nt91))))) (And.intro (And.intro (And.intro (Try.rs91) (Try.nt92)) (And.intro (Try.rs92) (Try.nt93))) (And.intro (And.intro (Try.rs93) (Try.nt94)) (And.intro (Try.rs94) (And.intro (Try.nt95) (Try.rs95))))))))) (And.intro (And.intro (And.intro (And.intro (And.intro (And.intro (And.intro (Try.nt96) (Try.rs96)) (And.intro (Try.nt97) (Try.rs97))) (And.intro (And.intro (Try.nt98) (Try.rs98)) (And.intro (Try.nt99) (And.intro (Try.rs99) (Try.nt100))))) (And.intro (And.intro (And.intro (Try.rs100) (Try.nt101)) (And.intro (Try.rs101) (Try.nt102))) (And.intro (And.intro (Try.rs102) (Try.nt103)) (And.intro (Try.rs103) (And.intro (Try.nt104) (Try.rs104)))))) (And.intro (And.intro (And.intro (And.intro (Try.nt105) (Try.rs105)) (And.intro (Try.nt106) (Try.rs106))) (And.intro (And.intro (Try.nt107) (Try.rs107)) (And.intro (Try.nt108) (And.intro (Try.rs108) (Try.nt109))))) (And.intro (And.intro (And.intro (Try.rs109) (Try.nt110)) (And.intro (Try.rs110) (Try.nt111))) (And.intro (And.intro (Try.rs111) (Try.nt112)) (And.intro (Try.rs112) (And.intro (Try.nt113) (Try.rs113))))))) (And.intro (And.intro (And.intro (And.intro (And.intro (Try.nt114) (Try.rs114)) (And.intro (Try.nt115) (Try.rs115))) (And.intro (And.intro (Try.nt116) (Try.rs116)) (And.intro (Try.nt117) (And.intro (Try.rs117) (Try.nt118))))) (And.intro (And.intro (And.intro (Try.rs118) (Try.nt119)) (And.intro (Try.rs119) (Try.nt120))) (And.intro (And.intro (Try.rs120) (Try.nt121)) (And.intro (Try.rs121) (And.intro (Try.nt122) (Try.rs122)))))) (And.intro (And.intro (And.intro (And.intro (Try.nt123) (Try.rs123)) (And.intro (Try.nt124) (Try.rs124))) (And.intro (And.intro (Try.nt125) (Try.rs125)) (And.intro (Try.nt126) (And.intro (Try.rs126) (Try.nt127))))) (And.intro (And.intro (And.intro (Try.rs127) (Try.nt128)) (And.intro (Try.rs128) (Try.nt129))) (And.intro (And.intro (Try.rs129) (Try.nt130)) (And.intro (Try.rs130) (And.intro (Try.nt131) (Try.rs131)))))))) (And.intro (And.intro (And.intro (And.intro (And.intro (And.intro (Try.nt132) (Try.rs132)) (And.intro (Try.nt133) (Try.rs133))) (And.intro (And.intro (Try.nt134) (Try.rs134)) (And.intro (Try.nt135) (And.intro (Try.rs135) (Try.nt136))))) (And.intro (And.intro (And.intro (Try.rs136) (Try.nt137)) (And.intro (Try.rs137) (Try.nt138))) (And.intro (And.intro (Try.rs138) (Try.nt139)) (And.intro (Try.rs139) (And.intro (Try.nt140) (Try.rs140)))))) (And.intro (And.intro (And.intro (And.intro (Try.nt141) (Try.rs141)) (And.intro (Try.nt142) (Try.rs142))) (And.intro (And.intro (Try.nt143) (Try.rs143)) (And.intro (Try.nt144) (And.intro (Try.rs144) (Try.nt145))))) (And.intro (And.intro (And.intro (Try.rs145) (Try.nt146)) (And.intro (Try.rs146) (Try.nt147))) (And.intro (And.intro (Try.rs147) (Try.nt148)) (And.intro (Try.rs148) (And.intro (Try.nt149) (Try.rs149))))))) (And.intro (And.intro (And.intro (And.intro (And.intro (Try.nt150) (Try.rs150)) (And.intro (Try.nt151) (Try.rs151))) (And.intro (And.intro (Try.nt152) (Try.rs152)) (And.intro (Try.nt153) (And.intro (Try.rs153) (Try.nt154))))) (And.intro (And.intro (And.intro (Try.rs154) (Try.nt155)) (And.intro (Try.rs155) (Try.nt156))) (And.intro (And.intro (Try.rs156) (Try.nt157)) (And.intro (Try.rs157) (And.intro (Try.nt158) (Try.rs158)))))) (And.intro (And.intro (And.intro (And.intro (Try.nt159) (Try.rs159)) (And.intro (Try.nt160) (Try.rs160))) (And.intro (And.intro (Try.nt161) (Try.rs161)) (And.intro (Try.nt162) (And.intro (Try.rs162) (Try.nt163))))) (And.intro (And.intro (And.intro (Try.rs163) (Try.nt164)) (And.intro (Try.rs164) (Try.nt165))) (And.intro (And.intro (Try.rs165) (Try.nt166)) (And.intro (Try.rs166) (And.intro (Try.nt167) (Try.rs167))))))))))) := And.intro (And.intro (And.intro (And.intro (And.intro (And.intro (And.intro (And.intro (And.intro (Try.ti2) (Try.ti3)) (And.intro (Try.ti4) (Try.ti5))) (And.intro (And.intro (Try.ti6) (Try.ti7)) (And.intro (Try.ti8) (Try.ti9)))) (And.intro (And.intro (And.intro (Try.ti10) (Try.ti11)) (And.intro (Try.ti12) (Try.ti13))) (And.intro (And.intro (Try.ti14) (Try.ti15)) (And.intro (Try.ti16) (And.intro (Try.ti17) (Try.ti18)))))) (And.intro (And.intro (And.intro (And.intro (Try.ti19) (Try.ti21)) (And.intro (Try.ti22) (Try.ti24))) (And.intro (And.intro (Try.ti28) (Try.ti30)) (And.intro (Try.ti31) (And.intro (Try.ti32) (Try.ti33))))) (And.intro (And.intro (And.intro (Try.ti34) (Try.ti35)) (And.intro (Try.ti36) (Try.ti37))) (And.intro (And.intro (Try.ti38) (Try.ti39)) (And.intro (Try.ti40) (And.intro (Try.ti41) (Try.ti49))))))) (And.intro (And.intro (And.intro (And.intro (And.intro (Try.ti52) (Try.ti53)) (And.intro (Try.ti59) (Try.ti60))) (And.intro (And.intro (Try.ti61) (Try.ti65)) (And.intro (Try.ti66) (And.intro (Try.ti67) (Try.ti84))))) (And.intro (And.intro (And.intro (Try.ti85) (Try.ti87)) (And.intro (Try.ti88) (Try.ti89))) (And.intro (And.intro (Try.ti90) (Try.ti91)) (And.intro (Try.ti92) (And.intro (Try.ti93) (Try.ti94)))))) (And.intro (And.intro (And.intro (And.intro (Try.ti95) (Try.ti96)) (And.intro (Try.ti108) (Try.ti109))) (And.intro (And.intro (Try.ti110) (Try.ti111)) (And.intro (Try.ti112) (And.intro (Try.ti113) (Try.ti114))))) (And.intro (And.intro (And.intro (Try.ti134) (Try.ti136)) (And.intro (Try.ti137) (Try.ti140))) (And.intro (And.intro (Try.ti141) (Try.ti143)) (And.intro (Try.ti144) (And.intro (Try.ti148) (Try.ti149)))))))) (And.intro (And.intro (And.intro (And.intro (And.intro (And.intro (Try.ti152) (Try.ti153)) (And.intro (Try.ti158) (Try.ti159))) (And.intro (And.intro (Try.ti162) (Try.ti163)) (And.intro (Try.ti166) (And.intro (Try.ti167) (Try.ti188))))) (And.intro (And.intro (And.intro (Try.ti204) (Try.ti205)) (And.intro (Try.ti213) (Try.ti222))) (And.intro (And.intro (Try.ti223) (Try.ti224)) (And.intro (Try.ti225) (And.intro (Try.ti226) (Try.ti227)))))) (And.intro (And.intro (And.intro (And.intro (Try.ti228) (Try.ti229)) (And.intro (Try.ti231) (Try.ti232))) (And.intro (And.intro (Try.ti233) (Try.ti234)) (And.intro (Try.ti235) (And.intro (Try.en3) (Try.en4))))) (And.intro (And.intro (And.intro (Try.en5) (Try.en6)) (And.intro (Try.en7) (Try.en8))) (And.intro (And.intro (Try.en9) (Try.en10)) (And.intro (Try.en11) (And.intro (Try.en12) (Try.en13))))))) (And.intro (And.intro (And.intro (And.intro (And.intro (Try.en14) (Try.en15)) (And.intro (Try.en16) (Try.en17))) (And.intro (And.intro (Try.en18) (Try.en19)) (And.intro (Try.en20) (And.intro (Try.en21) (Try.en22))))) (And.intro (And.intro (And.intro (Try.en23) (Try.en24)) (And.intro (Try.en25) (Try.en26))) (And.intro (And.intro (Try.en27) (Try.en28)) (And.intro (Try.en29) (And.intro (Try.en30) (Try.en31)))))) (And.intro (And.intro (And.intro (And.intro (Try.en32) (Try.en33)) (And.intro (Try.en34) (Try.en35))) (And.intro (And.intro (Try.en36) (Try.en37)) (And.intro (Try.en38) (And.intro (Try.en39) (Try.en40))))) (And.intro (And.intro (And.intro (Try.en41) (Try.en42)) (And.intro (Try.en43) (Try.en44))) (And.intro (And.intro (Try.en45) (Try.en46)) (And.intro (Try.en47) (And.intro (Try.en48) (Try.en49))))))))) (And.intro (And.intro (And.intro (And.intro (And.intro (And.intro (And.intro (Try.en50) (Try.en51)) (And.intro (Try.en52) (Try.en53))) (And.intro (And.intro (Try.en54) (Try.en55)) (And.intro (Try.en56) (And.intro (Try.en57) (Try.en58))))) (And.intro (And.intro (And.intro (Try.en59) (Try.en60)) (And.intro (Try.en61) (Try.en62))) (And.intro (And.intro (Try.en63) (Try.en64)) (And.intro (Try.en65) (And.intro (Try.en66) (Try.en67)))))) (And.intro (And.intro (And.intro (And.intro (Try.en68) (Try.en69)) (And.intro (Try.en70) (Try.en71))) (And.intro (And.intro (Try.en72) (Try.en73)) (And.intro (Try.en74) (And.intro (Try.en75) (Try.en76))))) (And.intro (And.intro (And.intro (Try.en77) (Try.en78)) (And.intro (Try.en79) (Try.en80))) (And.intro (And.intro (Try.en81) (Try.en82)) (And.intro (Try.en83) (And.intro (Try.en84) (Try.en85))))))) (And.intro (And.intro (And.intro (And.intro (And.intro (Try.en86) (Try.en87)) (And.intro (Try.en88) (Try.en89))) (And.intro (And.intro (Try.en90) (Try.en91)) (And.intro (Try.en92) (And.intro (Try.en93) (Try.en94))))) (And.intro (And.intro (And.intro (Try.en95) (Try.en96)) (And.intro (Try.en97) (Try.en98))) (And.intro (And.intro (Try.en99) (Try.en100)) (And.intro (Try.en101) (And.intro (Try.en102) (Try.en103)))))) (And.intro (And.intro (And.intro (And.intro (Try.en104) (Try.en105)) (And.intro (Try.en106) (Try.en107))) (And.intro (And.intro (Try.en108) (Try.en109)) (And.intro (Try.en110) (And.intro (Try.en111) (Try.en112))))) (And.intro (And.intro (And.intro (Try.en113) (Try.en114)) (And.intro (Try.en115) (Try.en116))) (And.intro (And.intro (Try.en117) (Try.en118)) (And.intro (Try.en119) (And.intro (Try.en120) (Try.en121)))))))) (And.intro (And.intro (And.intro (And.intro (And.intro (And.intro (Try.en122) (Try.en123)) (And.intro (Try.en124) (Try.en125))) (And.intro (And.intro (Try.en126) (Try.en127)) (And.intro (Try.en128) (And.intro (Try.en129) (Try.en130))))) (And.intro (And.intro (And.intro (Try.en131) (Try.en132)) (And.intro (Try.en133) (Try.en134))) (And.intro (And.intro (Try.en135) (Try.en136)) (And.intro (Try.en137) (And.intro (Try.en138) (Try.en139)))))) (And.intro (And.intro (And.intro (And.intro (Try.en140) (Try.en141)) (And.intro (Try.en142) (Try.en143))) (And.intro (And.intro (Try.en144) (Try.en145)) (And.intro (Try.en146) (And.intro (Try.en147) (Try.en148))))) (And.intro (And.intro (And.intro (Try.en149) (Try.en150)) (And.intro (Try.en151) (Try.nt3))) (And.intro (And.intro (Try.rs3) (Try.nt4)) (And.intro (Try.rs4) (And.intro (Try.nt5) (Try.rs5))))))) (And.intro (And.intro (And.intro (And.intro (And.intro (Try.nt6) (Try.rs6)) (And.intro (Try.nt7) (Try.rs7))) (And.intro (And.intro (Try.nt8) (Try.rs8)) (And.intro (Try.nt9) (And.intro (Try.rs9) (Try.nt10))))) (And.intro (And.intro (And.intro (Try.rs10) (Try.nt11)) (And.intro (Try.rs11) (Try.nt12))) (And.intro (And.intro (Try.rs12) (Try.nt13)) (And.intro (Try.rs13) (And.intro (Try.nt14) (Try.rs14)))))) (And.intro (And.intro (And.intro (And.intro (Try.nt15) (Try.rs15)) (And.intro (Try.nt16) (Try.rs16))) (And.intro (And.intro (Try.nt17) (Try.rs17)) (And.intro (Try.nt18) (And.intro (Try.rs18) (Try.nt19))))) (And.intro (And.intro (And.intro (Try.rs19) (Try.nt20)) (And.intro (Try.rs20) (Try.nt21))) (And.intro (And.intro (Try.rs21) (Try.nt22)) (And.intro (Try.rs22) (And.intro (Try.nt23) (Try.rs23)))))))))) (And.intro (And.intro (And.intro (And.intro (And.intro (And.intro (And.intro (And.intro (Try.nt24) (Try.rs24)) (And.intro (Try.nt25) (Try.rs25))) (And.intro (And.intro (Try.nt26) (Try.rs26)) (And.intro (Try.nt27) (And.intro (Try.rs27) (Try.nt28))))) (And.intro (And.intro (And.intro (Try.rs28) (Try.nt29)) (And.intro (Try.rs29) (Try.nt30))) (And.intro (And.intro (Try.rs30) (Try.nt31)) (And.intro (Try.rs31) (And.intro (Try.nt32) (Try.rs32)))))) (And.intro (And.intro (And.intro (And.intro (Try.nt33) (Try.rs33)) (And.intro (Try.nt34) (Try.rs34))) (And.intro (And.intro (Try.nt35) (Try.rs35)) (And.intro (Try.nt36) (And.intro (Try.rs36) (Try.nt37))))) (And.intro (And.intro (And.intro (Try.rs37) (Try.nt38)) (And.intro (Try.rs38) (Try.nt39))) (And.intro (And.intro (Try.rs39) (Try.nt40)) (And.intro (Try.rs40) (And.intro (Try.nt41) (Try.rs41))))))) (And.intro (And.intro (And.intro (And.intro (And.intro (Try.nt42) (Try.rs42)) (And.intro (Try.nt43) (Try.rs43))) (And.intro (And.intro (Try.nt44) (Try.rs44)) (And.intro (Try.nt45) (And.intro (Try.rs45) (Try.nt46))))) (And.intro (And.intro (And.intro (Try.rs46) (Try.nt47)) (And.intro (Try.rs47) (Try.nt48))) (And.intro (And.intro (Try.rs48) (Try.nt49)) (And.intro (Try.rs49) (And.intro (Try.nt50) (Try.rs50)))))) (And.intro (And.intro (And.intro (And.intro (Try.nt51) (Try.rs51)) (And.intro (Try.nt52) (Try.rs52))) (And.intro (And.intro (Try.nt53) (Try.rs53)) (And.intro (Try.nt54) (And.intro (Try.rs54) (Try.nt55))))) (And.intro (And.intro (And.intro (Try.rs55) (Try.nt56)) (And.intro (Try.rs56) (Try.nt57))) (And.intro (And.intro (Try.rs57) (Try.nt58)) (And.intro (Try.rs58) (And.intro (Try.nt59) (Try.rs59)))))))) (And.intro (And.intro (And.intro (And.intro (And.intro (And.intro (Try.nt60) (Try.rs60)) (And.intro (Try.nt61) (Try.rs61))) (And.intro (And.intro (Try.nt62) (Try.rs62)) (And.intro (Try.nt63) (And.intro (Try.rs63) (Try.nt64))))) (And.intro (And.intro (And.intro (Try.rs64) (Try.nt65)) (And.intro (Try.rs65) (Try.nt66))) (And.intro (And.intro (Try.rs66) (Try.nt67)) (And.intro (Try.rs67) (And.intro (Try.nt68) (Try.rs68)))))) (And.intro (And.intro (And.intro (And.intro (Try.nt69) (Try.rs69)) (And.intro (Try.nt70) (Try.rs70))) (And.intro (And.intro (Try.nt71) (Try.rs71)) (And.intro (Try.nt72) (And.intro (Try.rs72) (Try.nt73))))) (And.intro (And.intro (And.intro (Try.rs73) (Try.nt74)) (And.intro (Try.rs74) (Try.nt75))) (And.intro (And.intro (Try.rs75) (Try.nt76)) (And.intro (Try.rs76) (And.intro (Try.nt77) (Try.rs77))))))) (And.intro (And.intro (And.intro (And.intro (And.intro (Try.nt78) (Try.rs78)) (And.intro (Try.nt79) (Try.rs79))) (And.intro (And.intro (Try.nt80) (Try.rs80)) (And.intro (Try.nt81) (And.intro (Try.rs81) (Try.nt82))))) (And.intro (And.intro (And.intro (Try.rs82) (Try.nt83)) (And.intro (Try.rs83) (Try.nt84))) (And.intro (And.intro (Try.rs84) (Try.nt85)) (And.intro (Try.rs85) (And.intro (Try.nt86) (Try.rs86)))))) (And.intro (And.intro (And.intro (And.intro (Try.nt87) (Try.rs87)) (And.intro (Try.nt88) (Try.rs88))) (And.intro (And.intro (Try.nt89) (Try.rs89)) (And.intro (Try.nt90) (And.intro (Try.rs90) (Try.nt91))))) (And.intro (And.intro (And.intro (Try.rs91) (Try.nt92)) (And.intro (Try.rs92) (Try.nt93))) (And.intro (And.intro (Try.rs93) (Try.nt94)) (And.intro (Try.rs94) (And.intro (Try.nt95) (Try.rs95))))))))) (And.intro (And.intro (And.intro (And.intro (And.intro (And.intro (And.intro (Try.nt96) (Try.rs96)) (And.intro (Try.nt97) (Try.rs97))) (And.intro (And.intro (Try.nt98) (Try.rs98)) (And.intro (Try.nt99) (And.intro (Try.rs99) (Try.nt100))))) (And.intro (And.intro (And.intro (Try.rs100) (Try.nt101)) (And.intro (Try.rs101) (Try.nt102))) (And.intro (And.intro (Try.rs102) (Try.nt103)) (And.intro (Try.rs103) (And.intro (Try.nt104) (Try.rs104)))))) (And.intro (And.intro (And.intro (And.intro (Try.nt105) (Try.rs105)) (And.intro (Try.nt106) (Try.rs106))) (And.intro (And.intro (Try.nt107) (Try.rs107)) (And.intro (Try.nt108) (And.intro (Try.rs108) (Try.nt109))))) (And.intro (And.intro (And.intro (Try.rs109) (Try.nt110)) (And.intro (Try.rs110) (Try.nt111))) (And.intro (And.intro (Try.rs111) (Try.nt112)) (And.intro (Try.rs112) (And.intro (Try.nt113) (Try.rs113))))))) (And.intro (And.intro (And.intro (And.intro (And.intro (Try.nt114) (Try.rs114)) (And.intro (Try.nt115) (Try.rs115))) (And.intro (And.intro (Try.nt116) (Try.rs116)) (And.intro (Try.nt117) (And.intro (Try.rs117) (Try.nt118))))) (And.intro (And.intro (And.intro (Try.rs118) (Try.nt119)) (And.intro (Try.rs119) (Try.nt120))) (And.intro (And.intro (Try.rs120) (Try.nt121)) (And.intro (Try.rs121) (And.intro (Try.nt122) (Try.rs122)))))) (And.intro (And.intro (And.intro (And.intro (Try.nt123) (Try.rs123)) (And.intro (Try.nt124) (Try.rs124))) (And.intro (And.intro (Try.nt125) (Try.rs125)) (And.intro (Try.nt126) (And.intro (Try.rs126) (Try.nt127))))) (And.intro (And.intro (And.intro (Try.rs127) (Try.nt128)) (And.intro (Try.rs128) (Try.nt129))) (And.intro (And.intro (Try.rs129) (Try.nt130)) (And.intro (Try.rs130) (And.intro (Try.nt131) (Try.rs131)))))))) (And.intro (And.intro (And.intro (And.intro (And.intro (And.intro (Try.nt132) (Try.rs132)) (And.intro (Try.nt133) (Try.rs133))) (And.intro (And.intro (Try.nt134) (Try.rs134)) (And.intro (Try.nt135) (And.intro (Try.rs135) (Try.nt136))))) (And.intro (And.intro (And.intro (Try.rs136) (Try.nt137)) (And.intro (Try.rs137) (Try.nt138))) (And.intro (And.intro (Try.rs138) (Try.nt139)) (And.intro (Try.rs139) (And.intro (Try.nt140) (Try.rs140)))))) (And.intro (And.intro (And.intro (And.intro (Try.nt141) (Try.rs141)) (And.intro (Try.nt142) (Try.rs142))) (And.intro (And.intro (Try.nt143) (Try.rs143)) (And.intro (Try.nt144) (And.intro (Try.rs144) (Try.nt145))))) (And.intro (And.intro (And.intro (Try.rs145) (Try.nt146)) (And.intro (Try.rs146) (Try.nt147))) (And.intro (And.intro (Try.rs147) (Try.nt148)) (And.intro (Try.rs148) (And.intro (Try.nt149) (Try.rs149))))))) (And.intro (And.intro (And.intro (And.intro (And.intro (Try.nt150) (Try.rs150)) (And.intro (Try.nt151) (Try.rs151))) (And.intro (And.intro (Try.nt152) (Try.rs152)) (And.intro (Try.nt153) (And.intro (Try.rs153) (Try.nt154))))) (And.intro (And.intro (And.intro (Try.rs154) (Try.nt155)) (And.intro (Try.rs155) (Try.nt156))) (And.intro (And.intro (Try.rs156) (Try.nt157)) (And.intro (Try.rs157) (And.intro (Try.nt158) (Try.rs158)))))) (And.intro (And.intro (And.intro (And.intro (Try.nt159) (Try.rs159)) (And.intro (Try.nt160) (Try.rs160))) (And.intro (And.intro (Try.nt161) (Try.rs161)) (And.intro (Try.nt162) (And.intro (Try.rs162) (Try.nt163))))) (And.intro (And.intro (And.intro (Try.rs163) (Try.nt164)) (And.intro (Try.rs164) (Try.nt165))) (And.intro (And.intro (Try.rs165) (Try.nt166)) (And.intro (Try.rs166) (And.intro (Try.nt167) (Try.rs167))))))))))
end Go.Proofs.Ytnhgjgoglmadnaa
