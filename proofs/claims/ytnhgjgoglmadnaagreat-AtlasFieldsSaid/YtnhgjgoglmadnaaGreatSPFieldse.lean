/- Joined texts of this claim (part 5), printed by a program of this work. The last part holds the claimed theorem: the law answers true at every input of its row. -/
import Derived.Test.YtnhgjgoglmadnaaGreatProg
import Derived.Test.YtnhgjgoglmadnaaGreatSPFieldsd
namespace Go.Proofs.YtnhgjgoglmadnaaGreat
theorem Tryz.ti2 : tinfo Tryz.prog 2 = ⟨true,false,some 1,some (.int .i64 0),none,none,none,some .i64,false,false,false,false⟩ :=by kernel_rfl
theorem Tryz.ti3 : tinfo Tryz.prog 3 = ⟨true,false,some 1,some (.int .i64 0),none,none,none,some .i64,false,false,false,false⟩ :=by kernel_rfl
theorem Tryz.ti4 : tinfo Tryz.prog 4 = ⟨true,false,some 1,some (.bool false),none,none,none,none,false,false,true,false⟩ :=by kernel_rfl
theorem Tryz.ti5 : tinfo Tryz.prog 5 = ⟨true,false,some 1,some (.int .u8 0),none,none,none,some .u8,false,false,false,false⟩ :=by kernel_rfl
theorem Tryz.ti6 : tinfo Tryz.prog 6 = ⟨true,false,some 1,some (.int .u8 0),none,none,none,some .u8,false,false,false,false⟩ :=by kernel_rfl
theorem Tryz.ti7 : tinfo Tryz.prog 7 = ⟨true,true,some 4,some (.agg #[.int .i64 0,.int .i64 0,.bool false,.int .u8 0]),some [(0,some 1,some false),(1,some 1,some false),(2,some 1,some false),(3,some 1,some false)],none,none,none,false,false,false,false⟩ :=by kernel_rfl
theorem Tryz.ti8 : tinfo Tryz.prog 8 = ⟨true,true,some 4,some (.agg #[.int .i64 0,.int .i64 0,.bool false,.int .u8 0]),some [(0,some 1,some false),(1,some 1,some false),(2,some 1,some false),(3,some 1,some false)],none,none,none,false,false,false,false⟩ :=by kernel_rfl
theorem Tryz.ti9 : tinfo Tryz.prog 9 = ⟨true,false,some 1,some (.string ⟨#[]⟩),none,none,none,none,false,false,false,true⟩ :=by kernel_rfl
theorem Tryz.ti10 : tinfo Tryz.prog 10 = ⟨true,false,some 1,some (.string ⟨#[]⟩),none,none,none,none,false,false,false,true⟩ :=by kernel_rfl
theorem Tryz.ti11 : tinfo Tryz.prog 11 = ⟨true,false,some 1,some (.string ⟨#[]⟩),none,none,none,none,false,false,false,true⟩ :=by kernel_rfl
theorem Tryz.ti12 : tinfo Tryz.prog 12 = ⟨true,false,some 1,some (.int .u64 0),none,none,none,some .u64,false,false,false,false⟩ :=by kernel_rfl
theorem Tryz.ti13 : tinfo Tryz.prog 13 = ⟨true,true,some 2,some (.agg #[.string ⟨#[]⟩,.int .u64 0]),some [(0,some 1,some false),(1,some 1,some false)],none,none,none,false,false,false,false⟩ :=by kernel_rfl
theorem Tryz.ti14 : tinfo Tryz.prog 14 = ⟨true,true,some 2,some (.agg #[.string ⟨#[]⟩,.int .u64 0]),some [(0,some 1,some false),(1,some 1,some false)],none,none,none,false,false,false,false⟩ :=by kernel_rfl
theorem Tryz.ti15 : tinfo Tryz.prog 15 = ⟨true,false,some 1,some (.pointer none),none,none,none,none,true,false,false,false⟩ :=by kernel_rfl
theorem Tryz.ti16 : tinfo Tryz.prog 16 = ⟨true,false,some 1,some (.pointer none),none,none,none,none,true,false,false,false⟩ :=by kernel_rfl
theorem Tryz.ti17 : tinfo Tryz.prog 17 = ⟨true,false,some 1,some (.pointer none),none,none,none,none,true,false,false,false⟩ :=by kernel_rfl
theorem Tryz.ti18 : tinfo Tryz.prog 18 = ⟨true,true,some 1,some (.agg #[.pointer none]),some [(0,some 1,some false)],none,none,none,false,false,false,false⟩ :=by kernel_rfl
theorem Tryz.ti19 : tinfo Tryz.prog 19 = ⟨true,true,some 1,some (.agg #[.pointer none]),some [(0,some 1,some false)],none,none,none,false,false,false,false⟩ :=by kernel_rfl
theorem Tryz.ti21 : tinfo Tryz.prog 21 = ⟨true,false,some 1,some (.int .i32 0),none,none,none,some .i32,false,false,false,false⟩ :=by kernel_rfl
theorem Tryz.ti22 : tinfo Tryz.prog 22 = ⟨true,false,some 1,some (.slice none 0 0),none,none,some (3,some 1),none,false,true,false,false⟩ :=by kernel_rfl
theorem Tryz.ti24 : tinfo Tryz.prog 24 = ⟨true,false,some 1,some (.slice none 0 0),none,none,some (45,some 2),none,false,true,false,false⟩ :=by kernel_rfl
theorem Tryz.ti25 : tinfo Tryz.prog 25 = ⟨true,false,some 1,some (.slice none 0 0),none,none,some (47,some 5),none,false,true,false,false⟩ :=by kernel_rfl
theorem Tryz.ti26 : tinfo Tryz.prog 26 = ⟨true,false,some 1,some (.slice none 0 0),none,none,some (69,some 2),none,false,true,false,false⟩ :=by kernel_rfl
theorem Tryz.ti27 : tinfo Tryz.prog 27 = ⟨true,false,some 1,some (.slice none 0 0),none,none,some (51,some 10),none,false,true,false,false⟩ :=by kernel_rfl
theorem Tryz.ti28 : tinfo Tryz.prog 28 = ⟨true,false,some 1,some (.slice none 0 0),none,none,some (53,some 9),none,false,true,false,false⟩ :=by kernel_rfl
theorem Tryz.ti29 : tinfo Tryz.prog 29 = ⟨true,false,some 1,some (.slice none 0 0),none,none,some (55,some 3),none,false,true,false,false⟩ :=by kernel_rfl
theorem Tryz.ti30 : tinfo Tryz.prog 30 = ⟨true,false,some 1,some (.slice none 0 0),none,none,some (93,some 3),none,false,true,false,false⟩ :=by kernel_rfl
theorem Tryz.ti31 : tinfo Tryz.prog 31 = ⟨true,false,some 1,some (.slice none 0 0),none,none,some (97,some 3),none,false,true,false,false⟩ :=by kernel_rfl
theorem Tryz.ti32 : tinfo Tryz.prog 32 = ⟨true,true,some 15,some (.agg #[.int .i64 0,.int .i64 0,.int .i64 0,.int .i64 0,.int .i64 0,.int .i64 0,.int .i64 0,.slice none 0 0,.slice none 0 0,.slice none 0 0,.slice none 0 0,.slice none 0 0,.slice none 0 0,.slice none 0 0,.slice none 0 0]),some [(0,some 1,some false),(1,some 1,some false),(2,some 1,some false),(3,some 1,some false),(4,some 1,some false),(5,some 1,some false),(6,some 1,some false),(7,some 1,some false),(8,some 1,some false),(9,some 1,some false),(10,some 1,some false),(11,some 1,some false),(12,some 1,some false),(13,some 1,some false),(14,some 1,some false)],none,none,none,false,false,false,false⟩ :=by kernel_rfl
theorem Tryz.ti33 : tinfo Tryz.prog 33 = ⟨true,true,some 15,some (.agg #[.int .i64 0,.int .i64 0,.int .i64 0,.int .i64 0,.int .i64 0,.int .i64 0,.int .i64 0,.slice none 0 0,.slice none 0 0,.slice none 0 0,.slice none 0 0,.slice none 0 0,.slice none 0 0,.slice none 0 0,.slice none 0 0]),some [(0,some 1,some false),(1,some 1,some false),(2,some 1,some false),(3,some 1,some false),(4,some 1,some false),(5,some 1,some false),(6,some 1,some false),(7,some 1,some false),(8,some 1,some false),(9,some 1,some false),(10,some 1,some false),(11,some 1,some false),(12,some 1,some false),(13,some 1,some false),(14,some 1,some false)],none,none,none,false,false,false,false⟩ :=by kernel_rfl
theorem Tryz.ti35 : tinfo Tryz.prog 35 = ⟨true,false,some 1,some (.slice none 0 0),none,none,some (5,some 1),none,false,true,false,false⟩ :=by kernel_rfl
theorem Tryz.ti36 : tinfo Tryz.prog 36 = ⟨true,false,some 1,some (.int .i64 0),none,none,none,some .i64,false,false,false,false⟩ :=by kernel_rfl
theorem Tryz.ti44 : tinfo Tryz.prog 44 = ⟨true,true,some 2,some (.agg #[.int .i64 0,.int .i64 0]),some [(0,some 1,some false),(1,some 1,some false)],none,none,none,false,false,false,false⟩ :=by kernel_rfl
theorem Tryz.ti45 : tinfo Tryz.prog 45 = ⟨true,true,some 2,some (.agg #[.int .i64 0,.int .i64 0]),some [(0,some 1,some false),(1,some 1,some false)],none,none,none,false,false,false,false⟩ :=by kernel_rfl
theorem Tryz.ti46 : tinfo Tryz.prog 46 = ⟨true,true,some 5,some (.agg #[.int .i64 0,.int .i64 0,.int .i64 0,.int .i64 0,.int .i64 0]),some [(0,some 2,some true),(2,some 2,some true),(4,some 1,some false)],none,none,none,false,false,false,false⟩ :=by kernel_rfl
theorem Tryz.ti47 : tinfo Tryz.prog 47 = ⟨true,true,some 5,some (.agg #[.int .i64 0,.int .i64 0,.int .i64 0,.int .i64 0,.int .i64 0]),some [(0,some 2,some true),(2,some 2,some true),(4,some 1,some false)],none,none,none,false,false,false,false⟩ :=by kernel_rfl
theorem Tryz.ti48 : tinfo Tryz.prog 48 = ⟨true,true,some 6,some (.agg #[.int .i64 0,.int .i64 0,.int .i64 0,.int .i64 0,.int .i64 0,.int .i64 0]),some [(0,some 2,some true),(2,some 2,some true),(4,some 2,some true)],none,none,none,false,false,false,false⟩ :=by kernel_rfl
theorem Tryz.ti49 : tinfo Tryz.prog 49 = ⟨true,true,some 6,some (.agg #[.int .i64 0,.int .i64 0,.int .i64 0,.int .i64 0,.int .i64 0,.int .i64 0]),some [(0,some 2,some true),(2,some 2,some true),(4,some 2,some true)],none,none,none,false,false,false,false⟩ :=by kernel_rfl
theorem Tryz.ti50 : tinfo Tryz.prog 50 = ⟨true,true,some 10,some (.agg #[.int .i64 0,.int .i64 0,.int .i64 0,.int .i64 0,.int .i64 0,.int .i64 0,.int .i64 0,.int .i64 0,.int .i64 0,.int .i64 0]),some [(0,some 1,some false),(1,some 1,some false),(2,some 1,some false),(3,some 1,some false),(4,some 6,some true)],none,none,none,false,false,false,false⟩ :=by kernel_rfl
theorem Tryz.ti51 : tinfo Tryz.prog 51 = ⟨true,true,some 10,some (.agg #[.int .i64 0,.int .i64 0,.int .i64 0,.int .i64 0,.int .i64 0,.int .i64 0,.int .i64 0,.int .i64 0,.int .i64 0,.int .i64 0]),some [(0,some 1,some false),(1,some 1,some false),(2,some 1,some false),(3,some 1,some false),(4,some 6,some true)],none,none,none,false,false,false,false⟩ :=by kernel_rfl
theorem Tryz.ti52 : tinfo Tryz.prog 52 = ⟨true,true,some 9,some (.agg #[.int .i64 0,.int .i64 0,.int .i64 0,.int .i64 0,.int .i64 0,.int .i64 0,.int .i64 0,.int .i64 0,.int .i64 0]),some [(0,some 1,some false),(1,some 1,some false),(2,some 1,some false),(3,some 1,some false),(4,some 1,some false),(5,some 1,some false),(6,some 1,some false),(7,some 1,some false),(8,some 1,some false)],none,none,none,false,false,false,false⟩ :=by kernel_rfl
theorem Tryz.ti53 : tinfo Tryz.prog 53 = ⟨true,true,some 9,some (.agg #[.int .i64 0,.int .i64 0,.int .i64 0,.int .i64 0,.int .i64 0,.int .i64 0,.int .i64 0,.int .i64 0,.int .i64 0]),some [(0,some 1,some false),(1,some 1,some false),(2,some 1,some false),(3,some 1,some false),(4,some 1,some false),(5,some 1,some false),(6,some 1,some false),(7,some 1,some false),(8,some 1,some false)],none,none,none,false,false,false,false⟩ :=by kernel_rfl
theorem Tryz.ti54 : tinfo Tryz.prog 54 = ⟨true,true,some 3,some (.agg #[.int .i64 0,.int .i64 0,.int .i64 0]),some [(0,some 1,some false),(1,some 1,some false),(2,some 1,some false)],none,none,none,false,false,false,false⟩ :=by kernel_rfl
theorem Tryz.ti55 : tinfo Tryz.prog 55 = ⟨true,true,some 3,some (.agg #[.int .i64 0,.int .i64 0,.int .i64 0]),some [(0,some 1,some false),(1,some 1,some false),(2,some 1,some false)],none,none,none,false,false,false,false⟩ :=by kernel_rfl
theorem Tryz.ti57 : tinfo Tryz.prog 57 = ⟨true,false,some 1,some (.pointer none),none,none,none,none,true,false,false,false⟩ :=by kernel_rfl
theorem Tryz.ti59 : tinfo Tryz.prog 59 = ⟨true,false,some 1,some (.pointer none),none,none,none,none,true,false,false,false⟩ :=by kernel_rfl
theorem Tryz.ti60 : tinfo Tryz.prog 60 = ⟨true,false,some 1,some (.pointer none),none,none,none,none,true,false,false,false⟩ :=by kernel_rfl
theorem Tryz.ti61 : tinfo Tryz.prog 61 = ⟨true,true,some 4,some (.agg #[.int .i64 0,.int .i64 0,.pointer none,.pointer none]),some [(0,some 1,some false),(1,some 1,some false),(2,some 1,some false),(3,some 1,some false)],none,none,none,false,false,false,false⟩ :=by kernel_rfl
theorem Tryz.ti62 : tinfo Tryz.prog 62 = ⟨true,true,some 4,some (.agg #[.int .i64 0,.int .i64 0,.pointer none,.pointer none]),some [(0,some 1,some false),(1,some 1,some false),(2,some 1,some false),(3,some 1,some false)],none,none,none,false,false,false,false⟩ :=by kernel_rfl
theorem Tryz.ti65 : tinfo Tryz.prog 65 = ⟨true,true,some 1,some (.agg #[.slice none 0 0]),some [(0,some 1,some false)],none,none,none,false,false,false,false⟩ :=by kernel_rfl
theorem Tryz.ti66 : tinfo Tryz.prog 66 = ⟨true,true,some 1,some (.agg #[.slice none 0 0]),some [(0,some 1,some false)],none,none,none,false,false,false,false⟩ :=by kernel_rfl
theorem Tryz.ti68 : tinfo Tryz.prog 68 = ⟨true,true,some 2,some (.agg #[.int .i64 0,.int .i64 0]),some [(0,some 1,some false),(1,some 1,some false)],none,none,none,false,false,false,false⟩ :=by kernel_rfl
theorem Tryz.ti69 : tinfo Tryz.prog 69 = ⟨true,true,some 2,some (.agg #[.int .i64 0,.int .i64 0]),some [(0,some 1,some false),(1,some 1,some false)],none,none,none,false,false,false,false⟩ :=by kernel_rfl
theorem Tryz.ti73 : tinfo Tryz.prog 73 = ⟨true,false,some 1,some (.pointer none),none,none,none,none,true,false,false,false⟩ :=by kernel_rfl
theorem Tryz.ti74 : tinfo Tryz.prog 74 = ⟨true,true,some 2,some (.agg #[.slice none 0 0,.bool false]),some [(0,some 1,some false),(1,some 1,some false)],none,none,none,false,false,false,false⟩ :=by kernel_rfl
theorem Tryz.ti75 : tinfo Tryz.prog 75 = ⟨true,true,some 2,some (.agg #[.slice none 0 0,.bool false]),some [(0,some 1,some false),(1,some 1,some false)],none,none,none,false,false,false,false⟩ :=by kernel_rfl
theorem Tryz.ti92 : tinfo Tryz.prog 92 = ⟨true,true,some 3,some (.agg #[.int .i64 0,.int .i64 0,.int .i64 0]),some [(0,some 1,some false),(1,some 1,some false),(2,some 1,some false)],none,none,none,false,false,false,false⟩ :=by kernel_rfl
theorem Tryz.ti93 : tinfo Tryz.prog 93 = ⟨true,true,some 3,some (.agg #[.int .i64 0,.int .i64 0,.int .i64 0]),some [(0,some 1,some false),(1,some 1,some false),(2,some 1,some false)],none,none,none,false,false,false,false⟩ :=by kernel_rfl
theorem Tryz.ti96 : tinfo Tryz.prog 96 = ⟨true,true,some 3,some (.agg #[.int .i64 0,.bool false,.slice none 0 0]),some [(0,some 1,some false),(1,some 1,some false),(2,some 1,some false)],none,none,none,false,false,false,false⟩ :=by kernel_rfl
theorem Tryz.ti97 : tinfo Tryz.prog 97 = ⟨true,true,some 3,some (.agg #[.int .i64 0,.bool false,.slice none 0 0]),some [(0,some 1,some false),(1,some 1,some false),(2,some 1,some false)],none,none,none,false,false,false,false⟩ :=by kernel_rfl
theorem Tryz.ti102 : tinfo Tryz.prog 102 = ⟨true,false,some 1,some (.pointer none),none,none,none,none,true,false,false,false⟩ :=by kernel_rfl
theorem Tryz.ti125 : tinfo Tryz.prog 125 = ⟨true,true,some 7,some (.agg #[.int .i64 0,.int .i64 0,.int .i64 0,.int .i64 0,.int .i64 0,.int .i64 0,.int .i64 0]),none,some (7,some 1,false),none,none,false,false,false,false⟩ :=by kernel_rfl
theorem Tryz.ti141 : tinfo Tryz.prog 141 = ⟨true,false,some 1,some (.slice none 0 0),none,none,some (49,some 6),none,false,true,false,false⟩ :=by kernel_rfl
theorem Tryz.ti144 : tinfo Tryz.prog 144 = ⟨true,false,some 1,some (.slice none 0 0),none,none,some (141,some 1),none,false,true,false,false⟩ :=by kernel_rfl
theorem Tryz.ti151 : tinfo Tryz.prog 151 = ⟨true,true,some 2,some (.agg #[.slice none 0 0,.bool false]),some [(0,some 1,some false),(1,some 1,some false)],none,none,none,false,false,false,false⟩ :=by kernel_rfl
theorem Tryz.ti152 : tinfo Tryz.prog 152 = ⟨true,false,some 1,some (.int .u64 0),none,none,none,some .u64,false,false,false,false⟩ :=by kernel_rfl
theorem Tryz.ti154 : tinfo Tryz.prog 154 = ⟨true,true,some 8,some (.agg #[.int .i64 0,.int .i64 0,.int .i64 0,.int .i64 0,.int .i64 0,.int .i64 0,.int .i64 0,.int .i64 0]),none,some (4,some 2,true),none,none,false,false,false,false⟩ :=by kernel_rfl
theorem Tryz.ti163 : tinfo Tryz.prog 163 = ⟨true,false,some 1,some (.map none),none,none,none,none,false,false,false,false⟩ :=by kernel_rfl
theorem Tryz.ti164 : tinfo Tryz.prog 164 = ⟨true,true,some 1,some (.agg #[.map none]),some [(0,some 1,some false)],none,none,none,false,false,false,false⟩ :=by kernel_rfl
theorem Tryz.ti165 : tinfo Tryz.prog 165 = ⟨true,true,some 1,some (.agg #[.map none]),some [(0,some 1,some false)],none,none,none,false,false,false,false⟩ :=by kernel_rfl
theorem Tryz.ti166 : tinfo Tryz.prog 166 = ⟨true,true,some 4,some (.agg #[.int .i64 0,.int .i64 0,.int .i64 0,.int .i64 0]),some [(0,some 2,some true),(2,some 2,some true)],none,none,none,false,false,false,false⟩ :=by kernel_rfl
theorem Tryz.ti167 : tinfo Tryz.prog 167 = ⟨true,true,some 4,some (.agg #[.int .i64 0,.int .i64 0,.int .i64 0,.int .i64 0]),some [(0,some 2,some true),(2,some 2,some true)],none,none,none,false,false,false,false⟩ :=by kernel_rfl
theorem Tryz.ti169 : tinfo Tryz.prog 169 = ⟨true,false,some 1,some (.map none),none,none,none,none,false,false,false,false⟩ :=by kernel_rfl
theorem Tryz.ti190 : tinfo Tryz.prog 190 = ⟨true,true,some 12,some (.agg #[.int .i64 0,.int .i64 0,.int .i64 0,.int .i64 0,.int .i64 0,.int .i64 0,.int .i64 0,.int .i64 0,.int .i64 0,.int .i64 0,.int .i64 0,.int .i64 0]),none,some (3,some 4,true),none,none,false,false,false,false⟩ :=by kernel_rfl
theorem Tryz.ti197 : tinfo Tryz.prog 197 = ⟨true,true,some 6,some (.agg #[.int .i64 0,.int .i64 0,.int .i64 0,.int .i64 0,.int .i64 0,.int .i64 0]),none,some (3,some 2,true),none,none,false,false,false,false⟩ :=by kernel_rfl
theorem Tryz.ti199 : tinfo Tryz.prog 199 = ⟨true,false,some 1,some (.int .u64 0),none,none,none,some .u64,false,false,false,false⟩ :=by kernel_rfl
theorem Tryz.ti200 : tinfo Tryz.prog 200 = ⟨true,true,some 2,some (.agg #[.int .i64 0,.int .u64 0]),some [(0,some 1,some false),(1,some 1,some false)],none,none,none,false,false,false,false⟩ :=by kernel_rfl
theorem Tryz.ti201 : tinfo Tryz.prog 201 = ⟨true,true,some 2,some (.agg #[.int .i64 0,.int .u64 0]),some [(0,some 1,some false),(1,some 1,some false)],none,none,none,false,false,false,false⟩ :=by kernel_rfl
theorem Tryz.ti208 : tinfo Tryz.prog 208 = ⟨true,true,some 4,some (.agg #[.pointer none,.pointer none,.pointer none,.string ⟨#[]⟩]),some [(0,some 1,some false),(1,some 1,some false),(2,some 1,some false),(3,some 1,some false)],none,none,none,false,false,false,false⟩ :=by kernel_rfl
theorem Tryz.ti209 : tinfo Tryz.prog 209 = ⟨true,true,some 4,some (.agg #[.pointer none,.pointer none,.pointer none,.string ⟨#[]⟩]),some [(0,some 1,some false),(1,some 1,some false),(2,some 1,some false),(3,some 1,some false)],none,none,none,false,false,false,false⟩ :=by kernel_rfl
theorem Tryz.ti210 : tinfo Tryz.prog 210 = ⟨true,true,some 0,some (.agg #[]),none,some (0,some 1,false),none,none,false,false,false,false⟩ :=by kernel_rfl
theorem Tryz.ti211 : tinfo Tryz.prog 211 = ⟨true,true,some 0,some (.agg #[]),some [(0,some 0,some true)],none,none,none,false,false,false,false⟩ :=by kernel_rfl
theorem Tryz.ti212 : tinfo Tryz.prog 212 = ⟨true,true,some 0,some (.agg #[]),some [(0,some 0,some true)],none,none,none,false,false,false,false⟩ :=by kernel_rfl
theorem Tryz.ti213 : tinfo Tryz.prog 213 = ⟨true,false,some 1,some (.int .u32 0),none,none,none,some .u32,false,false,false,false⟩ :=by kernel_rfl
theorem Tryz.ti214 : tinfo Tryz.prog 214 = ⟨true,false,some 1,some (.int .u8 0),none,none,none,some .u8,false,false,false,false⟩ :=by kernel_rfl
theorem Tryz.ti215 : tinfo Tryz.prog 215 = ⟨true,false,some 1,some (.int .u8 0),none,none,none,some .u8,false,false,false,false⟩ :=by kernel_rfl
theorem Tryz.ti217 : tinfo Tryz.prog 217 = ⟨true,false,some 1,some (.pointer none),none,none,none,none,true,false,false,false⟩ :=by kernel_rfl
theorem Tryz.ti218 : tinfo Tryz.prog 218 = ⟨true,false,some 1,some (.int .i32 0),none,none,none,some .i32,false,false,false,false⟩ :=by kernel_rfl
theorem Tryz.ti219 : tinfo Tryz.prog 219 = ⟨true,false,some 1,some (.int .i32 0),none,none,none,some .i32,false,false,false,false⟩ :=by kernel_rfl
theorem Tryz.ti220 : tinfo Tryz.prog 220 = ⟨true,true,some 11,some (.agg #[.int .u64 0,.int .u64 0,.int .u32 0,.int .u8 0,.int .u8 0,.int .u8 0,.int .u8 0,.nilFunc,.pointer none,.int .i32 0,.int .i32 0]),some [(0,some 1,some false),(1,some 1,some false),(2,some 1,some false),(3,some 1,some false),(4,some 1,some false),(5,some 1,some false),(6,some 1,some false),(7,some 1,some false),(8,some 1,some false),(9,some 1,some false),(10,some 1,some false)],none,none,none,false,false,false,false⟩ :=by kernel_rfl
theorem Tryz.ti221 : tinfo Tryz.prog 221 = ⟨true,true,some 11,some (.agg #[.int .u64 0,.int .u64 0,.int .u32 0,.int .u8 0,.int .u8 0,.int .u8 0,.int .u8 0,.nilFunc,.pointer none,.int .i32 0,.int .i32 0]),some [(0,some 1,some false),(1,some 1,some false),(2,some 1,some false),(3,some 1,some false),(4,some 1,some false),(5,some 1,some false),(6,some 1,some false),(7,some 1,some false),(8,some 1,some false),(9,some 1,some false),(10,some 1,some false)],none,none,none,false,false,false,false⟩ :=by kernel_rfl
theorem Tryz.en3 : enters Tryz.prog 3 = true:=by kernel_rfl
theorem Tryz.en4 : enters Tryz.prog 4 = true:=by kernel_rfl
theorem Tryz.en5 : enters Tryz.prog 5 = true:=by kernel_rfl
theorem Tryz.en6 : enters Tryz.prog 6 = true:=by kernel_rfl
theorem Tryz.en7 : enters Tryz.prog 7 = true:=by kernel_rfl
theorem Tryz.en8 : enters Tryz.prog 8 = true:=by kernel_rfl
theorem Tryz.en9 : enters Tryz.prog 9 = true:=by kernel_rfl
theorem Tryz.en10 : enters Tryz.prog 10 = true:=by kernel_rfl
theorem Tryz.en11 : enters Tryz.prog 11 = true:=by kernel_rfl
theorem Tryz.en12 : enters Tryz.prog 12 = true:=by kernel_rfl
theorem Tryz.en13 : enters Tryz.prog 13 = true:=by kernel_rfl
theorem Tryz.en14 : enters Tryz.prog 14 = true:=by kernel_rfl
theorem Tryz.en15 : enters Tryz.prog 15 = true:=by kernel_rfl
theorem Tryz.en16 : enters Tryz.prog 16 = true:=by kernel_rfl
theorem Tryz.en17 : enters Tryz.prog 17 = true:=by kernel_rfl
theorem Tryz.en18 : enters Tryz.prog 18 = true:=by kernel_rfl
theorem Tryz.en19 : enters Tryz.prog 19 = true:=by kernel_rfl
theorem Tryz.en20 : enters Tryz.prog 20 = true:=by kernel_rfl
theorem Tryz.en21 : enters Tryz.prog 21 = true:=by kernel_rfl
theorem Tryz.en22 : enters Tryz.prog 22 = true:=by kernel_rfl
theorem Tryz.en23 : enters Tryz.prog 23 = true:=by kernel_rfl
theorem Tryz.en24 : enters Tryz.prog 24 = true:=by kernel_rfl
theorem Tryz.en25 : enters Tryz.prog 25 = true:=by kernel_rfl
theorem Tryz.en26 : enters Tryz.prog 26 = true:=by kernel_rfl
theorem Tryz.en27 : enters Tryz.prog 27 = true:=by kernel_rfl
theorem Tryz.en28 : enters Tryz.prog 28 = true:=by kernel_rfl
theorem Tryz.en29 : enters Tryz.prog 29 = true:=by kernel_rfl
theorem Tryz.en30 : enters Tryz.prog 30 = true:=by kernel_rfl
theorem Tryz.en31 : enters Tryz.prog 31 = true:=by kernel_rfl
theorem Tryz.en32 : enters Tryz.prog 32 = true:=by kernel_rfl
theorem Tryz.en33 : enters Tryz.prog 33 = true:=by kernel_rfl
theorem Tryz.en34 : enters Tryz.prog 34 = true:=by kernel_rfl
theorem Tryz.en35 : enters Tryz.prog 35 = true:=by kernel_rfl
theorem Tryz.en36 : enters Tryz.prog 36 = true:=by kernel_rfl
theorem Tryz.en37 : enters Tryz.prog 37 = true:=by kernel_rfl
theorem Tryz.en38 : enters Tryz.prog 38 = true:=by kernel_rfl
theorem Tryz.en39 : enters Tryz.prog 39 = true:=by kernel_rfl
theorem Tryz.en40 : enters Tryz.prog 40 = true:=by kernel_rfl
theorem Tryz.en41 : enters Tryz.prog 41 = true:=by kernel_rfl
theorem Tryz.en42 : enters Tryz.prog 42 = true:=by kernel_rfl
theorem Tryz.en43 : enters Tryz.prog 43 = true:=by kernel_rfl
theorem Tryz.en44 : enters Tryz.prog 44 = true:=by kernel_rfl
theorem Tryz.en45 : enters Tryz.prog 45 = true:=by kernel_rfl
theorem Tryz.en46 : enters Tryz.prog 46 = true:=by kernel_rfl
theorem Tryz.en47 : enters Tryz.prog 47 = true:=by kernel_rfl
theorem Tryz.en48 : enters Tryz.prog 48 = true:=by kernel_rfl
theorem Tryz.en49 : enters Tryz.prog 49 = true:=by kernel_rfl
theorem Tryz.en50 : enters Tryz.prog 50 = true:=by kernel_rfl
theorem Tryz.en51 : enters Tryz.prog 51 = true:=by kernel_rfl
theorem Tryz.en52 : enters Tryz.prog 52 = true:=by kernel_rfl
theorem Tryz.en53 : enters Tryz.prog 53 = true:=by kernel_rfl
theorem Tryz.en54 : enters Tryz.prog 54 = true:=by kernel_rfl
theorem Tryz.en55 : enters Tryz.prog 55 = true:=by kernel_rfl
theorem Tryz.en56 : enters Tryz.prog 56 = true:=by kernel_rfl
theorem Tryz.en57 : enters Tryz.prog 57 = true:=by kernel_rfl
theorem Tryz.en58 : enters Tryz.prog 58 = true:=by kernel_rfl
theorem Tryz.en59 : enters Tryz.prog 59 = true:=by kernel_rfl
theorem Tryz.en60 : enters Tryz.prog 60 = true:=by kernel_rfl
theorem Tryz.en61 : enters Tryz.prog 61 = true:=by kernel_rfl
theorem Tryz.en62 : enters Tryz.prog 62 = true:=by kernel_rfl
theorem Tryz.en63 : enters Tryz.prog 63 = true:=by kernel_rfl
theorem Tryz.en64 : enters Tryz.prog 64 = true:=by kernel_rfl
theorem Tryz.en65 : enters Tryz.prog 65 = true:=by kernel_rfl
theorem Tryz.en66 : enters Tryz.prog 66 = true:=by kernel_rfl
theorem Tryz.en67 : enters Tryz.prog 67 = true:=by kernel_rfl
theorem Tryz.en68 : enters Tryz.prog 68 = true:=by kernel_rfl
theorem Tryz.en69 : enters Tryz.prog 69 = true:=by kernel_rfl
theorem Tryz.en70 : enters Tryz.prog 70 = true:=by kernel_rfl
theorem Tryz.en71 : enters Tryz.prog 71 = true:=by kernel_rfl
theorem Tryz.en72 : enters Tryz.prog 72 = true:=by kernel_rfl
theorem Tryz.en73 : enters Tryz.prog 73 = true:=by kernel_rfl
theorem Tryz.en74 : enters Tryz.prog 74 = true:=by kernel_rfl
theorem Tryz.en75 : enters Tryz.prog 75 = true:=by kernel_rfl
theorem Tryz.en76 : enters Tryz.prog 76 = true:=by kernel_rfl
theorem Tryz.en77 : enters Tryz.prog 77 = true:=by kernel_rfl
theorem Tryz.en78 : enters Tryz.prog 78 = true:=by kernel_rfl
theorem Tryz.en79 : enters Tryz.prog 79 = true:=by kernel_rfl
theorem Tryz.en80 : enters Tryz.prog 80 = true:=by kernel_rfl
theorem Tryz.en81 : enters Tryz.prog 81 = true:=by kernel_rfl
theorem Tryz.en82 : enters Tryz.prog 82 = true:=by kernel_rfl
theorem Tryz.en83 : enters Tryz.prog 83 = true:=by kernel_rfl
theorem Tryz.en84 : enters Tryz.prog 84 = true:=by kernel_rfl
theorem Tryz.en85 : enters Tryz.prog 85 = true:=by kernel_rfl
theorem Tryz.en86 : enters Tryz.prog 86 = true:=by kernel_rfl
theorem Tryz.en87 : enters Tryz.prog 87 = true:=by kernel_rfl
theorem Tryz.en88 : enters Tryz.prog 88 = true:=by kernel_rfl
theorem Tryz.en89 : enters Tryz.prog 89 = true:=by kernel_rfl
theorem Tryz.en90 : enters Tryz.prog 90 = true:=by kernel_rfl
theorem Tryz.en91 : enters Tryz.prog 91 = true:=by kernel_rfl
theorem Tryz.en92 : enters Tryz.prog 92 = true:=by kernel_rfl
theorem Tryz.en93 : enters Tryz.prog 93 = true:=by kernel_rfl
theorem Tryz.en94 : enters Tryz.prog 94 = true:=by kernel_rfl
theorem Tryz.en95 : enters Tryz.prog 95 = true:=by kernel_rfl
theorem Tryz.en96 : enters Tryz.prog 96 = true:=by kernel_rfl
theorem Tryz.en97 : enters Tryz.prog 97 = true:=by kernel_rfl
theorem Tryz.en98 : enters Tryz.prog 98 = true:=by kernel_rfl
theorem Tryz.en99 : enters Tryz.prog 99 = true:=by kernel_rfl
theorem Tryz.en100 : enters Tryz.prog 100 = true:=by kernel_rfl
theorem Tryz.en101 : enters Tryz.prog 101 = true:=by kernel_rfl
theorem Tryz.en102 : enters Tryz.prog 102 = true:=by kernel_rfl
theorem Tryz.en103 : enters Tryz.prog 103 = true:=by kernel_rfl
theorem Tryz.en104 : enters Tryz.prog 104 = true:=by kernel_rfl
theorem Tryz.en105 : enters Tryz.prog 105 = true:=by kernel_rfl
theorem Tryz.en106 : enters Tryz.prog 106 = true:=by kernel_rfl
theorem Tryz.en107 : enters Tryz.prog 107 = true:=by kernel_rfl
theorem Tryz.en108 : enters Tryz.prog 108 = true:=by kernel_rfl
theorem Tryz.en109 : enters Tryz.prog 109 = true:=by kernel_rfl
theorem Tryz.en110 : enters Tryz.prog 110 = true:=by kernel_rfl
theorem Tryz.en111 : enters Tryz.prog 111 = true:=by kernel_rfl
theorem Tryz.en112 : enters Tryz.prog 112 = true:=by kernel_rfl
theorem Tryz.en113 : enters Tryz.prog 113 = true:=by kernel_rfl
theorem Tryz.en114 : enters Tryz.prog 114 = true:=by kernel_rfl
theorem Tryz.en115 : enters Tryz.prog 115 = true:=by kernel_rfl
theorem Tryz.en116 : enters Tryz.prog 116 = true:=by kernel_rfl
theorem Tryz.en117 : enters Tryz.prog 117 = true:=by kernel_rfl
theorem Tryz.en118 : enters Tryz.prog 118 = true:=by kernel_rfl
theorem Tryz.en119 : enters Tryz.prog 119 = true:=by kernel_rfl
theorem Tryz.en120 : enters Tryz.prog 120 = true:=by kernel_rfl
theorem Tryz.en121 : enters Tryz.prog 121 = true:=by kernel_rfl
theorem Tryz.en122 : enters Tryz.prog 122 = true:=by kernel_rfl
theorem Tryz.en123 : enters Tryz.prog 123 = true:=by kernel_rfl
theorem Tryz.en124 : enters Tryz.prog 124 = true:=by kernel_rfl
theorem Tryz.en125 : enters Tryz.prog 125 = true:=by kernel_rfl
theorem Tryz.en126 : enters Tryz.prog 126 = true:=by kernel_rfl
theorem Tryz.en127 : enters Tryz.prog 127 = true:=by kernel_rfl
theorem Tryz.en128 : enters Tryz.prog 128 = true:=by kernel_rfl
theorem Tryz.en129 : enters Tryz.prog 129 = true:=by kernel_rfl
theorem Tryz.en130 : enters Tryz.prog 130 = true:=by kernel_rfl
theorem Tryz.en131 : enters Tryz.prog 131 = true:=by kernel_rfl
theorem Tryz.en132 : enters Tryz.prog 132 = true:=by kernel_rfl
theorem Tryz.en133 : enters Tryz.prog 133 = true:=by kernel_rfl
theorem Tryz.en134 : enters Tryz.prog 134 = true:=by kernel_rfl
theorem Tryz.en135 : enters Tryz.prog 135 = true:=by kernel_rfl
theorem Tryz.en136 : enters Tryz.prog 136 = true:=by kernel_rfl
theorem Tryz.en137 : enters Tryz.prog 137 = true:=by kernel_rfl
theorem Tryz.en138 : enters Tryz.prog 138 = true:=by kernel_rfl
theorem Tryz.en139 : enters Tryz.prog 139 = true:=by kernel_rfl
theorem Tryz.en140 : enters Tryz.prog 140 = true:=by kernel_rfl
theorem Tryz.en141 : enters Tryz.prog 141 = true:=by kernel_rfl
theorem Tryz.en142 : enters Tryz.prog 142 = true:=by kernel_rfl
theorem Tryz.nt3 : Tryz.f3.ntmps = 70:=by kernel_rfl
theorem Tryz.rs3 : Tryz.f3.results.toList = [.tmp 4]:=by kernel_rfl
theorem Tryz.nt4 : Tryz.f4.ntmps = 106:=by kernel_rfl
theorem Tryz.rs4 : Tryz.f4.results.toList = [.tmp 4]:=by kernel_rfl
theorem Tryz.nt5 : Tryz.f5.ntmps = 68:=by kernel_rfl
theorem Tryz.rs5 : Tryz.f5.results.toList = [.tmp 0]:=by kernel_rfl
theorem Tryz.nt6 : Tryz.f6.ntmps = 145:=by kernel_rfl
theorem Tryz.rs6 : Tryz.f6.results.toList = [.cell 2 33]:=by kernel_rfl
theorem Tryz.nt7 : Tryz.f7.ntmps = 87:=by kernel_rfl
theorem Tryz.rs7 : Tryz.f7.results.toList = [.tmp 2,.tmp 3]:=by kernel_rfl
theorem Tryz.nt8 : Tryz.f8.ntmps = 81:=by kernel_rfl
theorem Tryz.rs8 : Tryz.f8.results.toList = [.cell 2 33,.tmp 3]:=by kernel_rfl
theorem Tryz.nt9 : Tryz.f9.ntmps = 73:=by kernel_rfl
theorem Tryz.rs9 : Tryz.f9.results.toList = [.tmp 4]:=by kernel_rfl
theorem Tryz.nt10 : Tryz.f10.ntmps = 12:=by kernel_rfl
theorem Tryz.rs10 : Tryz.f10.results.toList = [.tmp 4]:=by kernel_rfl
theorem Tryz.nt11 : Tryz.f11.ntmps = 146:=by kernel_rfl
theorem Tryz.rs11 : Tryz.f11.results.toList = [.tmp 2]:=by kernel_rfl
theorem Tryz.nt12 : Tryz.f12.ntmps = 24:=by kernel_rfl
theorem Tryz.rs12 : Tryz.f12.results.toList = [.tmp 6]:=by kernel_rfl
theorem Tryz.nt13 : Tryz.f13.ntmps = 9:=by kernel_rfl
theorem Tryz.rs13 : Tryz.f13.results.toList = [.tmp 2]:=by kernel_rfl
theorem Tryz.nt14 : Tryz.f14.ntmps = 134:=by kernel_rfl
theorem Tryz.rs14 : Tryz.f14.results.toList = [.tmp 8]:=by kernel_rfl
theorem Tryz.nt15 : Tryz.f15.ntmps = 12:=by kernel_rfl
theorem Tryz.rs15 : Tryz.f15.results.toList = [.tmp 4]:=by kernel_rfl
theorem Tryz.nt16 : Tryz.f16.ntmps = 9:=by kernel_rfl
theorem Tryz.rs16 : Tryz.f16.results.toList = [.tmp 4]:=by kernel_rfl
theorem Tryz.nt17 : Tryz.f17.ntmps = 7:=by kernel_rfl
theorem Tryz.rs17 : Tryz.f17.results.toList = [.tmp 2]:=by kernel_rfl
theorem Tryz.nt18 : Tryz.f18.ntmps = 21:=by kernel_rfl
theorem Tryz.rs18 : Tryz.f18.results.toList = [.tmp 2]:=by kernel_rfl
theorem Tryz.nt19 : Tryz.f19.ntmps = 56:=by kernel_rfl
theorem Tryz.rs19 : Tryz.f19.results.toList = [.tmp 6]:=by kernel_rfl
theorem Tryz.nt20 : Tryz.f20.ntmps = 22:=by kernel_rfl
theorem Tryz.rs20 : Tryz.f20.results.toList = []:=by kernel_rfl
theorem Tryz.nt21 : Tryz.f21.ntmps = 6:=by kernel_rfl
theorem Tryz.rs21 : Tryz.f21.results.toList = []:=by kernel_rfl
theorem Tryz.nt22 : Tryz.f22.ntmps = 12:=by kernel_rfl
theorem Tryz.rs22 : Tryz.f22.results.toList = [.tmp 4]:=by kernel_rfl
theorem Tryz.nt23 : Tryz.f23.ntmps = 22:=by kernel_rfl
theorem Tryz.rs23 : Tryz.f23.results.toList = []:=by kernel_rfl
theorem Tryz.nt24 : Tryz.f24.ntmps = 13:=by kernel_rfl
theorem Tryz.rs24 : Tryz.f24.results.toList = []:=by kernel_rfl
theorem Tryz.nt25 : Tryz.f25.ntmps = 22:=by kernel_rfl
theorem Tryz.rs25 : Tryz.f25.results.toList = []:=by kernel_rfl
theorem Tryz.nt26 : Tryz.f26.ntmps = 10:=by kernel_rfl
theorem Tryz.rs26 : Tryz.f26.results.toList = []:=by kernel_rfl
theorem Tryz.nt27 : Tryz.f27.ntmps = 22:=by kernel_rfl
theorem Tryz.rs27 : Tryz.f27.results.toList = []:=by kernel_rfl
theorem Tryz.nt28 : Tryz.f28.ntmps = 19:=by kernel_rfl
theorem Tryz.rs28 : Tryz.f28.results.toList = []:=by kernel_rfl
theorem Tryz.nt29 : Tryz.f29.ntmps = 15:=by kernel_rfl
theorem Tryz.rs29 : Tryz.f29.results.toList = [.tmp 4]:=by kernel_rfl
theorem Tryz.nt30 : Tryz.f30.ntmps = 22:=by kernel_rfl
theorem Tryz.rs30 : Tryz.f30.results.toList = []:=by kernel_rfl
theorem Tryz.nt31 : Tryz.f31.ntmps = 32:=by kernel_rfl
theorem Tryz.rs31 : Tryz.f31.results.toList = []:=by kernel_rfl
theorem Tryz.nt32 : Tryz.f32.ntmps = 22:=by kernel_rfl
theorem Tryz.rs32 : Tryz.f32.results.toList = []:=by kernel_rfl
theorem Tryz.nt33 : Tryz.f33.ntmps = 13:=by kernel_rfl
theorem Tryz.rs33 : Tryz.f33.results.toList = []:=by kernel_rfl
theorem Tryz.nt34 : Tryz.f34.ntmps = 22:=by kernel_rfl
theorem Tryz.rs34 : Tryz.f34.results.toList = []:=by kernel_rfl
theorem Tryz.nt35 : Tryz.f35.ntmps = 13:=by kernel_rfl
theorem Tryz.rs35 : Tryz.f35.results.toList = []:=by kernel_rfl
theorem Tryz.nt36 : Tryz.f36.ntmps = 22:=by kernel_rfl
theorem Tryz.rs36 : Tryz.f36.results.toList = []:=by kernel_rfl
theorem Tryz.nt37 : Tryz.f37.ntmps = 18:=by kernel_rfl
theorem Tryz.rs37 : Tryz.f37.results.toList = []:=by kernel_rfl
theorem Tryz.nt38 : Tryz.f38.ntmps = 4:=by kernel_rfl
theorem Tryz.rs38 : Tryz.f38.results.toList = [.tmp 2]:=by kernel_rfl
theorem Tryz.nt39 : Tryz.f39.ntmps = 17:=by kernel_rfl
theorem Tryz.rs39 : Tryz.f39.results.toList = [.tmp 4]:=by kernel_rfl
theorem Tryz.nt40 : Tryz.f40.ntmps = 17:=by kernel_rfl
theorem Tryz.rs40 : Tryz.f40.results.toList = [.tmp 2,.tmp 3]:=by kernel_rfl
theorem Tryz.nt41 : Tryz.f41.ntmps = 7:=by kernel_rfl
theorem Tryz.rs41 : Tryz.f41.results.toList = [.tmp 2]:=by kernel_rfl
theorem Tryz.nt42 : Tryz.f42.ntmps = 33:=by kernel_rfl
theorem Tryz.rs42 : Tryz.f42.results.toList = [.tmp 4]:=by kernel_rfl
theorem Tryz.nt43 : Tryz.f43.ntmps = 23:=by kernel_rfl
theorem Tryz.rs43 : Tryz.f43.results.toList = [.tmp 4]:=by kernel_rfl
theorem Tryz.nt44 : Tryz.f44.ntmps = 21:=by kernel_rfl
theorem Tryz.rs44 : Tryz.f44.results.toList = [.cell 2 45]:=by kernel_rfl
theorem Tryz.nt45 : Tryz.f45.ntmps = 23:=by kernel_rfl
theorem Tryz.rs45 : Tryz.f45.results.toList = [.tmp 4]:=by kernel_rfl
theorem Tryz.nt46 : Tryz.f46.ntmps = 9:=by kernel_rfl
theorem Tryz.rs46 : Tryz.f46.results.toList = [.cell 1 47]:=by kernel_rfl
theorem Tryz.nt47 : Tryz.f47.ntmps = 23:=by kernel_rfl
theorem Tryz.rs47 : Tryz.f47.results.toList = [.tmp 4]:=by kernel_rfl
theorem Tryz.nt48 : Tryz.f48.ntmps = 7:=by kernel_rfl
theorem Tryz.rs48 : Tryz.f48.results.toList = [.cell 1 69]:=by kernel_rfl
theorem Tryz.nt49 : Tryz.f49.ntmps = 23:=by kernel_rfl
theorem Tryz.rs49 : Tryz.f49.results.toList = [.tmp 4]:=by kernel_rfl
theorem Tryz.nt50 : Tryz.f50.ntmps = 13:=by kernel_rfl
theorem Tryz.rs50 : Tryz.f50.results.toList = [.cell 1 51]:=by kernel_rfl
theorem Tryz.nt51 : Tryz.f51.ntmps = 28:=by kernel_rfl
theorem Tryz.rs51 : Tryz.f51.results.toList = [.cell 2 49]:=by kernel_rfl
theorem Tryz.nt52 : Tryz.f52.ntmps = 23:=by kernel_rfl
theorem Tryz.rs52 : Tryz.f52.results.toList = [.tmp 4]:=by kernel_rfl
theorem Tryz.nt53 : Tryz.f53.ntmps = 22:=by kernel_rfl
theorem Tryz.rs53 : Tryz.f53.results.toList = [.cell 1 53]:=by kernel_rfl
theorem Tryz.nt54 : Tryz.f54.ntmps = 23:=by kernel_rfl
theorem Tryz.rs54 : Tryz.f54.results.toList = [.tmp 4]:=by kernel_rfl
theorem Tryz.nt55 : Tryz.f55.ntmps = 9:=by kernel_rfl
theorem Tryz.rs55 : Tryz.f55.results.toList = [.cell 1 55]:=by kernel_rfl
theorem Tryz.nt56 : Tryz.f56.ntmps = 23:=by kernel_rfl
theorem Tryz.rs56 : Tryz.f56.results.toList = [.tmp 4]:=by kernel_rfl
theorem Tryz.nt57 : Tryz.f57.ntmps = 9:=by kernel_rfl
theorem Tryz.rs57 : Tryz.f57.results.toList = [.cell 1 93]:=by kernel_rfl
theorem Tryz.nt58 : Tryz.f58.ntmps = 23:=by kernel_rfl
theorem Tryz.rs58 : Tryz.f58.results.toList = [.tmp 4]:=by kernel_rfl
theorem Tryz.nt59 : Tryz.f59.ntmps = 15:=by kernel_rfl
theorem Tryz.rs59 : Tryz.f59.results.toList = [.cell 1 97]:=by kernel_rfl
theorem Tryz.nt60 : Tryz.f60.ntmps = 45:=by kernel_rfl
theorem Tryz.rs60 : Tryz.f60.results.toList = [.tmp 4]:=by kernel_rfl
theorem Tryz.nt61 : Tryz.f61.ntmps = 19:=by kernel_rfl
theorem Tryz.rs61 : Tryz.f61.results.toList = [.tmp 2]:=by kernel_rfl
theorem Tryz.nt62 : Tryz.f62.ntmps = 10:=by kernel_rfl
theorem Tryz.rs62 : Tryz.f62.results.toList = [.tmp 4]:=by kernel_rfl
theorem Tryz.nt63 : Tryz.f63.ntmps = 18:=by kernel_rfl
theorem Tryz.rs63 : Tryz.f63.results.toList = [.cell 2 125]:=by kernel_rfl
theorem Tryz.nt64 : Tryz.f64.ntmps = 32:=by kernel_rfl
theorem Tryz.rs64 : Tryz.f64.results.toList = [.tmp 6]:=by kernel_rfl
theorem Tryz.nt65 : Tryz.f65.ntmps = 24:=by kernel_rfl
theorem Tryz.rs65 : Tryz.f65.results.toList = [.tmp 4]:=by kernel_rfl
theorem Tryz.nt66 : Tryz.f66.ntmps = 26:=by kernel_rfl
theorem Tryz.rs66 : Tryz.f66.results.toList = [.tmp 4]:=by kernel_rfl
theorem Tryz.nt67 : Tryz.f67.ntmps = 26:=by kernel_rfl
theorem Tryz.rs67 : Tryz.f67.results.toList = [.tmp 4]:=by kernel_rfl
theorem Tryz.nt68 : Tryz.f68.ntmps = 26:=by kernel_rfl
theorem Tryz.rs68 : Tryz.f68.results.toList = [.tmp 4]:=by kernel_rfl
theorem Tryz.nt69 : Tryz.f69.ntmps = 26:=by kernel_rfl
theorem Tryz.rs69 : Tryz.f69.results.toList = [.tmp 4]:=by kernel_rfl
theorem Tryz.nt70 : Tryz.f70.ntmps = 26:=by kernel_rfl
theorem Tryz.rs70 : Tryz.f70.results.toList = [.tmp 4]:=by kernel_rfl
theorem Tryz.nt71 : Tryz.f71.ntmps = 26:=by kernel_rfl
theorem Tryz.rs71 : Tryz.f71.results.toList = [.tmp 4]:=by kernel_rfl
theorem Tryz.nt72 : Tryz.f72.ntmps = 26:=by kernel_rfl
theorem Tryz.rs72 : Tryz.f72.results.toList = [.tmp 4]:=by kernel_rfl
theorem Tryz.nt73 : Tryz.f73.ntmps = 93:=by kernel_rfl
theorem Tryz.rs73 : Tryz.f73.results.toList = [.tmp 4]:=by kernel_rfl
theorem Tryz.nt74 : Tryz.f74.ntmps = 28:=by kernel_rfl
theorem Tryz.rs74 : Tryz.f74.results.toList = [.tmp 4]:=by kernel_rfl
theorem Tryz.nt75 : Tryz.f75.ntmps = 34:=by kernel_rfl
theorem Tryz.rs75 : Tryz.f75.results.toList = [.tmp 8]:=by kernel_rfl
theorem Tryz.nt76 : Tryz.f76.ntmps = 24:=by kernel_rfl
theorem Tryz.rs76 : Tryz.f76.results.toList = [.cell 6 45]:=by kernel_rfl
theorem Tryz.nt77 : Tryz.f77.ntmps = 31:=by kernel_rfl
theorem Tryz.rs77 : Tryz.f77.results.toList = [.tmp 2]:=by kernel_rfl
theorem Tryz.nt78 : Tryz.f78.ntmps = 27:=by kernel_rfl
theorem Tryz.rs78 : Tryz.f78.results.toList = [.tmp 2]:=by kernel_rfl
theorem Tryz.nt79 : Tryz.f79.ntmps = 52:=by kernel_rfl
theorem Tryz.rs79 : Tryz.f79.results.toList = [.tmp 6]:=by kernel_rfl
theorem Tryz.nt80 : Tryz.f80.ntmps = 18:=by kernel_rfl
theorem Tryz.rs80 : Tryz.f80.results.toList = [.tmp 4]:=by kernel_rfl
theorem Tryz.nt81 : Tryz.f81.ntmps = 19:=by kernel_rfl
theorem Tryz.rs81 : Tryz.f81.results.toList = [.tmp 4]:=by kernel_rfl
theorem Tryz.nt82 : Tryz.f82.ntmps = 36:=by kernel_rfl
theorem Tryz.rs82 : Tryz.f82.results.toList = [.cell 6 49,.tmp 7]:=by kernel_rfl
theorem Tryz.nt83 : Tryz.f83.ntmps = 8:=by kernel_rfl
theorem Tryz.rs83 : Tryz.f83.results.toList = [.tmp 2]:=by kernel_rfl
theorem Tryz.nt84 : Tryz.f84.ntmps = 16:=by kernel_rfl
theorem Tryz.rs84 : Tryz.f84.results.toList = [.tmp 2]:=by kernel_rfl
theorem Tryz.nt85 : Tryz.f85.ntmps = 14:=by kernel_rfl
theorem Tryz.rs85 : Tryz.f85.results.toList = [.cell 4 154]:=by kernel_rfl
theorem Tryz.nt86 : Tryz.f86.ntmps = 36:=by kernel_rfl
theorem Tryz.rs86 : Tryz.f86.results.toList = [.cell 6 49,.tmp 7]:=by kernel_rfl
theorem Tryz.nt87 : Tryz.f87.ntmps = 30:=by kernel_rfl
theorem Tryz.rs87 : Tryz.f87.results.toList = [.tmp 2]:=by kernel_rfl
theorem Tryz.nt88 : Tryz.f88.ntmps = 38:=by kernel_rfl
theorem Tryz.rs88 : Tryz.f88.results.toList = [.cell 6 47,.tmp 7]:=by kernel_rfl
theorem Tryz.nt89 : Tryz.f89.ntmps = 48:=by kernel_rfl
theorem Tryz.rs89 : Tryz.f89.results.toList = []:=by kernel_rfl
theorem Tryz.nt90 : Tryz.f90.ntmps = 45:=by kernel_rfl
theorem Tryz.rs90 : Tryz.f90.results.toList = []:=by kernel_rfl
theorem Tryz.nt91 : Tryz.f91.ntmps = 90:=by kernel_rfl
theorem Tryz.rs91 : Tryz.f91.results.toList = [.tmp 6]:=by kernel_rfl
theorem Tryz.nt92 : Tryz.f92.ntmps = 90:=by kernel_rfl
theorem Tryz.rs92 : Tryz.f92.results.toList = [.tmp 10]:=by kernel_rfl
theorem Tryz.nt93 : Tryz.f93.ntmps = 77:=by kernel_rfl
theorem Tryz.rs93 : Tryz.f93.results.toList = [.tmp 2]:=by kernel_rfl
theorem Tryz.nt94 : Tryz.f94.ntmps = 90:=by kernel_rfl
theorem Tryz.rs94 : Tryz.f94.results.toList = [.tmp 2]:=by kernel_rfl
theorem Tryz.nt95 : Tryz.f95.ntmps = 84:=by kernel_rfl
theorem Tryz.rs95 : Tryz.f95.results.toList = [.tmp 8]:=by kernel_rfl
theorem Tryz.nt96 : Tryz.f96.ntmps = 36:=by kernel_rfl
theorem Tryz.rs96 : Tryz.f96.results.toList = [.tmp 6]:=by kernel_rfl
theorem Tryz.nt97 : Tryz.f97.ntmps = 17:=by kernel_rfl
theorem Tryz.rs97 : Tryz.f97.results.toList = [.tmp 4]:=by kernel_rfl
theorem Tryz.nt98 : Tryz.f98.ntmps = 25:=by kernel_rfl
theorem Tryz.rs98 : Tryz.f98.results.toList = [.tmp 6]:=by kernel_rfl
theorem Tryz.nt99 : Tryz.f99.ntmps = 29:=by kernel_rfl
theorem Tryz.rs99 : Tryz.f99.results.toList = [.tmp 4]:=by kernel_rfl
theorem Tryz.nt100 : Tryz.f100.ntmps = 21:=by kernel_rfl
theorem Tryz.rs100 : Tryz.f100.results.toList = [.tmp 2]:=by kernel_rfl
theorem Tryz.nt101 : Tryz.f101.ntmps = 40:=by kernel_rfl
theorem Tryz.rs101 : Tryz.f101.results.toList = [.tmp 4]:=by kernel_rfl
theorem Tryz.nt102 : Tryz.f102.ntmps = 21:=by kernel_rfl
theorem Tryz.rs102 : Tryz.f102.results.toList = [.tmp 2]:=by kernel_rfl
theorem Tryz.nt103 : Tryz.f103.ntmps = 11:=by kernel_rfl
theorem Tryz.rs103 : Tryz.f103.results.toList = [.cell 4 45]:=by kernel_rfl
theorem Tryz.nt104 : Tryz.f104.ntmps = 11:=by kernel_rfl
theorem Tryz.rs104 : Tryz.f104.results.toList = [.cell 4 45]:=by kernel_rfl
theorem Tryz.nt105 : Tryz.f105.ntmps = 27:=by kernel_rfl
theorem Tryz.rs105 : Tryz.f105.results.toList = [.tmp 4]:=by kernel_rfl
theorem Tryz.nt106 : Tryz.f106.ntmps = 44:=by kernel_rfl
theorem Tryz.rs106 : Tryz.f106.results.toList = [.tmp 4]:=by kernel_rfl
theorem Tryz.nt107 : Tryz.f107.ntmps = 52:=by kernel_rfl
theorem Tryz.rs107 : Tryz.f107.results.toList = [.tmp 8]:=by kernel_rfl
theorem Tryz.nt108 : Tryz.f108.ntmps = 125:=by kernel_rfl
theorem Tryz.rs108 : Tryz.f108.results.toList = [.tmp 6]:=by kernel_rfl
theorem Tryz.nt109 : Tryz.f109.ntmps = 34:=by kernel_rfl
theorem Tryz.rs109 : Tryz.f109.results.toList = [.tmp 4]:=by kernel_rfl
theorem Tryz.nt110 : Tryz.f110.ntmps = 28:=by kernel_rfl
theorem Tryz.rs110 : Tryz.f110.results.toList = [.tmp 4]:=by kernel_rfl
theorem Tryz.nt111 : Tryz.f111.ntmps = 19:=by kernel_rfl
theorem Tryz.rs111 : Tryz.f111.results.toList = []:=by kernel_rfl
theorem Tryz.nt112 : Tryz.f112.ntmps = 55:=by kernel_rfl
theorem Tryz.rs112 : Tryz.f112.results.toList = [.tmp 4]:=by kernel_rfl
theorem Tryz.nt113 : Tryz.f113.ntmps = 44:=by kernel_rfl
theorem Tryz.rs113 : Tryz.f113.results.toList = [.cell 4 47,.tmp 5]:=by kernel_rfl
theorem Tryz.nt114 : Tryz.f114.ntmps = 62:=by kernel_rfl
theorem Tryz.rs114 : Tryz.f114.results.toList = [.tmp 6]:=by kernel_rfl
theorem Tryz.nt115 : Tryz.f115.ntmps = 79:=by kernel_rfl
theorem Tryz.rs115 : Tryz.f115.results.toList = [.tmp 6,.tmp 7]:=by kernel_rfl
theorem Tryz.nt116 : Tryz.f116.ntmps = 52:=by kernel_rfl
theorem Tryz.rs116 : Tryz.f116.results.toList = [.tmp 6]:=by kernel_rfl
theorem Tryz.nt117 : Tryz.f117.ntmps = 134:=by kernel_rfl
theorem Tryz.rs117 : Tryz.f117.results.toList = []:=by kernel_rfl
theorem Tryz.nt118 : Tryz.f118.ntmps = 26:=by kernel_rfl
theorem Tryz.rs118 : Tryz.f118.results.toList = [.tmp 4]:=by kernel_rfl
theorem Tryz.nt119 : Tryz.f119.ntmps = 26:=by kernel_rfl
theorem Tryz.rs119 : Tryz.f119.results.toList = [.tmp 4]:=by kernel_rfl
theorem Tryz.nt120 : Tryz.f120.ntmps = 24:=by kernel_rfl
theorem Tryz.rs120 : Tryz.f120.results.toList = [.cell 6 49,.tmp 7]:=by kernel_rfl
theorem Tryz.nt121 : Tryz.f121.ntmps = 71:=by kernel_rfl
theorem Tryz.rs121 : Tryz.f121.results.toList = [.tmp 6]:=by kernel_rfl
theorem Tryz.nt122 : Tryz.f122.ntmps = 17:=by kernel_rfl
theorem Tryz.rs122 : Tryz.f122.results.toList = [.cell 4 45]:=by kernel_rfl
theorem Tryz.nt123 : Tryz.f123.ntmps = 15:=by kernel_rfl
theorem Tryz.rs123 : Tryz.f123.results.toList = [.tmp 2]:=by kernel_rfl
theorem Tryz.nt124 : Tryz.f124.ntmps = 20:=by kernel_rfl
theorem Tryz.rs124 : Tryz.f124.results.toList = [.tmp 4]:=by kernel_rfl
theorem Tryz.nt125 : Tryz.f125.ntmps = 18:=by kernel_rfl
theorem Tryz.rs125 : Tryz.f125.results.toList = [.tmp 2]:=by kernel_rfl
theorem Tryz.nt126 : Tryz.f126.ntmps = 9:=by kernel_rfl
theorem Tryz.rs126 : Tryz.f126.results.toList = [.tmp 2]:=by kernel_rfl
theorem Tryz.nt127 : Tryz.f127.ntmps = 30:=by kernel_rfl
theorem Tryz.rs127 : Tryz.f127.results.toList = [.tmp 6]:=by kernel_rfl
theorem Tryz.nt128 : Tryz.f128.ntmps = 19:=by kernel_rfl
theorem Tryz.rs128 : Tryz.f128.results.toList = [.cell 2 190]:=by kernel_rfl
theorem Tryz.nt129 : Tryz.f129.ntmps = 23:=by kernel_rfl
theorem Tryz.rs129 : Tryz.f129.results.toList = [.cell 6 49,.tmp 7]:=by kernel_rfl
theorem Tryz.nt130 : Tryz.f130.ntmps = 179:=by kernel_rfl
theorem Tryz.rs130 : Tryz.f130.results.toList = [.tmp 8]:=by kernel_rfl
theorem Tryz.nt131 : Tryz.f131.ntmps = 29:=by kernel_rfl
theorem Tryz.rs131 : Tryz.f131.results.toList = [.cell 6 45]:=by kernel_rfl
theorem Tryz.nt132 : Tryz.f132.ntmps = 38:=by kernel_rfl
theorem Tryz.rs132 : Tryz.f132.results.toList = [.tmp 4]:=by kernel_rfl
theorem Tryz.nt133 : Tryz.f133.ntmps = 42:=by kernel_rfl
theorem Tryz.rs133 : Tryz.f133.results.toList = [.tmp 6]:=by kernel_rfl
theorem Tryz.nt134 : Tryz.f134.ntmps = 110:=by kernel_rfl
theorem Tryz.rs134 : Tryz.f134.results.toList = [.tmp 8]:=by kernel_rfl
theorem Tryz.nt135 : Tryz.f135.ntmps = 21:=by kernel_rfl
theorem Tryz.rs135 : Tryz.f135.results.toList = [.tmp 2]:=by kernel_rfl
theorem Tryz.nt136 : Tryz.f136.ntmps = 6:=by kernel_rfl
theorem Tryz.rs136 : Tryz.f136.results.toList = [.tmp 2]:=by kernel_rfl
theorem Tryz.nt137 : Tryz.f137.ntmps = 72:=by kernel_rfl
theorem Tryz.rs137 : Tryz.f137.results.toList = [.cell 4 201]:=by kernel_rfl
theorem Tryz.nt138 : Tryz.f138.ntmps = 25:=by kernel_rfl
theorem Tryz.rs138 : Tryz.f138.results.toList = [.cell 4 201]:=by kernel_rfl
theorem Tryz.nt139 : Tryz.f139.ntmps = 12:=by kernel_rfl
theorem Tryz.rs139 : Tryz.f139.results.toList = [.cell 2 201]:=by kernel_rfl
theorem Tryz.nt140 : Tryz.f140.ntmps = 16:=by kernel_rfl
theorem Tryz.rs140 : Tryz.f140.results.toList = [.tmp 2]:=by kernel_rfl
theorem Tryz.nt141 : Tryz.f141.ntmps = 19:=by kernel_rfl
theorem Tryz.rs141 : Tryz.f141.results.toList = [.tmp 6]:=by kernel_rfl
theorem Tryz.nt142 : Tryz.f142.ntmps = 21:=by kernel_rfl
theorem Tryz.rs142 : Tryz.f142.results.toList = [.tmp 6]:=by kernel_rfl
theorem Tryz.nt143 : Tryz.f143.ntmps = 1:=by kernel_rfl
theorem Tryz.rs143 : Tryz.f143.results.toList = []:=by kernel_rfl
theorem Tryz.nt144 : Tryz.f144.ntmps = 1:=by kernel_rfl
theorem Tryz.rs144 : Tryz.f144.results.toList = []:=by kernel_rfl
theorem Tryz.nt145 : Tryz.f145.ntmps = 1:=by kernel_rfl
theorem Tryz.rs145 : Tryz.f145.results.toList = []:=by kernel_rfl
theorem Tryz.nt146 : Tryz.f146.ntmps = 1:=by kernel_rfl
theorem Tryz.rs146 : Tryz.f146.results.toList = []:=by kernel_rfl
theorem Tryz.nt147 : Tryz.f147.ntmps = 1:=by kernel_rfl
theorem Tryz.rs147 : Tryz.f147.results.toList = []:=by kernel_rfl
theorem Tryz.nt148 : Tryz.f148.ntmps = 1:=by kernel_rfl
theorem Tryz.rs148 : Tryz.f148.results.toList = []:=by kernel_rfl
theorem Tryz.nt149 : Tryz.f149.ntmps = 1:=by kernel_rfl
theorem Tryz.rs149 : Tryz.f149.results.toList = []:=by kernel_rfl
theorem Tryz.nt150 : Tryz.f150.ntmps = 1:=by kernel_rfl
theorem Tryz.rs150 : Tryz.f150.results.toList = []:=by kernel_rfl
theorem Tryz.nt151 : Tryz.f151.ntmps = 1:=by kernel_rfl
theorem Tryz.rs151 : Tryz.f151.results.toList = []:=by kernel_rfl
theorem Tryz.nt152 : Tryz.f152.ntmps = 1:=by kernel_rfl
theorem Tryz.rs152 : Tryz.f152.results.toList = []:=by kernel_rfl
theorem Tryz.nt153 : Tryz.f153.ntmps = 1:=by kernel_rfl
theorem Tryz.rs153 : Tryz.f153.results.toList = []:=by kernel_rfl
theorem Tryz.nt154 : Tryz.f154.ntmps = 1:=by kernel_rfl
theorem Tryz.rs154 : Tryz.f154.results.toList = []:=by kernel_rfl
theorem Tryz.nt155 : Tryz.f155.ntmps = 1:=by kernel_rfl
theorem Tryz.rs155 : Tryz.f155.results.toList = []:=by kernel_rfl
theorem Tryz.nt156 : Tryz.f156.ntmps = 1:=by kernel_rfl
theorem Tryz.rs156 : Tryz.f156.results.toList = []:=by kernel_rfl
theorem Tryz.nt157 : Tryz.f157.ntmps = 1:=by kernel_rfl
theorem Tryz.rs157 : Tryz.f157.results.toList = []:=by kernel_rfl
theorem Tryz.nt158 : Tryz.f158.ntmps = 1:=by kernel_rfl
theorem Tryz.rs158 : Tryz.f158.results.toList = []:=by kernel_rfl
theorem Tryz.vcT : type_of% (And.intro (And.intro (And.intro (And.intro (And.intro (And.intro (And.intro (And.intro (And.intro (Tryz.ti2) (Tryz.ti3)) (And.intro (Tryz.ti4) (Tryz.ti5))) (And.intro (And.intro (Tryz.ti6) (Tryz.ti7)) (And.intro (Tryz.ti8) (Tryz.ti9)))) (And.intro (And.intro (And.intro (Tryz.ti10) (Tryz.ti11)) (And.intro (Tryz.ti12) (Tryz.ti13))) (And.intro (And.intro (Tryz.ti14) (Tryz.ti15)) (And.intro (Tryz.ti16) (Tryz.ti17))))) (And.intro (And.intro (And.intro (And.intro (Tryz.ti18) (Tryz.ti19)) (And.intro (Tryz.ti21) (Tryz.ti22))) (And.intro (And.intro (Tryz.ti24) (Tryz.ti25)) (And.intro (Tryz.ti26) (Tryz.ti27)))) (And.intro (And.intro (And.intro (Tryz.ti28) (Tryz.ti29)) (And.intro (Tryz.ti30) (Tryz.ti31))) (And.intro (And.intro (Tryz.ti32) (Tryz.ti33)) (And.intro (Tryz.ti35) (And.intro (Tryz.ti36) (Tryz.ti44))))))) (And.intro (And.intro (And.intro (And.intro (And.intro (Tryz.ti45) (Tryz.ti46)) (And.intro (Tryz.ti47) (Tryz.ti48))) (And.intro (And.intro (Tryz.ti49) (Tryz.ti50)) (And.intro (Tryz.ti51) (Tryz.ti52)))) (And.intro (And.intro (And.intro (Tryz.ti53) (Tryz.ti54)) (And.intro (Tryz.ti55) (Tryz.ti57))) (And.intro (And.intro (Tryz.ti59) (Tryz.ti60)) (And.intro (Tryz.ti61) (And.intro (Tryz.ti62) (Tryz.ti65)))))) (And.intro (And.intro (And.intro (And.intro (Tryz.ti66) (Tryz.ti68)) (And.intro (Tryz.ti69) (Tryz.ti73))) (And.intro (And.intro (Tryz.ti74) (Tryz.ti75)) (And.intro (Tryz.ti92) (Tryz.ti93)))) (And.intro (And.intro (And.intro (Tryz.ti96) (Tryz.ti97)) (And.intro (Tryz.ti102) (Tryz.ti125))) (And.intro (And.intro (Tryz.ti141) (Tryz.ti144)) (And.intro (Tryz.ti151) (And.intro (Tryz.ti152) (Tryz.ti154)))))))) (And.intro (And.intro (And.intro (And.intro (And.intro (And.intro (Tryz.ti163) (Tryz.ti164)) (And.intro (Tryz.ti165) (Tryz.ti166))) (And.intro (And.intro (Tryz.ti167) (Tryz.ti169)) (And.intro (Tryz.ti190) (Tryz.ti197)))) (And.intro (And.intro (And.intro (Tryz.ti199) (Tryz.ti200)) (And.intro (Tryz.ti201) (Tryz.ti208))) (And.intro (And.intro (Tryz.ti209) (Tryz.ti210)) (And.intro (Tryz.ti211) (And.intro (Tryz.ti212) (Tryz.ti213)))))) (And.intro (And.intro (And.intro (And.intro (Tryz.ti214) (Tryz.ti215)) (And.intro (Tryz.ti217) (Tryz.ti218))) (And.intro (And.intro (Tryz.ti219) (Tryz.ti220)) (And.intro (Tryz.ti221) (Tryz.en3)))) (And.intro (And.intro (And.intro (Tryz.en4) (Tryz.en5)) (And.intro (Tryz.en6) (Tryz.en7))) (And.intro (And.intro (Tryz.en8) (Tryz.en9)) (And.intro (Tryz.en10) (And.intro (Tryz.en11) (Tryz.en12))))))) (And.intro (And.intro (And.intro (And.intro (And.intro (Tryz.en13) (Tryz.en14)) (And.intro (Tryz.en15) (Tryz.en16))) (And.intro (And.intro (Tryz.en17) (Tryz.en18)) (And.intro (Tryz.en19) (Tryz.en20)))) (And.intro (And.intro (And.intro (Tryz.en21) (Tryz.en22)) (And.intro (Tryz.en23) (Tryz.en24))) (And.intro (And.intro (Tryz.en25) (Tryz.en26)) (And.intro (Tryz.en27) (And.intro (Tryz.en28) (Tryz.en29)))))) (And.intro (And.intro (And.intro (And.intro (Tryz.en30) (Tryz.en31)) (And.intro (Tryz.en32) (Tryz.en33))) (And.intro (And.intro (Tryz.en34) (Tryz.en35)) (And.intro (Tryz.en36) (Tryz.en37)))) (And.intro (And.intro (And.intro (Tryz.en38) (Tryz.en39)) (And.intro (Tryz.en40) (Tryz.en41))) (And.intro (And.intro (Tryz.en42) (Tryz.en43)) (And.intro (Tryz.en44) (And.intro (Tryz.en45) (Tryz.en46))))))))) (And.intro (And.intro (And.intro (And.intro (And.intro (And.intro (And.intro (Tryz.en47) (Tryz.en48)) (And.intro (Tryz.en49) (Tryz.en50))) (And.intro (And.intro (Tryz.en51) (Tryz.en52)) (And.intro (Tryz.en53) (Tryz.en54)))) (And.intro (And.intro (And.intro (Tryz.en55) (Tryz.en56)) (And.intro (Tryz.en57) (Tryz.en58))) (And.intro (And.intro (Tryz.en59) (Tryz.en60)) (And.intro (Tryz.en61) (And.intro (Tryz.en62) (Tryz.en63)))))) (And.intro (And.intro (And.intro (And.intro (Tryz.en64) (Tryz.en65)) (And.intro (Tryz.en66) (Tryz.en67))) (And.intro (And.intro (Tryz.en68) (Tryz.en69)) (And.intro (Tryz.en70) (Tryz.en71)))) (And.intro (And.intro (And.intro (Tryz.en72) (Tryz.en73)) (And.intro (Tryz.en74) (Tryz.en75))) (And.intro (And.intro (Tryz.en76) (Tryz.en77)) (And.intro (Tryz.en78) (And.intro (Tryz.en79) (Tryz.en80))))))) (And.intro (And.intro (And.intro (And.intro (And.intro (Tryz.en81) (Tryz.en82)) (And.intro (Tryz.en83) (Tryz.en84))) (And.intro (And.intro (Tryz.en85) (Tryz.en86)) (And.intro (Tryz.en87) (Tryz.en88)))) (And.intro (And.intro (And.intro (Tryz.en89) (Tryz.en90)) (And.intro (Tryz.en91) (Tryz.en92))) (And.intro (And.intro (Tryz.en93) (Tryz.en94)) (And.intro (Tryz.en95) (And.intro (Tryz.en96) (Tryz.en97)))))) (And.intro (And.intro (And.intro (And.intro (Tryz.en98) (Tryz.en99)) (And.intro (Tryz.en100) (Tryz.en101))) (And.intro (And.intro (Tryz.en102) (Tryz.en103)) (And.intro (Tryz.en104) (Tryz.en105)))) (And.intro (And.intro (And.intro (Tryz.en106) (Tryz.en107)) (And.intro (Tryz.en108) (Tryz.en109))) (And.intro (And.intro (Tryz.en110) (Tryz.en111)) (And.intro (Tryz.en112) (And.intro (Tryz.en113) (Tryz.en114)))))))) (And.intro (And.intro (And.intro (And.intro (And.intro (And.intro (Tryz.en115) (Tryz.en116)) (And.intro (Tryz.en117) (Tryz.en118))) (And.intro (And.intro (Tryz.en119) (Tryz.en120)) (And.intro (Tryz.en121) (Tryz.en122)))) (And.intro (And.intro (And.intro (Tryz.en123) (Tryz.en124)) (And.intro (Tryz.en125) (Tryz.en126))) (And.intro (And.intro (Tryz.en127) (Tryz.en128)) (And.intro (Tryz.en129) (And.intro (Tryz.en130) (Tryz.en131)))))) (And.intro (And.intro (And.intro (And.intro (Tryz.en132) (Tryz.en133)) (And.intro (Tryz.en134) (Tryz.en135))) (And.intro (And.intro (Tryz.en136) (Tryz.en137)) (And.intro (Tryz.en138) (Tryz.en139)))) (And.intro (And.intro (And.intro (Tryz.en140) (Tryz.en141)) (And.intro (Tryz.en142) (Tryz.nt3))) (And.intro (And.intro (Tryz.rs3) (Tryz.nt4)) (And.intro (Tryz.rs4) (And.intro (Tryz.nt5) (Tryz.rs5))))))) (And.intro (And.intro (And.intro (And.intro (And.intro (Tryz.nt6) (Tryz.rs6)) (And.intro (Tryz.nt7) (Tryz.rs7))) (And.intro (And.intro (Tryz.nt8) (Tryz.rs8)) (And.intro (Tryz.nt9) (Tryz.rs9)))) (And.intro (And.intro (And.intro (Tryz.nt10) (Tryz.rs10)) (And.intro (Tryz.nt11) (Tryz.rs11))) (And.intro (And.intro (Tryz.nt12) (Tryz.rs12)) (And.intro (Tryz.nt13) (And.intro (Tryz.rs13) (Tryz.nt14)))))) (And.intro (And.intro (And.intro (And.intro (Tryz.rs14) (Tryz.nt15)) (And.intro (Tryz.rs15) (Tryz.nt16))) (And.intro (And.intro (Tryz.rs16) (Tryz.nt17)) (And.intro (Tryz.rs17) (Tryz.nt18)))) (And.intro (And.intro (And.intro (Tryz.rs18) (Tryz.nt19)) (And.intro (Tryz.rs19) (Tryz.nt20))) (And.intro (And.intro (Tryz.rs20) (Tryz.nt21)) (And.intro (Tryz.rs21) (And.intro (Tryz.nt22) (Tryz.rs22)))))))))) (And.intro (And.intro (And.intro (And.intro (And.intro (And.intro (And.intro (And.intro (Tryz.nt23) (Tryz.rs23)) (And.intro (Tryz.nt24) (Tryz.rs24))) (And.intro (And.intro (Tryz.nt25) (Tryz.rs25)) (And.intro (Tryz.nt26) (Tryz.rs26)))) (And.intro (And.intro (And.intro (Tryz.nt27) (Tryz.rs27)) (And.intro (Tryz.nt28) (Tryz.rs28))) (And.intro (And.intro (Tryz.nt29) (Tryz.rs29)) (And.intro (Tryz.nt30) (And.intro (Tryz.rs30) (Tryz.nt31)))))) (And.intro (And.intro (And.intro (And.intro (Tryz.rs31) (Tryz.nt32)) (And.intro (Tryz.rs32) (Tryz.nt33))) (And.intro (And.intro (Tryz.rs33) (Tryz.nt34)) (And.intro (Tryz.rs34) (Tryz.nt35)))) (And.intro (And.intro (And.intro (Tryz.rs35) (Tryz.nt36)) (And.intro (Tryz.rs36) (Tryz.nt37))) (And.intro (And.intro (Tryz.rs37) (Tryz.nt38)) (And.intro (Tryz.rs38) (And.intro (Tryz.nt39) (Tryz.rs39))))))) (And.intro (And.intro (And.intro (And.intro (And.intro (Tryz.nt40) (Tryz.rs40)) (And.intro (Tryz.nt41) (Tryz.rs41))) (And.intro (And.intro (Tryz.nt42) (Tryz.rs42)) (And.intro (Tryz.nt43) (Tryz.rs43)))) (And.intro (And.intro (And.intro (Tryz.nt44) (Tryz.rs44)) (And.intro (Tryz.nt45) (Tryz.rs45))) (And.intro (And.intro (Tryz.nt46) (Tryz.rs46)) (And.intro (Tryz.nt47) (And.intro (Tryz.rs47) (Tryz.nt48)))))) (And.intro (And.intro (And.intro (And.intro (Tryz.rs48) (Tryz.nt49)) (And.intro (Tryz.rs49) (Tryz.nt50))) (And.intro (And.intro (Tryz.rs50) (Tryz.nt51)) (And.intro (Tryz.rs51) (Tryz.nt52)))) (And.intro (And.intro (And.intro (Tryz.rs52) (Tryz.nt53)) (And.intro (Tryz.rs53) (Tryz.nt54))) (And.intro (And.intro (Tryz.rs54) (Tryz.nt55)) (And.intro (Tryz.rs55) (And.intro (Tryz.nt56) (Tryz.rs56)))))))) (And.intro (And.intro (And.intro (And.intro (And.intro (And.intro (Tryz.nt57) (Tryz.rs57)) (And.intro (Tryz.nt58) (Tryz.rs58))) (And.intro (And.intro (Tryz.nt59) (Tryz.rs59)) (And.intro (Tryz.nt60) (Tryz.rs60)))) (And.intro (And.intro (And.intro (Tryz.nt61) (Tryz.rs61)) (And.intro (Tryz.nt62) (Tryz.rs62))) (And.intro (And.intro (Tryz.nt63) (Tryz.rs63)) (And.intro (Tryz.nt64) (And.intro (Tryz.rs64) (Tryz.nt65)))))) (And.intro (And.intro (And.intro (And.intro (Tryz.rs65) (Tryz.nt66)) (And.intro (Tryz.rs66) (Tryz.nt67))) (And.intro (And.intro (Tryz.rs67) (Tryz.nt68)) (And.intro (Tryz.rs68) (Tryz.nt69)))) (And.intro (And.intro (And.intro (Tryz.rs69) (Tryz.nt70)) (And.intro (Tryz.rs70) (Tryz.nt71))) (And.intro (And.intro (Tryz.rs71) (Tryz.nt72)) (And.intro (Tryz.rs72) (And.intro (Tryz.nt73) (Tryz.rs73))))))) (And.intro (And.intro (And.intro (And.intro (And.intro (Tryz.nt74) (Tryz.rs74)) (And.intro (Tryz.nt75) (Tryz.rs75))) (And.intro (And.intro (Tryz.nt76) (Tryz.rs76)) (And.intro (Tryz.nt77) (Tryz.rs77)))) (And.intro (And.intro (And.intro (Tryz.nt78) (Tryz.rs78)) (And.intro (Tryz.nt79) (Tryz.rs79))) (And.intro (And.intro (Tryz.nt80) (Tryz.rs80)) (And.intro (Tryz.nt81) (And.intro (Tryz.rs81) (Tryz.nt82)))))) (And.intro (And.intro (And.intro (And.intro (Tryz.rs82) (Tryz.nt83)) (And.intro (Tryz.rs83) (Tryz.nt84))) (And.intro (And.intro (Tryz.rs84) (Tryz.nt85)) (And.intro (Tryz.rs85) (Tryz.nt86)))) (And.intro (And.intro (And.intro (Tryz.rs86) (Tryz.nt87)) (And.intro (Tryz.rs87) (Tryz.nt88))) (And.intro (And.intro (Tryz.rs88) (Tryz.nt89)) (And.intro (Tryz.rs89) (And.intro (Tryz.nt90) (Tryz.rs90))))))))) (And.intro (And.intro (And.intro (And.intro (And.intro (And.intro (And.intro (Tryz.nt91) (Tryz.rs91)) (And.intro (Tryz.nt92) (Tryz.rs92))) (And.intro (And.intro (Tryz.nt93) (Tryz.rs93)) (And.intro (Tryz.nt94) (Tryz.rs94)))) (And.intro (And.intro (And.intro (Tryz.nt95) (Tryz.rs95)) (And.intro (Tryz.nt96) (Tryz.rs96))) (And.intro (And.intro (Tryz.nt97) (Tryz.rs97)) (And.intro (Tryz.nt98) (And.intro (Tryz.rs98) (Tryz.nt99)))))) (And.intro (And.intro (And.intro (And.intro (Tryz.rs99) (Tryz.nt100)) (And.intro (Tryz.rs100) (Tryz.nt101))) (And.intro (And.intro (Tryz.rs101) (Tryz.nt102)) (And.intro (Tryz.rs102) (Tryz.nt103)))) (And.intro (And.intro (And.intro (Tryz.rs103) (Tryz.nt104)) (And.intro (Tryz.rs104) (Tryz.nt105))) (And.intro (And.intro (Tryz.rs105) (Tryz.nt106)) (And.intro (Tryz.rs106) (And.intro (Tryz.nt107) (Tryz.rs107))))))) (And.intro (And.intro (And.intro (And.intro (And.intro (Tryz.nt108) (Tryz.rs108)) (And.intro (Tryz.nt109) (Tryz.rs109))) (And.intro (And.intro (Tryz.nt110) (Tryz.rs110)) (And.intro (Tryz.nt111) (Tryz.rs111)))) (And.intro (And.intro (And.intro (Tryz.nt112) (Tryz.rs112)) (And.intro (Tryz.nt113) (Tryz.rs113))) (And.intro (And.intro (Tryz.nt114) (Tryz.rs114)) (And.intro (Tryz.nt115) (And.intro (Tryz.rs115) (Tryz.nt116)))))) (And.intro (And.intro (And.intro (And.intro (Tryz.rs116) (Tryz.nt117)) (And.intro (Tryz.rs117) (Tryz.nt118))) (And.intro (And.intro (Tryz.rs118) (Tryz.nt119)) (And.intro (Tryz.rs119) (Tryz.nt120)))) (And.intro (And.intro (And.intro (Tryz.rs120) (Tryz.nt121)) (And.intro (Tryz.rs121) (Tryz.nt122))) (And.intro (And.intro (Tryz.rs122) (Tryz.nt123)) (And.intro (Tryz.rs123) (And.intro (Tryz.nt124) (Tryz.rs124)))))))) (And.intro (And.intro (And.intro (And.intro (And.intro (And.intro (Tryz.nt125) (Tryz.rs125)) (And.intro (Tryz.nt126) (Tryz.rs126))) (And.intro (And.intro (Tryz.nt127) (Tryz.rs127)) (And.intro (Tryz.nt128) (Tryz.rs128)))) (And.intro (And.intro (And.intro (Tryz.nt129) (Tryz.rs129)) (And.intro (Tryz.nt130) (Tryz.rs130))) (And.intro (And.intro (Tryz.nt131) (Tryz.rs131)) (And.intro (Tryz.nt132) (And.intro (Tryz.rs132) (Tryz.nt133)))))) (And.intro (And.intro (And.intro (And.intro (Tryz.rs133) (Tryz.nt134)) (And.intro (Tryz.rs134) (Tryz.nt135))) (And.intro (And.intro (Tryz.rs135) (Tryz.nt136)) (And.intro (Tryz.rs136) (Tryz.nt137)))) (And.intro (And.intro (And.intro (Tryz.rs137) (Tryz.nt138)) (And.intro (Tryz.rs138) (Tryz.nt139))) (And.intro (And.intro (Tryz.rs139) (Tryz.nt140)) (And.intro (Tryz.rs140) (And.intro (Tryz.nt141) (Tryz.rs141))))))) (And.intro (And.intro (And.intro (And.intro (And.intro (Tryz.nt142) (Tryz.rs142)) (And.intro (Tryz.nt143) (Tryz.rs143))) (And.intro (And.intro (Tryz.nt144) (Tryz.rs144)) (And.intro (Tryz.nt145) (Tryz.rs145)))) (And.intro (And.intro (And.intro (Tryz.nt146) (Tryz.rs146)) (And.intro (Tryz.nt147) (Tryz.rs147))) (And.intro (And.intro (Tryz.nt148) (Tryz.rs148)) (And.intro (Tryz.nt149) (And.intro (Tryz.rs149) (Tryz.nt150)))))) (And.intro (And.intro (And.intro (And.intro (Tryz.rs150) (Tryz.nt151)) (And.intro (Tryz.rs151) (Tryz.nt152))) (And.intro (And.intro (Tryz.rs152) (Tryz.nt153)) (And.intro (Tryz.rs153) (Tryz.nt154)))) (And.intro (And.intro (And.intro (Tryz.rs154) (Tryz.nt155)) (And.intro (Tryz.rs155) (Tryz.nt156))) (And.intro (And.intro (Tryz.rs156) (Tryz.nt157)) (And.intro (Tryz.rs157) (And.intro (Tryz.nt158) (Tryz.rs158))))))))))):=And.intro (And.intro (And.intro (And.intro (And.intro (And.intro (And.intro (And.intro (And.intro (Tryz.ti2) (Tryz.ti3)) (And.intro (Tryz.ti4) (Tryz.ti5))) (And.intro (And.intro (Tryz.ti6) (Tryz.ti7)) (And.intro (Tryz.ti8) (Tryz.ti9)))) (And.intro (And.intro (And.intro (Tryz.ti10) (Tryz.ti11)) (And.intro (Tryz.ti12) (Tryz.ti13))) (And.intro (And.intro (Tryz.ti14) (Tryz.ti15)) (And.intro (Tryz.ti16) (Tryz.ti17))))) (And.intro (And.intro (And.intro (And.intro (Tryz.ti18) (Tryz.ti19)) (And.intro (Tryz.ti21) (Tryz.ti22))) (And.intro (And.intro (Tryz.ti24) (Tryz.ti25)) (And.intro (Tryz.ti26) (Tryz.ti27)))) (And.intro (And.intro (And.intro (Tryz.ti28) (Tryz.ti29)) (And.intro (Tryz.ti30) (Tryz.ti31))) (And.intro (And.intro (Tryz.ti32) (Tryz.ti33)) (And.intro (Tryz.ti35) (And.intro (Tryz.ti36) (Tryz.ti44))))))) (And.intro (And.intro (And.intro (And.intro (And.intro (Tryz.ti45) (Tryz.ti46)) (And.intro (Tryz.ti47) (Tryz.ti48))) (And.intro (And.intro (Tryz.ti49) (Tryz.ti50)) (And.intro (Tryz.ti51) (Tryz.ti52)))) (And.intro (And.intro (And.intro (Tryz.ti53) (Tryz.ti54)) (And.intro (Tryz.ti55) (Tryz.ti57))) (And.intro (And.intro (Tryz.ti59) (Tryz.ti60)) (And.intro (Tryz.ti61) (And.intro (Tryz.ti62) (Tryz.ti65)))))) (And.intro (And.intro (And.intro (And.intro (Tryz.ti66) (Tryz.ti68)) (And.intro (Tryz.ti69) (Tryz.ti73))) (And.intro (And.intro (Tryz.ti74) (Tryz.ti75)) (And.intro (Tryz.ti92) (Tryz.ti93)))) (And.intro (And.intro (And.intro (Tryz.ti96) (Tryz.ti97)) (And.intro (Tryz.ti102) (Tryz.ti125))) (And.intro (And.intro (Tryz.ti141) (Tryz.ti144)) (And.intro (Tryz.ti151) (And.intro (Tryz.ti152) (Tryz.ti154)))))))) (And.intro (And.intro (And.intro (And.intro (And.intro (And.intro (Tryz.ti163) (Tryz.ti164)) (And.intro (Tryz.ti165) (Tryz.ti166))) (And.intro (And.intro (Tryz.ti167) (Tryz.ti169)) (And.intro (Tryz.ti190) (Tryz.ti197)))) (And.intro (And.intro (And.intro (Tryz.ti199) (Tryz.ti200)) (And.intro (Tryz.ti201) (Tryz.ti208))) (And.intro (And.intro (Tryz.ti209) (Tryz.ti210)) (And.intro (Tryz.ti211) (And.intro (Tryz.ti212) (Tryz.ti213)))))) (And.intro (And.intro (And.intro (And.intro (Tryz.ti214) (Tryz.ti215)) (And.intro (Tryz.ti217) (Tryz.ti218))) (And.intro (And.intro (Tryz.ti219) (Tryz.ti220)) (And.intro (Tryz.ti221) (Tryz.en3)))) (And.intro (And.intro (And.intro (Tryz.en4) (Tryz.en5)) (And.intro (Tryz.en6) (Tryz.en7))) (And.intro (And.intro (Tryz.en8) (Tryz.en9)) (And.intro (Tryz.en10) (And.intro (Tryz.en11) (Tryz.en12))))))) (And.intro (And.intro (And.intro (And.intro (And.intro (Tryz.en13) (Tryz.en14)) (And.intro (Tryz.en15) (Tryz.en16))) (And.intro (And.intro (Tryz.en17) (Tryz.en18)) (And.intro (Tryz.en19) (Tryz.en20)))) (And.intro (And.intro (And.intro (Tryz.en21) (Tryz.en22)) (And.intro (Tryz.en23) (Tryz.en24))) (And.intro (And.intro (Tryz.en25) (Tryz.en26)) (And.intro (Tryz.en27) (And.intro (Tryz.en28) (Tryz.en29)))))) (And.intro (And.intro (And.intro (And.intro (Tryz.en30) (Tryz.en31)) (And.intro (Tryz.en32) (Tryz.en33))) (And.intro (And.intro (Tryz.en34) (Tryz.en35)) (And.intro (Tryz.en36) (Tryz.en37)))) (And.intro (And.intro (And.intro (Tryz.en38) (Tryz.en39)) (And.intro (Tryz.en40) (Tryz.en41))) (And.intro (And.intro (Tryz.en42) (Tryz.en43)) (And.intro (Tryz.en44) (And.intro (Tryz.en45) (Tryz.en46))))))))) (And.intro (And.intro (And.intro (And.intro (And.intro (And.intro (And.intro (Tryz.en47) (Tryz.en48)) (And.intro (Tryz.en49) (Tryz.en50))) (And.intro (And.intro (Tryz.en51) (Tryz.en52)) (And.intro (Tryz.en53) (Tryz.en54)))) (And.intro (And.intro (And.intro (Tryz.en55) (Tryz.en56)) (And.intro (Tryz.en57) (Tryz.en58))) (And.intro (And.intro (Tryz.en59) (Tryz.en60)) (And.intro (Tryz.en61) (And.intro (Tryz.en62) (Tryz.en63)))))) (And.intro (And.intro (And.intro (And.intro (Tryz.en64) (Tryz.en65)) (And.intro (Tryz.en66) (Tryz.en67))) (And.intro (And.intro (Tryz.en68) (Tryz.en69)) (And.intro (Tryz.en70) (Tryz.en71)))) (And.intro (And.intro (And.intro (Tryz.en72) (Tryz.en73)) (And.intro (Tryz.en74) (Tryz.en75))) (And.intro (And.intro (Tryz.en76) (Tryz.en77)) (And.intro (Tryz.en78) (And.intro (Tryz.en79) (Tryz.en80))))))) (And.intro (And.intro (And.intro (And.intro (And.intro (Tryz.en81) (Tryz.en82)) (And.intro (Tryz.en83) (Tryz.en84))) (And.intro (And.intro (Tryz.en85) (Tryz.en86)) (And.intro (Tryz.en87) (Tryz.en88)))) (And.intro (And.intro (And.intro (Tryz.en89) (Tryz.en90)) (And.intro (Tryz.en91) (Tryz.en92))) (And.intro (And.intro (Tryz.en93) (Tryz.en94)) (And.intro (Tryz.en95) (And.intro (Tryz.en96) (Tryz.en97)))))) (And.intro (And.intro (And.intro (And.intro (Tryz.en98) (Tryz.en99)) (And.intro (Tryz.en100) (Tryz.en101))) (And.intro (And.intro (Tryz.en102) (Tryz.en103)) (And.intro (Tryz.en104) (Tryz.en105)))) (And.intro (And.intro (And.intro (Tryz.en106) (Tryz.en107)) (And.intro (Tryz.en108) (Tryz.en109))) (And.intro (And.intro (Tryz.en110) (Tryz.en111)) (And.intro (Tryz.en112) (And.intro (Tryz.en113) (Tryz.en114)))))))) (And.intro (And.intro (And.intro (And.intro (And.intro (And.intro (Tryz.en115) (Tryz.en116)) (And.intro (Tryz.en117) (Tryz.en118))) (And.intro (And.intro (Tryz.en119) (Tryz.en120)) (And.intro (Tryz.en121) (Tryz.en122)))) (And.intro (And.intro (And.intro (Tryz.en123) (Tryz.en124)) (And.intro (Tryz.en125) (Tryz.en126))) (And.intro (And.intro (Tryz.en127) (Tryz.en128)) (And.intro (Tryz.en129) (And.intro (Tryz.en130) (Tryz.en131)))))) (And.intro (And.intro (And.intro (And.intro (Tryz.en132) (Tryz.en133)) (And.intro (Tryz.en134) (Tryz.en135))) (And.intro (And.intro (Tryz.en136) (Tryz.en137)) (And.intro (Tryz.en138) (Tryz.en139)))) (And.intro (And.intro (And.intro (Tryz.en140) (Tryz.en141)) (And.intro (Tryz.en142) (Tryz.nt3))) (And.intro (And.intro (Tryz.rs3) (Tryz.nt4)) (And.intro (Tryz.rs4) (And.intro (Tryz.nt5) (Tryz.rs5))))))) (And.intro (And.intro (And.intro (And.intro (And.intro (Tryz.nt6) (Tryz.rs6)) (And.intro (Tryz.nt7) (Tryz.rs7))) (And.intro (And.intro (Tryz.nt8) (Tryz.rs8)) (And.intro (Tryz.nt9) (Tryz.rs9)))) (And.intro (And.intro (And.intro (Tryz.nt10) (Tryz.rs10)) (And.intro (Tryz.nt11) (Tryz.rs11))) (And.intro (And.intro (Tryz.nt12) (Tryz.rs12)) (And.intro (Tryz.nt13) (And.intro (Tryz.rs13) (Tryz.nt14)))))) (And.intro (And.intro (And.intro (And.intro (Tryz.rs14) (Tryz.nt15)) (And.intro (Tryz.rs15) (Tryz.nt16))) (And.intro (And.intro (Tryz.rs16) (Tryz.nt17)) (And.intro (Tryz.rs17) (Tryz.nt18)))) (And.intro (And.intro (And.intro (Tryz.rs18) (Tryz.nt19)) (And.intro (Tryz.rs19) (Tryz.nt20))) (And.intro (And.intro (Tryz.rs20) (Tryz.nt21)) (And.intro (Tryz.rs21) (And.intro (Tryz.nt22) (Tryz.rs22)))))))))) (And.intro (And.intro (And.intro (And.intro (And.intro (And.intro (And.intro (And.intro (Tryz.nt23) (Tryz.rs23)) (And.intro (Tryz.nt24) (Tryz.rs24))) (And.intro (And.intro (Tryz.nt25) (Tryz.rs25)) (And.intro (Tryz.nt26) (Tryz.rs26)))) (And.intro (And.intro (And.intro (Tryz.nt27) (Tryz.rs27)) (And.intro (Tryz.nt28) (Tryz.rs28))) (And.intro (And.intro (Tryz.nt29) (Tryz.rs29)) (And.intro (Tryz.nt30) (And.intro (Tryz.rs30) (Tryz.nt31)))))) (And.intro (And.intro (And.intro (And.intro (Tryz.rs31) (Tryz.nt32)) (And.intro (Tryz.rs32) (Tryz.nt33))) (And.intro (And.intro (Tryz.rs33) (Tryz.nt34)) (And.intro (Tryz.rs34) (Tryz.nt35)))) (And.intro (And.intro (And.intro (Tryz.rs35) (Tryz.nt36)) (And.intro (Tryz.rs36) (Tryz.nt37))) (And.intro (And.intro (Tryz.rs37) (Tryz.nt38)) (And.intro (Tryz.rs38) (And.intro (Tryz.nt39) (Tryz.rs39))))))) (And.intro (And.intro (And.intro (And.intro (And.intro (Tryz.nt40) (Tryz.rs40)) (And.intro (Tryz.nt41) (Tryz.rs41))) (And.intro (And.intro (Tryz.nt42) (Tryz.rs42)) (And.intro (Tryz.nt43) (Tryz.rs43)))) (And.intro (And.intro (And.intro (Tryz.nt44) (Tryz.rs44)) (And.intro (Tryz.nt45) (Tryz.rs45))) (And.intro (And.intro (Tryz.nt46) (Tryz.rs46)) (And.intro (Tryz.nt47) (And.intro (Tryz.rs47) (Tryz.nt48)))))) (And.intro (And.intro (And.intro (And.intro (Tryz.rs48) (Tryz.nt49)) (And.intro (Tryz.rs49) (Tryz.nt50))) (And.intro (And.intro (Tryz.rs50) (Tryz.nt51)) (And.intro (Tryz.rs51) (Tryz.nt52)))) (And.intro (And.intro (And.intro (Tryz.rs52) (Tryz.nt53)) (And.intro (Tryz.rs53) (Tryz.nt54))) (And.intro (And.intro (Tryz.rs54) (Tryz.nt55)) (And.intro (Tryz.rs55) (And.intro (Tryz.nt56) (Tryz.rs56)))))))) (And.intro (And.intro (And.intro (And.intro (And.intro (And.intro (Tryz.nt57) (Tryz.rs57)) (And.intro (Tryz.nt58) (Tryz.rs58))) (And.intro (And.intro (Tryz.nt59) (Tryz.rs59)) (And.intro (Tryz.nt60) (Tryz.rs60)))) (And.intro (And.intro (And.intro (Tryz.nt61) (Tryz.rs61)) (And.intro (Tryz.nt62) (Tryz.rs62))) (And.intro (And.intro (Tryz.nt63) (Tryz.rs63)) (And.intro (Tryz.nt64) (And.intro (Tryz.rs64) (Tryz.nt65)))))) (And.intro (And.intro (And.intro (And.intro (Tryz.rs65) (Tryz.nt66)) (And.intro (Tryz.rs66) (Tryz.nt67))) (And.intro (And.intro (Tryz.rs67) (Tryz.nt68)) (And.intro (Tryz.rs68) (Tryz.nt69)))) (And.intro (And.intro (And.intro (Tryz.rs69) (Tryz.nt70)) (And.intro (Tryz.rs70) (Tryz.nt71))) (And.intro (And.intro (Tryz.rs71) (Tryz.nt72)) (And.intro (Tryz.rs72) (And.intro (Tryz.nt73) (Tryz.rs73))))))) (And.intro (And.intro (And.intro (And.intro (And.intro (Tryz.nt74) (Tryz.rs74)) (And.intro (Tryz.nt75) (Tryz.rs75))) (And.intro (And.intro (Tryz.nt76) (Tryz.rs76)) (And.intro (Tryz.nt77) (Tryz.rs77)))) (And.intro (And.intro (And.intro (Tryz.nt78) (Tryz.rs78)) (And.intro (Tryz.nt79) (Tryz.rs79))) (And.intro (And.intro (Tryz.nt80) (Tryz.rs80)) (And.intro (Tryz.nt81) (And.intro (Tryz.rs81) (Tryz.nt82)))))) (And.intro (And.intro (And.intro (And.intro (Tryz.rs82) (Tryz.nt83)) (And.intro (Tryz.rs83) (Tryz.nt84))) (And.intro (And.intro (Tryz.rs84) (Tryz.nt85)) (And.intro (Tryz.rs85) (Tryz.nt86)))) (And.intro (And.intro (And.intro (Tryz.rs86) (Tryz.nt87)) (And.intro (Tryz.rs87) (Tryz.nt88))) (And.intro (And.intro (Tryz.rs88) (Tryz.nt89)) (And.intro (Tryz.rs89) (And.intro (Tryz.nt90) (Tryz.rs90))))))))) (And.intro (And.intro (And.intro (And.intro (And.intro (And.intro (And.intro (Tryz.nt91) (Tryz.rs91)) (And.intro (Tryz.nt92) (Tryz.rs92))) (And.intro (And.intro (Tryz.nt93) (Tryz.rs93)) (And.intro (Tryz.nt94) (Tryz.rs94)))) (And.intro (And.intro (And.intro (Tryz.nt95) (Tryz.rs95)) (And.intro (Tryz.nt96) (Tryz.rs96))) (And.intro (And.intro (Tryz.nt97) (Tryz.rs97)) (And.intro (Tryz.nt98) (And.intro (Tryz.rs98) (Tryz.nt99)))))) (And.intro (And.intro (And.intro (And.intro (Tryz.rs99) (Tryz.nt100)) (And.intro (Tryz.rs100) (Tryz.nt101))) (And.intro (And.intro (Tryz.rs101) (Tryz.nt102)) (And.intro (Tryz.rs102) (Tryz.nt103)))) (And.intro (And.intro (And.intro (Tryz.rs103) (Tryz.nt104)) (And.intro (Tryz.rs104) (Tryz.nt105))) (And.intro (And.intro (Tryz.rs105) (Tryz.nt106)) (And.intro (Tryz.rs106) (And.intro (Tryz.nt107) (Tryz.rs107))))))) (And.intro (And.intro (And.intro (And.intro (And.intro (Tryz.nt108) (Tryz.rs108)) (And.intro (Tryz.nt109) (Tryz.rs109))) (And.intro (And.intro (Tryz.nt110) (Tryz.rs110)) (And.intro (Tryz.nt111) (Tryz.rs111)))) (And.intro (And.intro (And.intro (Tryz.nt112) (Tryz.rs112)) (And.intro (Tryz.nt113) (Tryz.rs113))) (And.intro (And.intro (Tryz.nt114) (Tryz.rs114)) (And.intro (Tryz.nt115) (And.intro (Tryz.rs115) (Tryz.nt116)))))) (And.intro (And.intro (And.intro (And.intro (Tryz.rs116) (Tryz.nt117)) (And.intro (Tryz.rs117) (Tryz.nt118))) (And.intro (And.intro (Tryz.rs118) (Tryz.nt119)) (And.intro (Tryz.rs119) (Tryz.nt120)))) (And.intro (And.intro (And.intro (Tryz.rs120) (Tryz.nt121)) (And.intro (Tryz.rs121) (Tryz.nt122))) (And.intro (And.intro (Tryz.rs122) (Tryz.nt123)) (And.intro (Tryz.rs123) (And.intro (Tryz.nt124) (Tryz.rs124)))))))) (And.intro (And.intro (And.intro (And.intro (And.intro (And.intro (Tryz.nt125) (Tryz.rs125)) (And.intro (Tryz.nt126) (Tryz.rs126))) (And.intro (And.intro (Tryz.nt127) (Tryz.rs127)) (And.intro (Tryz.nt128) (Tryz.rs128)))) (And.intro (And.intro (And.intro (Tryz.nt129) (Tryz.rs129)) (And.intro (Tryz.nt130) (Tryz.rs130))) (And.intro (And.intro (Tryz.nt131) (Tryz.rs131)) (And.intro (Tryz.nt132) (And.intro (Tryz.rs132) (Tryz.nt133)))))) (And.intro (And.intro (And.intro (And.intro (Tryz.rs133) (Tryz.nt134)) (And.intro (Tryz.rs134) (Tryz.nt135))) (And.intro (And.intro (Tryz.rs135) (Tryz.nt136)) (And.intro (Tryz.rs136) (Tryz.nt137)))) (And.intro (And.intro (And.intro (Tryz.rs137) (Tryz.nt138)) (And.intro (Tryz.rs138) (Tryz.nt139))) (And.intro (And.intro (Tryz.rs139) (Tryz.nt140)) (And.intro (Tryz.rs140) (And.intro (Tryz.nt141) (Tryz.rs141))))))) (And.intro (And.intro (And.intro (And.intro (And.intro (Tryz.nt142) (Tryz.rs142)) (And.intro (Tryz.nt143) (Tryz.rs143))) (And.intro (And.intro (Tryz.nt144) (Tryz.rs144)) (And.intro (Tryz.nt145) (Tryz.rs145)))) (And.intro (And.intro (And.intro (Tryz.nt146) (Tryz.rs146)) (And.intro (Tryz.nt147) (Tryz.rs147))) (And.intro (And.intro (Tryz.nt148) (Tryz.rs148)) (And.intro (Tryz.nt149) (And.intro (Tryz.rs149) (Tryz.nt150)))))) (And.intro (And.intro (And.intro (And.intro (Tryz.rs150) (Tryz.nt151)) (And.intro (Tryz.rs151) (Tryz.nt152))) (And.intro (And.intro (Tryz.rs152) (Tryz.nt153)) (And.intro (Tryz.rs153) (Tryz.nt154)))) (And.intro (And.intro (And.intro (Tryz.rs154) (Tryz.nt155)) (And.intro (Tryz.rs155) (Tryz.nt156))) (And.intro (And.intro (Tryz.rs156) (Tryz.nt157)) (And.intro (Tryz.rs157) (And.intro (Tryz.nt158) (Tryz.rs158))))))))))
end Go.Proofs.YtnhgjgoglmadnaaGreat
