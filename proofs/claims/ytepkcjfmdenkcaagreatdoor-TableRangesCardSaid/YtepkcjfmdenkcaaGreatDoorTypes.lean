/- Closed facts on the types and the functions of this translation, each by the kernel. -/
import Derived.Test.YtepkcjfmdenkcaaGreatDoorProg
import Derived.Test.YtepkcjfmdenkcaaGreatDoorEngOps
import Derived.Test.YtepkcjfmdenkcaaGreatDoorEngMore
import Derived.Test.YtepkcjfmdenkcaaGreatDoorEngDraw
import Derived.Test.YtepkcjfmdenkcaaGreatDoorEngAb
import Derived.Test.YtepkcjfmdenkcaaGreatDoorEngMap
import Derived.Test.YtepkcjfmdenkcaaGreatDoorEngStr
import Derived.KernelRfl
import Derived.Shelf.Abstract
import Derived.RowKit3
import Derived.Laws.OwnMore
set_option linter.unusedVariables false
namespace Go.Proofs.YtepkcjfmdenkcaaGreatDoor.Ty
open Go.RowKit Go.Proofs
open Eng
theorem mixed : Tryz.prog.follows .mixedOrders = true := by kernel_rfl
abbrev yU3 := @Tryz.underlying3
abbrev yU4 := @Tryz.underlying4
abbrev yU5 := @Tryz.underlying5
abbrev yU9 := @Tryz.underlying9
abbrev yU22 := @Tryz.underlying22
abbrev yU24 := @Tryz.underlying24
abbrev yU34 := @Tryz.underlying34
abbrev yU36 := @Tryz.underlying36
abbrev yU41 := @Tryz.underlying41
abbrev yU46 := @Tryz.underlying46
abbrev yU56 := @Tryz.underlying56
abbrev yU57 := @Tryz.underlying57
abbrev yU59 := @Tryz.underlying59
abbrev yU63 := @Tryz.underlying63
abbrev yU65 := @Tryz.underlying65
abbrev yU67 := @Tryz.underlying67
abbrev yU69 := @Tryz.underlying69
abbrev yU71 := @Tryz.underlying71
abbrev yU80 := @Tryz.underlying80
abbrev yU110 := @Tryz.underlying110
abbrev yU112 := @Tryz.underlying112
abbrev yU115 := @Tryz.underlying115
abbrev yU120 := @Tryz.underlying120
abbrev yU128 := @Tryz.underlying128
abbrev yU129 := @Tryz.underlying129
abbrev yU130 := @Tryz.underlying130
abbrev yU141 := @Tryz.underlying141
abbrev yU142 := @Tryz.underlying142
abbrev yU144 := @Tryz.underlying144
abbrev yU183 := @Tryz.underlying183
abbrev yU188 := @Tryz.underlying188
abbrev yU195 := @Tryz.underlying195
abbrev yU196 := @Tryz.underlying196
abbrev yU199 := @Tryz.underlying199
theorem yA3 : Agg Tryz.prog 3 false := fun w => by kernel_rfl
theorem yA4 : Agg Tryz.prog 4 false := fun w => by kernel_rfl
theorem yA5 : Agg Tryz.prog 5 false := fun w => by kernel_rfl
theorem yA9 : Agg Tryz.prog 9 false := fun w => by kernel_rfl
theorem yA22 : Agg Tryz.prog 22 false := fun w => by kernel_rfl
theorem yA24 : Agg Tryz.prog 24 false := fun w => by kernel_rfl
theorem yA34 : Agg Tryz.prog 34 false := fun w => by kernel_rfl
theorem yA36 : Agg Tryz.prog 36 true := fun w => by kernel_rfl
theorem yA41 : Agg Tryz.prog 41 true := fun w => by kernel_rfl
theorem yA46 : Agg Tryz.prog 46 false := fun w => by kernel_rfl
theorem yA50 : Agg Tryz.prog 50 false := fun w => by kernel_rfl
theorem yA56 : Agg Tryz.prog 56 false := fun w => by kernel_rfl
theorem yA57 : Agg Tryz.prog 57 false := fun w => by kernel_rfl
theorem yA59 : Agg Tryz.prog 59 true := fun w => by kernel_rfl
theorem yA60 : Agg Tryz.prog 60 false := fun w => by kernel_rfl
theorem yA63 : Agg Tryz.prog 63 true := fun w => by kernel_rfl
theorem yA65 : Agg Tryz.prog 65 false := fun w => by kernel_rfl
theorem yA67 : Agg Tryz.prog 67 true := fun w => by kernel_rfl
theorem yA71 : Agg Tryz.prog 71 true := fun w => by kernel_rfl
theorem yA80 : Agg Tryz.prog 80 true := fun w => by kernel_rfl
theorem yA112 : Agg Tryz.prog 112 true := fun w => by kernel_rfl
theorem yA115 : Agg Tryz.prog 115 true := fun w => by kernel_rfl
theorem yA120 : Agg Tryz.prog 120 true := fun w => by kernel_rfl
theorem yA128 : Agg Tryz.prog 128 false := fun w => by kernel_rfl
theorem yA138 : Agg Tryz.prog 138 false := fun w => by kernel_rfl
theorem yA141 : Agg Tryz.prog 141 false := fun w => by kernel_rfl
theorem yA142 : Agg Tryz.prog 142 false := fun w => by kernel_rfl
theorem yG36 : Tryz.prog.eqGuardType Tryz.prog.depth 36 = false := by kernel_rfl
theorem yH36 : Tryz.prog.stoodInHeld 36 = false := by kernel_rfl
theorem yG41 : Tryz.prog.eqGuardType Tryz.prog.depth 41 = false := by kernel_rfl
theorem yH41 : Tryz.prog.stoodInHeld 41 = false := by kernel_rfl
theorem yP36 : Pla Tryz.prog 36 [(0, 1), (1, 1), (2, 1), (3, 1), (4, 1), (5, 1), (6, 1), (7, 1), (8, 1)] := fun w => by kernel_rfl
theorem yP41 : Pla Tryz.prog 41 [(0, 1), (1, 1), (2, 1), (3, 1), (4, 1)] := fun w => by kernel_rfl
theorem yP67 : Pla Tryz.prog 67 [(0, 1), (1, 9), (10, 1)] := fun w => by kernel_rfl
theorem yP69 : Pla Tryz.prog 69 [(0, 1), (1, 9), (10, 11), (21, 4), (25, 1), (26, 1)] := fun w => by kernel_rfl
theorem yP71 : Pla Tryz.prog 71 [(0, 1), (1, 1), (2, 1), (3, 1), (4, 1)] := fun w => by kernel_rfl
theorem yP80 : Pla Tryz.prog 80 [(0, 1), (1, 1), (2, 1), (3, 1), (4, 1), (5, 1), (6, 1), (7, 1)] := fun w => by kernel_rfl
theorem yP112 : Pla Tryz.prog 112 [(0, 1), (1, 9), (10, 1)] := fun w => by kernel_rfl
theorem yP115 : Pla Tryz.prog 115 [(0, 1), (1, 1), (2, 1), (3, 1)] := fun w => by kernel_rfl
theorem yP120 : Pla Tryz.prog 120 [(0, 1)] := fun w => by kernel_rfl
theorem yP144 : Pla Tryz.prog 144 [(0, 1), (1, 1), (2, 1), (3, 1), (4, 1), (5, 1), (6, 1)] := fun w => by kernel_rfl
theorem yP183 : Pla Tryz.prog 183 [(0, 1)] := fun w => by kernel_rfl
theorem yS3 : Siz Tryz.prog 3 1 := fun w => by kernel_rfl
theorem yS4 : Siz Tryz.prog 4 1 := fun w => by kernel_rfl
theorem yS5 : Siz Tryz.prog 5 1 := fun w => by kernel_rfl
theorem yS9 : Siz Tryz.prog 9 1 := fun w => by kernel_rfl
theorem yS22 : Siz Tryz.prog 22 1 := fun w => by kernel_rfl
theorem yS24 : Siz Tryz.prog 24 1 := fun w => by kernel_rfl
theorem yS34 : Siz Tryz.prog 34 1 := fun w => by kernel_rfl
theorem yS36 : Siz Tryz.prog 36 9 := fun w => by kernel_rfl
theorem yS41 : Siz Tryz.prog 41 5 := fun w => by kernel_rfl
theorem yS46 : Siz Tryz.prog 46 1 := fun w => by kernel_rfl
theorem yS50 : Siz Tryz.prog 50 1 := fun w => by kernel_rfl
theorem yS56 : Siz Tryz.prog 56 1 := fun w => by kernel_rfl
theorem yS57 : Siz Tryz.prog 57 1 := fun w => by kernel_rfl
theorem yS59 : Siz Tryz.prog 59 4 := fun w => by kernel_rfl
theorem yS60 : Siz Tryz.prog 60 1 := fun w => by kernel_rfl
theorem yS63 : Siz Tryz.prog 63 3 := fun w => by kernel_rfl
theorem yS65 : Siz Tryz.prog 65 1 := fun w => by kernel_rfl
theorem yS67 : Siz Tryz.prog 67 11 := fun w => by kernel_rfl
theorem yS71 : Siz Tryz.prog 71 5 := fun w => by kernel_rfl
theorem yS80 : Siz Tryz.prog 80 8 := fun w => by kernel_rfl
theorem yS112 : Siz Tryz.prog 112 11 := fun w => by kernel_rfl
theorem yS115 : Siz Tryz.prog 115 4 := fun w => by kernel_rfl
theorem yS120 : Siz Tryz.prog 120 1 := fun w => by kernel_rfl
theorem yS128 : Siz Tryz.prog 128 1 := fun w => by kernel_rfl
theorem yS138 : Siz Tryz.prog 138 1 := fun w => by kernel_rfl
theorem yS141 : Siz Tryz.prog 141 1 := fun w => by kernel_rfl
theorem yS142 : Siz Tryz.prog 142 1 := fun w => by kernel_rfl
theorem yZ3 : Zer Tryz.prog 3 (.int .i64 0) := fun w => by kernel_rfl
theorem yZ4 : Zer Tryz.prog 4 (.bool false) := fun w => by kernel_rfl
theorem yZ5 : Zer Tryz.prog 5 (.int .u8 0) := fun w => by kernel_rfl
theorem yZ9 : Zer Tryz.prog 9 (.string ⟨#[]⟩) := fun w => by kernel_rfl
theorem yZ22 : Zer Tryz.prog 22 (.slice none 0 0) := fun w => by kernel_rfl
theorem yZ36 : Zer Tryz.prog 36 (.agg #[(.int .i64 0), (.int .i64 0), (.int .i64 0), (.int .i64 0), (.int .i64 0), (.int .i64 0), (.int .i64 0), (.int .i64 0), (.int .i64 0)]) := fun w => by kernel_rfl
theorem yZ41 : Zer Tryz.prog 41 (.agg #[(.int .i64 0), (.int .i64 0), (.string ⟨#[]⟩), (.string ⟨#[]⟩), (.int .i64 0)]) := fun w => by kernel_rfl
theorem yZ46 : Zer Tryz.prog 46 .nilFunc := fun w => by kernel_rfl
theorem yZ50 : Zer Tryz.prog 50 (.int .i64 0) := fun w => by kernel_rfl
theorem yZ60 : Zer Tryz.prog 60 (.pointer none) := fun w => by kernel_rfl
theorem yZ63 : Zer Tryz.prog 63 (.agg #[(.int .i64 0), (.int .i64 0), (.int .i64 0)]) := fun w => by kernel_rfl
theorem yZ65 : Zer Tryz.prog 65 (.slice none 0 0) := fun w => by kernel_rfl
theorem yZ67 : Zer Tryz.prog 67 (.agg #[(.pointer none), (.int .i64 0), (.int .i64 0), (.int .i64 0), (.int .i64 0), (.int .i64 0), (.int .i64 0), (.int .i64 0), (.int .i64 0), (.int .i64 0), (.int .i64 0)]) := fun w => by kernel_rfl
theorem yZ69 : Zer Tryz.prog 69 (.agg #[(.pointer none), (.int .i64 0), (.int .i64 0), (.int .i64 0), (.int .i64 0), (.int .i64 0), (.int .i64 0), (.int .i64 0), (.int .i64 0), (.int .i64 0), (.pointer none), (.int .i64 0), (.int .i64 0), (.int .i64 0), (.int .i64 0), (.int .i64 0), (.int .i64 0), (.int .i64 0), (.int .i64 0), (.int .i64 0), (.int .i64 0), (.slice none 0 0), (.int .i64 0), (.slice none 0 0), (.slice none 0 0), (.slice none 0 0), (.int .i64 0)]) := fun w => by kernel_rfl
theorem yZ71 : Zer Tryz.prog 71 (.agg #[(.string ⟨#[]⟩), (.string ⟨#[]⟩), (.int .u64 0), (.int .i64 0), (.int .i64 0)]) := fun w => by kernel_rfl
theorem yZ80 : Zer Tryz.prog 80 (.agg #[(.int .i64 0), (.int .i64 0), (.int .i64 0), (.int .i64 0), (.int .i64 0), (.int .i64 0), (.bool false), (.int .i64 0)]) := fun w => by kernel_rfl
theorem yZ112 : Zer Tryz.prog 112 (.agg #[(.pointer none), (.int .i64 0), (.int .i64 0), (.int .i64 0), (.int .i64 0), (.int .i64 0), (.int .i64 0), (.int .i64 0), (.int .i64 0), (.int .i64 0), (.int .i64 0)]) := fun w => by kernel_rfl
theorem yZ115 : Zer Tryz.prog 115 (.agg #[(.int .i64 0), (.int .i64 0), (.bool false), (.int .i64 0)]) := fun w => by kernel_rfl
theorem yZ120 : Zer Tryz.prog 120 (.agg #[(.int .u64 0)]) := fun w => by kernel_rfl
theorem yZ128 : Zer Tryz.prog 128 (.slice none 0 0) := fun w => by kernel_rfl
theorem yZ130 : Zer Tryz.prog 130 (.agg #[(.int .i64 0), (.int .i64 0), (.int .i64 0), (.int .i64 0), (.int .i64 0), (.int .i64 0), (.int .i64 0), (.int .i64 0)]) := fun w => by kernel_rfl
theorem yZ144 : Zer Tryz.prog 144 (.agg #[(.int .i64 0), (.int .i64 0), (.pointer none), (.slice none 0 0), (.slice none 0 0), (.map none), (.map none)]) := fun w => by kernel_rfl
theorem yZ183 : Zer Tryz.prog 183 (.agg #[(.slice none 0 0)]) := fun w => by kernel_rfl
theorem yI3 : Inf Tryz.prog 3 (.int .i64 0) 1 8 := info_parts (by kernel_rfl)
theorem yI5 : Inf Tryz.prog 5 (.int .u8 0) 1 1 := info_parts (by kernel_rfl)
theorem yI41 : Inf Tryz.prog 41 (.agg #[(.int .i64 0), (.int .i64 0), (.string ⟨#[]⟩), (.string ⟨#[]⟩), (.int .i64 0)]) 5 56 := info_parts (by kernel_rfl)
theorem yI71 : Inf Tryz.prog 71 (.agg #[(.string ⟨#[]⟩), (.string ⟨#[]⟩), (.int .u64 0), (.int .i64 0), (.int .i64 0)]) 5 56 := info_parts (by kernel_rfl)
theorem yI128 : Inf Tryz.prog 128 (.slice none 0 0) 1 24 := info_parts (by kernel_rfl)
theorem en4 : Ens Tryz.prog 4 := enters_of Tryz.func4 (by kernel_rfl) rfl
theorem en11 : Ens Tryz.prog 11 := enters_of Tryz.func11 (by kernel_rfl) rfl
theorem en12 : Ens Tryz.prog 12 := enters_of Tryz.func12 (by kernel_rfl) rfl
theorem en13 : Ens Tryz.prog 13 := enters_of Tryz.func13 (by kernel_rfl) rfl
theorem en14 : Ens Tryz.prog 14 := enters_of Tryz.func14 (by kernel_rfl) rfl
theorem en15 : Ens Tryz.prog 15 := enters_of Tryz.func15 (by kernel_rfl) rfl
theorem en16 : Ens Tryz.prog 16 := enters_of Tryz.func16 (by kernel_rfl) rfl
theorem en17 : Ens Tryz.prog 17 := enters_of Tryz.func17 (by kernel_rfl) rfl
theorem en18 : Ens Tryz.prog 18 := enters_of Tryz.func18 (by kernel_rfl) rfl
theorem en19 : Ens Tryz.prog 19 := enters_of Tryz.func19 (by kernel_rfl) rfl
theorem en20 : Ens Tryz.prog 20 := enters_of Tryz.func20 (by kernel_rfl) rfl
theorem en22 : Ens Tryz.prog 22 := enters_of Tryz.func22 (by kernel_rfl) rfl
theorem en34 : Ens Tryz.prog 34 := enters_of Tryz.func34 (by kernel_rfl) rfl
theorem en35 : Ens Tryz.prog 35 := enters_of Tryz.func35 (by kernel_rfl) rfl
theorem en36 : Ens Tryz.prog 36 := enters_of Tryz.func36 (by kernel_rfl) rfl
theorem en37 : Ens Tryz.prog 37 := enters_of Tryz.func37 (by kernel_rfl) rfl
theorem en38 : Ens Tryz.prog 38 := enters_of Tryz.func38 (by kernel_rfl) rfl
theorem en39 : Ens Tryz.prog 39 := enters_of Tryz.func39 (by kernel_rfl) rfl
theorem en40 : Ens Tryz.prog 40 := enters_of Tryz.func40 (by kernel_rfl) rfl
theorem en41 : Ens Tryz.prog 41 := enters_of Tryz.func41 (by kernel_rfl) rfl
theorem en42 : Ens Tryz.prog 42 := enters_of Tryz.func42 (by kernel_rfl) rfl
theorem en43 : Ens Tryz.prog 43 := enters_of Tryz.func43 (by kernel_rfl) rfl
theorem en44 : Ens Tryz.prog 44 := enters_of Tryz.func44 (by kernel_rfl) rfl
theorem en45 : Ens Tryz.prog 45 := enters_of Tryz.func45 (by kernel_rfl) rfl
theorem en46 : Ens Tryz.prog 46 := enters_of Tryz.func46 (by kernel_rfl) rfl
theorem en47 : Ens Tryz.prog 47 := enters_of Tryz.func47 (by kernel_rfl) rfl
theorem en48 : Ens Tryz.prog 48 := enters_of Tryz.func48 (by kernel_rfl) rfl
theorem en49 : Ens Tryz.prog 49 := enters_of Tryz.func49 (by kernel_rfl) rfl
theorem en50 : Ens Tryz.prog 50 := enters_of Tryz.func50 (by kernel_rfl) rfl
theorem en51 : Ens Tryz.prog 51 := enters_of Tryz.func51 (by kernel_rfl) rfl
theorem en52 : Ens Tryz.prog 52 := enters_of Tryz.func52 (by kernel_rfl) rfl
theorem en53 : Ens Tryz.prog 53 := enters_of Tryz.func53 (by kernel_rfl) rfl
theorem en54 : Ens Tryz.prog 54 := enters_of Tryz.func54 (by kernel_rfl) rfl
theorem en55 : Ens Tryz.prog 55 := enters_of Tryz.func55 (by kernel_rfl) rfl
theorem en58 : Ens Tryz.prog 58 := enters_of Tryz.func58 (by kernel_rfl) rfl
theorem en62 : Ens Tryz.prog 62 := enters_of Tryz.func62 (by kernel_rfl) rfl
theorem en63 : Ens Tryz.prog 63 := enters_of Tryz.func63 (by kernel_rfl) rfl
theorem en64 : Ens Tryz.prog 64 := enters_of Tryz.func64 (by kernel_rfl) rfl
theorem en65 : Ens Tryz.prog 65 := enters_of Tryz.func65 (by kernel_rfl) rfl
theorem en66 : Ens Tryz.prog 66 := enters_of Tryz.func66 (by kernel_rfl) rfl
theorem en67 : Ens Tryz.prog 67 := enters_of Tryz.func67 (by kernel_rfl) rfl
theorem en68 : Ens Tryz.prog 68 := enters_of Tryz.func68 (by kernel_rfl) rfl
theorem en69 : Ens Tryz.prog 69 := enters_of Tryz.func69 (by kernel_rfl) rfl
theorem en70 : Ens Tryz.prog 70 := enters_of Tryz.func70 (by kernel_rfl) rfl
theorem en71 : Ens Tryz.prog 71 := enters_of Tryz.func71 (by kernel_rfl) rfl
theorem en72 : Ens Tryz.prog 72 := enters_of Tryz.func72 (by kernel_rfl) rfl
theorem en73 : Ens Tryz.prog 73 := enters_of Tryz.func73 (by kernel_rfl) rfl
theorem en74 : Ens Tryz.prog 74 := enters_of Tryz.func74 (by kernel_rfl) rfl
theorem en75 : Ens Tryz.prog 75 := enters_of Tryz.func75 (by kernel_rfl) rfl
theorem en76 : Ens Tryz.prog 76 := enters_of Tryz.func76 (by kernel_rfl) rfl
theorem en77 : Ens Tryz.prog 77 := enters_of Tryz.func77 (by kernel_rfl) rfl
theorem en78 : Ens Tryz.prog 78 := enters_of Tryz.func78 (by kernel_rfl) rfl
theorem en79 : Ens Tryz.prog 79 := enters_of Tryz.func79 (by kernel_rfl) rfl
theorem en80 : Ens Tryz.prog 80 := enters_of Tryz.func80 (by kernel_rfl) rfl
theorem en81 : Ens Tryz.prog 81 := enters_of Tryz.func81 (by kernel_rfl) rfl
theorem en82 : Ens Tryz.prog 82 := enters_of Tryz.func82 (by kernel_rfl) rfl
theorem en83 : Ens Tryz.prog 83 := enters_of Tryz.func83 (by kernel_rfl) rfl
theorem en84 : Ens Tryz.prog 84 := enters_of Tryz.func84 (by kernel_rfl) rfl
theorem en85 : Ens Tryz.prog 85 := enters_of Tryz.func85 (by kernel_rfl) rfl
theorem en86 : Ens Tryz.prog 86 := enters_of Tryz.func86 (by kernel_rfl) rfl
theorem en87 : Ens Tryz.prog 87 := enters_of Tryz.func87 (by kernel_rfl) rfl
theorem en88 : Ens Tryz.prog 88 := enters_of Tryz.func88 (by kernel_rfl) rfl
theorem en89 : Ens Tryz.prog 89 := enters_of Tryz.func89 (by kernel_rfl) rfl
theorem en90 : Ens Tryz.prog 90 := enters_of Tryz.func90 (by kernel_rfl) rfl
theorem en91 : Ens Tryz.prog 91 := enters_of Tryz.func91 (by kernel_rfl) rfl
theorem en92 : Ens Tryz.prog 92 := enters_of Tryz.func92 (by kernel_rfl) rfl
theorem en93 : Ens Tryz.prog 93 := enters_of Tryz.func93 (by kernel_rfl) rfl
theorem en94 : Ens Tryz.prog 94 := enters_of Tryz.func94 (by kernel_rfl) rfl
theorem en95 : Ens Tryz.prog 95 := enters_of Tryz.func95 (by kernel_rfl) rfl
theorem en98 : Ens Tryz.prog 98 := enters_of Tryz.func98 (by kernel_rfl) rfl
theorem en99 : Ens Tryz.prog 99 := enters_of Tryz.func99 (by kernel_rfl) rfl
theorem en100 : Ens Tryz.prog 100 := enters_of Tryz.func100 (by kernel_rfl) rfl
theorem en101 : Ens Tryz.prog 101 := enters_of Tryz.func101 (by kernel_rfl) rfl
theorem en102 : Ens Tryz.prog 102 := enters_of Tryz.func102 (by kernel_rfl) rfl
theorem en103 : Ens Tryz.prog 103 := enters_of Tryz.func103 (by kernel_rfl) rfl
theorem en104 : Ens Tryz.prog 104 := enters_of Tryz.func104 (by kernel_rfl) rfl
theorem en105 : Ens Tryz.prog 105 := enters_of Tryz.func105 (by kernel_rfl) rfl
theorem en106 : Ens Tryz.prog 106 := enters_of Tryz.func106 (by kernel_rfl) rfl
theorem en107 : Ens Tryz.prog 107 := enters_of Tryz.func107 (by kernel_rfl) rfl
theorem en108 : Ens Tryz.prog 108 := enters_of Tryz.func108 (by kernel_rfl) rfl
theorem en109 : Ens Tryz.prog 109 := enters_of Tryz.func109 (by kernel_rfl) rfl
theorem en110 : Ens Tryz.prog 110 := enters_of Tryz.func110 (by kernel_rfl) rfl
theorem en111 : Ens Tryz.prog 111 := enters_of Tryz.func111 (by kernel_rfl) rfl
theorem en112 : Ens Tryz.prog 112 := enters_of Tryz.func112 (by kernel_rfl) rfl
theorem en113 : Ens Tryz.prog 113 := enters_of Tryz.func113 (by kernel_rfl) rfl
theorem en114 : Ens Tryz.prog 114 := enters_of Tryz.func114 (by kernel_rfl) rfl
theorem en115 : Ens Tryz.prog 115 := enters_of Tryz.func115 (by kernel_rfl) rfl
theorem en116 : Ens Tryz.prog 116 := enters_of Tryz.func116 (by kernel_rfl) rfl
theorem en117 : Ens Tryz.prog 117 := enters_of Tryz.func117 (by kernel_rfl) rfl
theorem en118 : Ens Tryz.prog 118 := enters_of Tryz.func118 (by kernel_rfl) rfl
theorem en119 : Ens Tryz.prog 119 := enters_of Tryz.func119 (by kernel_rfl) rfl
theorem en120 : Ens Tryz.prog 120 := enters_of Tryz.func120 (by kernel_rfl) rfl
theorem en121 : Ens Tryz.prog 121 := enters_of Tryz.func121 (by kernel_rfl) rfl
theorem en122 : Ens Tryz.prog 122 := enters_of Tryz.func122 (by kernel_rfl) rfl
theorem en123 : Ens Tryz.prog 123 := enters_of Tryz.func123 (by kernel_rfl) rfl
theorem en124 : Ens Tryz.prog 124 := enters_of Tryz.func124 (by kernel_rfl) rfl
theorem en125 : Ens Tryz.prog 125 := enters_of Tryz.func125 (by kernel_rfl) rfl
theorem en126 : Ens Tryz.prog 126 := enters_of Tryz.func126 (by kernel_rfl) rfl
theorem en127 : Ens Tryz.prog 127 := enters_of Tryz.func127 (by kernel_rfl) rfl
theorem en128 : Ens Tryz.prog 128 := enters_of Tryz.func128 (by kernel_rfl) rfl
theorem en129 : Ens Tryz.prog 129 := enters_of Tryz.func129 (by kernel_rfl) rfl
theorem en130 : Ens Tryz.prog 130 := enters_of Tryz.func130 (by kernel_rfl) rfl
end Go.Proofs.YtepkcjfmdenkcaaGreatDoor.Ty
