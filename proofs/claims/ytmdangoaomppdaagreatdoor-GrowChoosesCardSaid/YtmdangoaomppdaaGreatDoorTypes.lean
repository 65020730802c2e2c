/- Closed facts on the types and the functions of this translation, each by the kernel. -/
import Derived.Test.YtmdangoaomppdaaGreatDoorProg
import Derived.Test.YtmdangoaomppdaaGreatDoorEngOps
import Derived.Test.YtmdangoaomppdaaGreatDoorEngMore
import Derived.Test.YtmdangoaomppdaaGreatDoorEngDraw
import Derived.Test.YtmdangoaomppdaaGreatDoorEngAb
import Derived.Test.YtmdangoaomppdaaGreatDoorEngMap
import Derived.Test.YtmdangoaomppdaaGreatDoorEngStr
import Derived.KernelRfl
import Derived.Shelf.Abstract
import Derived.RowKit3
import Derived.Laws.OwnMore
set_option linter.unusedVariables false
namespace Go.Proofs.YtmdangoaomppdaaGreatDoor.Ty
open Go.RowKit Go.Proofs
open Eng
theorem mixed : Tryz.prog.follows .mixedOrders = true := by kernel_rfl
abbrev yU3 := @Tryz.underlying3
abbrev yU4 := @Tryz.underlying4
abbrev yU5 := @Tryz.underlying5
abbrev yU9 := @Tryz.underlying9
abbrev yU22 := @Tryz.underlying22
abbrev yU23 := @Tryz.underlying23
abbrev yU24 := @Tryz.underlying24
abbrev yU26 := @Tryz.underlying26
abbrev yU27 := @Tryz.underlying27
abbrev yU28 := @Tryz.underlying28
abbrev yU30 := @Tryz.underlying30
abbrev yU32 := @Tryz.underlying32
abbrev yU34 := @Tryz.underlying34
abbrev yU39 := @Tryz.underlying39
abbrev yU49 := @Tryz.underlying49
abbrev yU50 := @Tryz.underlying50
abbrev yU66 := @Tryz.underlying66
abbrev yU75 := @Tryz.underlying75
abbrev yU77 := @Tryz.underlying77
abbrev yU96 := @Tryz.underlying96
abbrev yU102 := @Tryz.underlying102
abbrev yU136 := @Tryz.underlying136
abbrev yU137 := @Tryz.underlying137
abbrev yU139 := @Tryz.underlying139
abbrev yU142 := @Tryz.underlying142
abbrev yU149 := @Tryz.underlying149
abbrev yU151 := @Tryz.underlying151
abbrev yU153 := @Tryz.underlying153
abbrev yU157 := @Tryz.underlying157
abbrev yU176 := @Tryz.underlying176
abbrev yU180 := @Tryz.underlying180
abbrev yU185 := @Tryz.underlying185
abbrev yU190 := @Tryz.underlying190
abbrev yU200 := @Tryz.underlying200
abbrev yU201 := @Tryz.underlying201
abbrev yU213 := @Tryz.underlying213
abbrev yU219 := @Tryz.underlying219
abbrev yU221 := @Tryz.underlying221
abbrev yU222 := @Tryz.underlying222
abbrev yU226 := @Tryz.underlying226
theorem yA3 : Agg Tryz.prog 3 false := fun w => by kernel_rfl
theorem yA4 : Agg Tryz.prog 4 false := fun w => by kernel_rfl
theorem yA5 : Agg Tryz.prog 5 false := fun w => by kernel_rfl
theorem yA9 : Agg Tryz.prog 9 false := fun w => by kernel_rfl
theorem yA22 : Agg Tryz.prog 22 false := fun w => by kernel_rfl
theorem yA23 : Agg Tryz.prog 23 false := fun w => by kernel_rfl
theorem yA24 : Agg Tryz.prog 24 false := fun w => by kernel_rfl
theorem yA26 : Agg Tryz.prog 26 true := fun w => by kernel_rfl
theorem yA27 : Agg Tryz.prog 27 false := fun w => by kernel_rfl
theorem yA28 : Agg Tryz.prog 28 false := fun w => by kernel_rfl
theorem yA30 : Agg Tryz.prog 30 true := fun w => by kernel_rfl
theorem yA32 : Agg Tryz.prog 32 true := fun w => by kernel_rfl
theorem yA34 : Agg Tryz.prog 34 true := fun w => by kernel_rfl
theorem yA39 : Agg Tryz.prog 39 true := fun w => by kernel_rfl
theorem yA40 : Agg Tryz.prog 40 false := fun w => by kernel_rfl
theorem yA49 : Agg Tryz.prog 49 false := fun w => by kernel_rfl
theorem yA50 : Agg Tryz.prog 50 false := fun w => by kernel_rfl
theorem yA66 : Agg Tryz.prog 66 true := fun w => by kernel_rfl
theorem yA77 : Agg Tryz.prog 77 true := fun w => by kernel_rfl
theorem yA135 : Agg Tryz.prog 135 false := fun w => by kernel_rfl
theorem yA136 : Agg Tryz.prog 136 false := fun w => by kernel_rfl
theorem yA137 : Agg Tryz.prog 137 false := fun w => by kernel_rfl
theorem yA142 : Agg Tryz.prog 142 true := fun w => by kernel_rfl
theorem yA149 : Agg Tryz.prog 149 false := fun w => by kernel_rfl
theorem yA153 : Agg Tryz.prog 153 true := fun w => by kernel_rfl
theorem yA157 : Agg Tryz.prog 157 true := fun w => by kernel_rfl
theorem yA176 : Agg Tryz.prog 176 true := fun w => by kernel_rfl
theorem yA180 : Agg Tryz.prog 180 false := fun w => by kernel_rfl
theorem yG30 : Tryz.prog.eqGuardType Tryz.prog.depth 30 = false := by kernel_rfl
theorem yH30 : Tryz.prog.stoodInHeld 30 = false := by kernel_rfl
theorem yP30 : Pla Tryz.prog 30 [(0, 1), (1, 1), (2, 1), (3, 1), (4, 1), (5, 1), (6, 1), (7, 1), (8, 1)] := fun w => by kernel_rfl
theorem yP32 : Pla Tryz.prog 32 [(0, 1), (1, 9), (10, 1)] := fun w => by kernel_rfl
theorem yP34 : Pla Tryz.prog 34 [(0, 1), (1, 1), (2, 11)] := fun w => by kernel_rfl
theorem yP39 : Pla Tryz.prog 39 [(0, 1), (1, 1), (2, 1), (3, 1), (4, 1), (5, 1), (6, 1), (7, 1)] := fun w => by kernel_rfl
theorem yP66 : Pla Tryz.prog 66 [(0, 1), (1, 1), (2, 1), (3, 1), (4, 1)] := fun w => by kernel_rfl
theorem yP139 : Pla Tryz.prog 139 [(0, 1), (1, 1), (2, 1), (3, 1), (4, 1), (5, 1), (6, 1)] := fun w => by kernel_rfl
theorem yP142 : Pla Tryz.prog 142 [(0, 1), (1, 1)] := fun w => by kernel_rfl
theorem yP151 : Pla Tryz.prog 151 [(0, 1)] := fun w => by kernel_rfl
theorem yP153 : Pla Tryz.prog 153 [(0, 1), (1, 1), (2, 1), (3, 1)] := fun w => by kernel_rfl
theorem yP157 : Pla Tryz.prog 157 [(0, 1), (1, 9), (10, 1)] := fun w => by kernel_rfl
theorem yP176 : Pla Tryz.prog 176 [(0, 1)] := fun w => by kernel_rfl
theorem yP185 : Pla Tryz.prog 185 [(0, 1)] := fun w => by kernel_rfl
theorem yP213 : Pla Tryz.prog 213 [(0, 1)] := fun w => by kernel_rfl
theorem yS3 : Siz Tryz.prog 3 1 := fun w => by kernel_rfl
theorem yS4 : Siz Tryz.prog 4 1 := fun w => by kernel_rfl
theorem yS5 : Siz Tryz.prog 5 1 := fun w => by kernel_rfl
theorem yS9 : Siz Tryz.prog 9 1 := fun w => by kernel_rfl
theorem yS22 : Siz Tryz.prog 22 1 := fun w => by kernel_rfl
theorem yS23 : Siz Tryz.prog 23 1 := fun w => by kernel_rfl
theorem yS24 : Siz Tryz.prog 24 1 := fun w => by kernel_rfl
theorem yS26 : Siz Tryz.prog 26 5 := fun w => by kernel_rfl
theorem yS27 : Siz Tryz.prog 27 1 := fun w => by kernel_rfl
theorem yS28 : Siz Tryz.prog 28 1 := fun w => by kernel_rfl
theorem yS30 : Siz Tryz.prog 30 9 := fun w => by kernel_rfl
theorem yS32 : Siz Tryz.prog 32 11 := fun w => by kernel_rfl
theorem yS34 : Siz Tryz.prog 34 13 := fun w => by kernel_rfl
theorem yS39 : Siz Tryz.prog 39 8 := fun w => by kernel_rfl
theorem yS40 : Siz Tryz.prog 40 1 := fun w => by kernel_rfl
theorem yS49 : Siz Tryz.prog 49 1 := fun w => by kernel_rfl
theorem yS50 : Siz Tryz.prog 50 1 := fun w => by kernel_rfl
theorem yS66 : Siz Tryz.prog 66 5 := fun w => by kernel_rfl
theorem yS77 : Siz Tryz.prog 77 5 := fun w => by kernel_rfl
theorem yS96 : Siz Tryz.prog 96 3 := fun w => by kernel_rfl
theorem yS135 : Siz Tryz.prog 135 1 := fun w => by kernel_rfl
theorem yS136 : Siz Tryz.prog 136 1 := fun w => by kernel_rfl
theorem yS137 : Siz Tryz.prog 137 1 := fun w => by kernel_rfl
theorem yS139 : Siz Tryz.prog 139 7 := fun w => by kernel_rfl
theorem yS142 : Siz Tryz.prog 142 2 := fun w => by kernel_rfl
theorem yS146 : Siz Tryz.prog 146 22 := fun w => by kernel_rfl
theorem yS149 : Siz Tryz.prog 149 1 := fun w => by kernel_rfl
theorem yS153 : Siz Tryz.prog 153 4 := fun w => by kernel_rfl
theorem yS157 : Siz Tryz.prog 157 11 := fun w => by kernel_rfl
theorem yS176 : Siz Tryz.prog 176 1 := fun w => by kernel_rfl
theorem yS180 : Siz Tryz.prog 180 1 := fun w => by kernel_rfl
theorem yZ3 : Zer Tryz.prog 3 (.int .i64 0) := fun w => by kernel_rfl
theorem yZ5 : Zer Tryz.prog 5 (.int .u8 0) := fun w => by kernel_rfl
theorem yZ9 : Zer Tryz.prog 9 (.string ⟨#[]⟩) := fun w => by kernel_rfl
theorem yZ22 : Zer Tryz.prog 22 (.int .u64 0) := fun w => by kernel_rfl
theorem yZ30 : Zer Tryz.prog 30 (.agg #[(.int .i64 0), (.int .i64 0), (.int .i64 0), (.int .i64 0), (.int .i64 0), (.int .i64 0), (.int .i64 0), (.int .i64 0), (.int .i64 0)]) := fun w => by kernel_rfl
theorem yZ32 : Zer Tryz.prog 32 (.agg #[(.pointer none), (.int .i64 0), (.int .i64 0), (.int .i64 0), (.int .i64 0), (.int .i64 0), (.int .i64 0), (.int .i64 0), (.int .i64 0), (.int .i64 0), (.int .i64 0)]) := fun w => by kernel_rfl
theorem yZ34 : Zer Tryz.prog 34 (.agg #[(.pointer none), (.pointer none), (.pointer none), (.int .i64 0), (.int .i64 0), (.int .i64 0), (.int .i64 0), (.int .i64 0), (.int .i64 0), (.int .i64 0), (.int .i64 0), (.int .i64 0), (.int .i64 0)]) := fun w => by kernel_rfl
theorem yZ39 : Zer Tryz.prog 39 (.agg #[(.int .i64 0), (.int .i64 0), (.int .i64 0), (.int .i64 0), (.int .i64 0), (.int .i64 0), (.bool false), (.int .i64 0)]) := fun w => by kernel_rfl
theorem yZ40 : Zer Tryz.prog 40 (.int .i64 0) := fun w => by kernel_rfl
theorem yZ49 : Zer Tryz.prog 49 (.slice none 0 0) := fun w => by kernel_rfl
theorem yZ66 : Zer Tryz.prog 66 (.agg #[(.int .i64 0), (.int .i64 0), (.string ⟨#[]⟩), (.string ⟨#[]⟩), (.int .i64 0)]) := fun w => by kernel_rfl
theorem yZ77 : Zer Tryz.prog 77 (.agg #[(.int .i64 0), (.int .i64 0), (.int .i64 0), (.int .i64 0), (.int .i64 0)]) := fun w => by kernel_rfl
theorem yZ102 : Zer Tryz.prog 102 (.agg #[(.int .i64 0), (.int .i64 0), (.int .i64 0), (.int .i64 0), (.int .i64 0), (.int .i64 0), (.int .i64 0), (.int .i64 0)]) := fun w => by kernel_rfl
theorem yZ139 : Zer Tryz.prog 139 (.agg #[(.int .i64 0), (.int .i64 0), (.pointer none), (.slice none 0 0), (.slice none 0 0), (.map none), (.map none)]) := fun w => by kernel_rfl
theorem yZ142 : Zer Tryz.prog 142 (.agg #[(.string ⟨#[]⟩), (.int .u64 0)]) := fun w => by kernel_rfl
theorem yZ146 : Zer Tryz.prog 146 (.agg #[(.pointer none), (.int .i64 0), (.int .i64 0), (.int .i64 0), (.int .i64 0), (.int .i64 0), (.int .i64 0), (.int .i64 0), (.int .i64 0), (.int .i64 0), (.int .i64 0), (.pointer none), (.int .i64 0), (.int .i64 0), (.int .i64 0), (.int .i64 0), (.int .i64 0), (.int .i64 0), (.int .i64 0), (.int .i64 0), (.int .i64 0), (.int .i64 0)]) := fun w => by kernel_rfl
theorem yZ151 : Zer Tryz.prog 151 (.agg #[(.map none)]) := fun w => by kernel_rfl
theorem yZ153 : Zer Tryz.prog 153 (.agg #[(.int .i64 0), (.int .i64 0), (.bool false), (.int .i64 0)]) := fun w => by kernel_rfl
theorem yZ157 : Zer Tryz.prog 157 (.agg #[(.pointer none), (.int .i64 0), (.int .i64 0), (.int .i64 0), (.int .i64 0), (.int .i64 0), (.int .i64 0), (.int .i64 0), (.int .i64 0), (.int .i64 0), (.int .i64 0)]) := fun w => by kernel_rfl
theorem yZ176 : Zer Tryz.prog 176 (.agg #[(.int .u64 0)]) := fun w => by kernel_rfl
theorem yZ180 : Zer Tryz.prog 180 (.slice none 0 0) := fun w => by kernel_rfl
theorem yZ185 : Zer Tryz.prog 185 (.agg #[(.slice none 0 0)]) := fun w => by kernel_rfl
theorem yZ213 : Zer Tryz.prog 213 (.agg #[(.slice none 0 0)]) := fun w => by kernel_rfl
theorem yI3 : Inf Tryz.prog 3 (.int .i64 0) 1 8 := info_parts (by kernel_rfl)
theorem yI5 : Inf Tryz.prog 5 (.int .u8 0) 1 1 := info_parts (by kernel_rfl)
theorem yI66 : Inf Tryz.prog 66 (.agg #[(.int .i64 0), (.int .i64 0), (.string ⟨#[]⟩), (.string ⟨#[]⟩), (.int .i64 0)]) 5 56 := info_parts (by kernel_rfl)
theorem yI142 : Inf Tryz.prog 142 (.agg #[(.string ⟨#[]⟩), (.int .u64 0)]) 2 24 := info_parts (by kernel_rfl)
theorem yI180 : Inf Tryz.prog 180 (.slice none 0 0) 1 24 := info_parts (by kernel_rfl)
theorem en5 : Ens Tryz.prog 5 := enters_of Tryz.func5 (by kernel_rfl) rfl
theorem en9 : Ens Tryz.prog 9 := enters_of Tryz.func9 (by kernel_rfl) rfl
theorem en11 : Ens Tryz.prog 11 := enters_of Tryz.func11 (by kernel_rfl) rfl
theorem en14 : Ens Tryz.prog 14 := enters_of Tryz.func14 (by kernel_rfl) rfl
theorem en17 : Ens Tryz.prog 17 := enters_of Tryz.func17 (by kernel_rfl) rfl
theorem en26 : Ens Tryz.prog 26 := enters_of Tryz.func26 (by kernel_rfl) rfl
theorem en27 : Ens Tryz.prog 27 := enters_of Tryz.func27 (by kernel_rfl) rfl
theorem en28 : Ens Tryz.prog 28 := enters_of Tryz.func28 (by kernel_rfl) rfl
theorem en29 : Ens Tryz.prog 29 := enters_of Tryz.func29 (by kernel_rfl) rfl
theorem en30 : Ens Tryz.prog 30 := enters_of Tryz.func30 (by kernel_rfl) rfl
theorem en31 : Ens Tryz.prog 31 := enters_of Tryz.func31 (by kernel_rfl) rfl
theorem en34 : Ens Tryz.prog 34 := enters_of Tryz.func34 (by kernel_rfl) rfl
theorem en37 : Ens Tryz.prog 37 := enters_of Tryz.func37 (by kernel_rfl) rfl
theorem en38 : Ens Tryz.prog 38 := enters_of Tryz.func38 (by kernel_rfl) rfl
theorem en39 : Ens Tryz.prog 39 := enters_of Tryz.func39 (by kernel_rfl) rfl
theorem en40 : Ens Tryz.prog 40 := enters_of Tryz.func40 (by kernel_rfl) rfl
theorem en41 : Ens Tryz.prog 41 := enters_of Tryz.func41 (by kernel_rfl) rfl
theorem en42 : Ens Tryz.prog 42 := enters_of Tryz.func42 (by kernel_rfl) rfl
theorem en43 : Ens Tryz.prog 43 := enters_of Tryz.func43 (by kernel_rfl) rfl
theorem en44 : Ens Tryz.prog 44 := enters_of Tryz.func44 (by kernel_rfl) rfl
theorem en46 : Ens Tryz.prog 46 := enters_of Tryz.func46 (by kernel_rfl) rfl
theorem en47 : Ens Tryz.prog 47 := enters_of Tryz.func47 (by kernel_rfl) rfl
theorem en48 : Ens Tryz.prog 48 := enters_of Tryz.func48 (by kernel_rfl) rfl
theorem en49 : Ens Tryz.prog 49 := enters_of Tryz.func49 (by kernel_rfl) rfl
theorem en50 : Ens Tryz.prog 50 := enters_of Tryz.func50 (by kernel_rfl) rfl
theorem en51 : Ens Tryz.prog 51 := enters_of Tryz.func51 (by kernel_rfl) rfl
theorem en61 : Ens Tryz.prog 61 := enters_of Tryz.func61 (by kernel_rfl) rfl
theorem en64 : Ens Tryz.prog 64 := enters_of Tryz.func64 (by kernel_rfl) rfl
theorem en65 : Ens Tryz.prog 65 := enters_of Tryz.func65 (by kernel_rfl) rfl
theorem en66 : Ens Tryz.prog 66 := enters_of Tryz.func66 (by kernel_rfl) rfl
theorem en67 : Ens Tryz.prog 67 := enters_of Tryz.func67 (by kernel_rfl) rfl
theorem en68 : Ens Tryz.prog 68 := enters_of Tryz.func68 (by kernel_rfl) rfl
theorem en69 : Ens Tryz.prog 69 := enters_of Tryz.func69 (by kernel_rfl) rfl
theorem en71 : Ens Tryz.prog 71 := enters_of Tryz.func71 (by kernel_rfl) rfl
theorem en72 : Ens Tryz.prog 72 := enters_of Tryz.func72 (by kernel_rfl) rfl
theorem en73 : Ens Tryz.prog 73 := enters_of Tryz.func73 (by kernel_rfl) rfl
theorem en74 : Ens Tryz.prog 74 := enters_of Tryz.func74 (by kernel_rfl) rfl
theorem en75 : Ens Tryz.prog 75 := enters_of Tryz.func75 (by kernel_rfl) rfl
theorem en76 : Ens Tryz.prog 76 := enters_of Tryz.func76 (by kernel_rfl) rfl
theorem en77 : Ens Tryz.prog 77 := enters_of Tryz.func77 (by kernel_rfl) rfl
theorem en78 : Ens Tryz.prog 78 := enters_of Tryz.func78 (by kernel_rfl) rfl
theorem en79 : Ens Tryz.prog 79 := enters_of Tryz.func79 (by kernel_rfl) rfl
theorem en83 : Ens Tryz.prog 83 := enters_of Tryz.func83 (by kernel_rfl) rfl
theorem en84 : Ens Tryz.prog 84 := enters_of Tryz.func84 (by kernel_rfl) rfl
theorem en85 : Ens Tryz.prog 85 := enters_of Tryz.func85 (by kernel_rfl) rfl
theorem en86 : Ens Tryz.prog 86 := enters_of Tryz.func86 (by kernel_rfl) rfl
theorem en87 : Ens Tryz.prog 87 := enters_of Tryz.func87 (by kernel_rfl) rfl
theorem en88 : Ens Tryz.prog 88 := enters_of Tryz.func88 (by kernel_rfl) rfl
theorem en89 : Ens Tryz.prog 89 := enters_of Tryz.func89 (by kernel_rfl) rfl
theorem en90 : Ens Tryz.prog 90 := enters_of Tryz.func90 (by kernel_rfl) rfl
theorem en91 : Ens Tryz.prog 91 := enters_of Tryz.func91 (by kernel_rfl) rfl
theorem en92 : Ens Tryz.prog 92 := enters_of Tryz.func92 (by kernel_rfl) rfl
theorem en93 : Ens Tryz.prog 93 := enters_of Tryz.func93 (by kernel_rfl) rfl
theorem en94 : Ens Tryz.prog 94 := enters_of Tryz.func94 (by kernel_rfl) rfl
theorem en95 : Ens Tryz.prog 95 := enters_of Tryz.func95 (by kernel_rfl) rfl
theorem en96 : Ens Tryz.prog 96 := enters_of Tryz.func96 (by kernel_rfl) rfl
theorem en97 : Ens Tryz.prog 97 := enters_of Tryz.func97 (by kernel_rfl) rfl
theorem en98 : Ens Tryz.prog 98 := enters_of Tryz.func98 (by kernel_rfl) rfl
theorem en101 : Ens Tryz.prog 101 := enters_of Tryz.func101 (by kernel_rfl) rfl
theorem en104 : Ens Tryz.prog 104 := enters_of Tryz.func104 (by kernel_rfl) rfl
theorem en105 : Ens Tryz.prog 105 := enters_of Tryz.func105 (by kernel_rfl) rfl
theorem en106 : Ens Tryz.prog 106 := enters_of Tryz.func106 (by kernel_rfl) rfl
theorem en107 : Ens Tryz.prog 107 := enters_of Tryz.func107 (by kernel_rfl) rfl
theorem en108 : Ens Tryz.prog 108 := enters_of Tryz.func108 (by kernel_rfl) rfl
theorem en110 : Ens Tryz.prog 110 := enters_of Tryz.func110 (by kernel_rfl) rfl
theorem en111 : Ens Tryz.prog 111 := enters_of Tryz.func111 (by kernel_rfl) rfl
theorem en113 : Ens Tryz.prog 113 := enters_of Tryz.func113 (by kernel_rfl) rfl
theorem en114 : Ens Tryz.prog 114 := enters_of Tryz.func114 (by kernel_rfl) rfl
theorem en115 : Ens Tryz.prog 115 := enters_of Tryz.func115 (by kernel_rfl) rfl
theorem en116 : Ens Tryz.prog 116 := enters_of Tryz.func116 (by kernel_rfl) rfl
theorem en117 : Ens Tryz.prog 117 := enters_of Tryz.func117 (by kernel_rfl) rfl
theorem en118 : Ens Tryz.prog 118 := enters_of Tryz.func118 (by kernel_rfl) rfl
theorem en119 : Ens Tryz.prog 119 := enters_of Tryz.func119 (by kernel_rfl) rfl
theorem en120 : Ens Tryz.prog 120 := enters_of Tryz.func120 (by kernel_rfl) rfl
theorem en121 : Ens Tryz.prog 121 := enters_of Tryz.func121 (by kernel_rfl) rfl
theorem en122 : Ens Tryz.prog 122 := enters_of Tryz.func122 (by kernel_rfl) rfl
theorem en123 : Ens Tryz.prog 123 := enters_of Tryz.func123 (by kernel_rfl) rfl
theorem en125 : Ens Tryz.prog 125 := enters_of Tryz.func125 (by kernel_rfl) rfl
theorem en126 : Ens Tryz.prog 126 := enters_of Tryz.func126 (by kernel_rfl) rfl
theorem en127 : Ens Tryz.prog 127 := enters_of Tryz.func127 (by kernel_rfl) rfl
theorem en128 : Ens Tryz.prog 128 := enters_of Tryz.func128 (by kernel_rfl) rfl
theorem en129 : Ens Tryz.prog 129 := enters_of Tryz.func129 (by kernel_rfl) rfl
theorem en130 : Ens Tryz.prog 130 := enters_of Tryz.func130 (by kernel_rfl) rfl
theorem en131 : Ens Tryz.prog 131 := enters_of Tryz.func131 (by kernel_rfl) rfl
theorem en132 : Ens Tryz.prog 132 := enters_of Tryz.func132 (by kernel_rfl) rfl
theorem en133 : Ens Tryz.prog 133 := enters_of Tryz.func133 (by kernel_rfl) rfl
theorem en134 : Ens Tryz.prog 134 := enters_of Tryz.func134 (by kernel_rfl) rfl
theorem en135 : Ens Tryz.prog 135 := enters_of Tryz.func135 (by kernel_rfl) rfl
theorem en136 : Ens Tryz.prog 136 := enters_of Tryz.func136 (by kernel_rfl) rfl
theorem en137 : Ens Tryz.prog 137 := enters_of Tryz.func137 (by kernel_rfl) rfl
theorem en138 : Ens Tryz.prog 138 := enters_of Tryz.func138 (by kernel_rfl) rfl
theorem en139 : Ens Tryz.prog 139 := enters_of Tryz.func139 (by kernel_rfl) rfl
theorem en140 : Ens Tryz.prog 140 := enters_of Tryz.func140 (by kernel_rfl) rfl
theorem en141 : Ens Tryz.prog 141 := enters_of Tryz.func141 (by kernel_rfl) rfl
theorem en142 : Ens Tryz.prog 142 := enters_of Tryz.func142 (by kernel_rfl) rfl
theorem en143 : Ens Tryz.prog 143 := enters_of Tryz.func143 (by kernel_rfl) rfl
theorem en145 : Ens Tryz.prog 145 := enters_of Tryz.func145 (by kernel_rfl) rfl
theorem en146 : Ens Tryz.prog 146 := enters_of Tryz.func146 (by kernel_rfl) rfl
theorem en147 : Ens Tryz.prog 147 := enters_of Tryz.func147 (by kernel_rfl) rfl
theorem en148 : Ens Tryz.prog 148 := enters_of Tryz.func148 (by kernel_rfl) rfl
theorem en151 : Ens Tryz.prog 151 := enters_of Tryz.func151 (by kernel_rfl) rfl
theorem en152 : Ens Tryz.prog 152 := enters_of Tryz.func152 (by kernel_rfl) rfl
theorem en153 : Ens Tryz.prog 153 := enters_of Tryz.func153 (by kernel_rfl) rfl
theorem en154 : Ens Tryz.prog 154 := enters_of Tryz.func154 (by kernel_rfl) rfl
theorem en155 : Ens Tryz.prog 155 := enters_of Tryz.func155 (by kernel_rfl) rfl
theorem en156 : Ens Tryz.prog 156 := enters_of Tryz.func156 (by kernel_rfl) rfl
theorem en157 : Ens Tryz.prog 157 := enters_of Tryz.func157 (by kernel_rfl) rfl
theorem en158 : Ens Tryz.prog 158 := enters_of Tryz.func158 (by kernel_rfl) rfl
theorem en159 : Ens Tryz.prog 159 := enters_of Tryz.func159 (by kernel_rfl) rfl
theorem en160 : Ens Tryz.prog 160 := enters_of Tryz.func160 (by kernel_rfl) rfl
theorem en161 : Ens Tryz.prog 161 := enters_of Tryz.func161 (by kernel_rfl) rfl
theorem en162 : Ens Tryz.prog 162 := enters_of Tryz.func162 (by kernel_rfl) rfl
theorem en163 : Ens Tryz.prog 163 := enters_of Tryz.func163 (by kernel_rfl) rfl
theorem en167 : Ens Tryz.prog 167 := enters_of Tryz.func167 (by kernel_rfl) rfl
theorem en168 : Ens Tryz.prog 168 := enters_of Tryz.func168 (by kernel_rfl) rfl
end Go.Proofs.YtmdangoaomppdaaGreatDoor.Ty
