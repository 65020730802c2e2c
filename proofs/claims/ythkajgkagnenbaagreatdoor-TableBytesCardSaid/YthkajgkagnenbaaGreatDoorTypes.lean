import Derived.Test.YthkajgkagnenbaaGreatDoorProg
import Derived.Test.YthkajgkagnenbaaGreatDoorEngOps
import Derived.Test.YthkajgkagnenbaaGreatDoorEngMap
import Derived.Test.YthkajgkagnenbaaGreatDoorEngDraw
import Derived.Test.YthkajgkagnenbaaGreatDoorEngAb
import Derived.Test.YthkajgkagnenbaaGreatDoorEngStr
import Derived.KernelRfl
import Derived.Shelf.Abstract
import Derived.RowKit3
import Derived.Laws.OwnMore
/- Closed facts on the types and the functions of this translation, each by the kernel. -/
set_option linter.unusedVariables false
namespace Go.Proofs.YthkajgkagnenbaaGreatDoor.Ty
open Go.RowKit Go.Proofs
open Eng
theorem mixed : Tryz.prog.follows .mixedOrders = true := by kernel_rfl
abbrev yU3 := @Tryz.underlying3
abbrev yU4 := @Tryz.underlying4
abbrev yU5 := @Tryz.underlying5
abbrev yU9 := @Tryz.underlying9
abbrev yU22 := @Tryz.underlying22
abbrev yU23 := @Tryz.underlying23
abbrev yU27 := @Tryz.underlying27
abbrev yU29 := @Tryz.underlying29
abbrev yU31 := @Tryz.underlying31
abbrev yU34 := @Tryz.underlying34
abbrev yU35 := @Tryz.underlying35
abbrev yU37 := @Tryz.underlying37
abbrev yU39 := @Tryz.underlying39
abbrev yU42 := @Tryz.underlying42
abbrev yU43 := @Tryz.underlying43
abbrev yU45 := @Tryz.underlying45
abbrev yU49 := @Tryz.underlying49
abbrev yU51 := @Tryz.underlying51
abbrev yU113 := @Tryz.underlying113
abbrev yU114 := @Tryz.underlying114
abbrev yU116 := @Tryz.underlying116
abbrev yU117 := @Tryz.underlying117
abbrev yU119 := @Tryz.underlying119
abbrev yU142 := @Tryz.underlying142
abbrev yU147 := @Tryz.underlying147
abbrev yU182 := @Tryz.underlying182
abbrev yU189 := @Tryz.underlying189
abbrev yU224 := @Tryz.underlying224
abbrev yU233 := @Tryz.underlying233
abbrev yU243 := @Tryz.underlying243
abbrev yU247 := @Tryz.underlying247
abbrev yU259 := @Tryz.underlying259
abbrev yU288 := @Tryz.underlying288
abbrev yU289 := @Tryz.underlying289
abbrev yU290 := @Tryz.underlying290
abbrev yU304 := @Tryz.underlying304
theorem yA3 : Agg Tryz.prog 3 false := fun w => by kernel_rfl
theorem yA4 : Agg Tryz.prog 4 false := fun w => by kernel_rfl
theorem yA5 : Agg Tryz.prog 5 false := fun w => by kernel_rfl
theorem yA9 : Agg Tryz.prog 9 false := fun w => by kernel_rfl
theorem yA22 : Agg Tryz.prog 22 false := fun w => by kernel_rfl
theorem yA27 : Agg Tryz.prog 27 false := fun w => by kernel_rfl
theorem yA29 : Agg Tryz.prog 29 true := fun w => by kernel_rfl
theorem yA31 : Agg Tryz.prog 31 false := fun w => by kernel_rfl
theorem yA32 : Agg Tryz.prog 32 false := fun w => by kernel_rfl
theorem yA34 : Agg Tryz.prog 34 true := fun w => by kernel_rfl
theorem yA35 : Agg Tryz.prog 35 false := fun w => by kernel_rfl
theorem yA39 : Agg Tryz.prog 39 true := fun w => by kernel_rfl
theorem yA40 : Agg Tryz.prog 40 false := fun w => by kernel_rfl
theorem yA42 : Agg Tryz.prog 42 true := fun w => by kernel_rfl
theorem yA43 : Agg Tryz.prog 43 false := fun w => by kernel_rfl
theorem yA49 : Agg Tryz.prog 49 false := fun w => by kernel_rfl
theorem yA77 : Agg Tryz.prog 77 false := fun w => by kernel_rfl
theorem yA112 : Agg Tryz.prog 112 false := fun w => by kernel_rfl
theorem yA113 : Agg Tryz.prog 113 false := fun w => by kernel_rfl
theorem yA114 : Agg Tryz.prog 114 false := fun w => by kernel_rfl
theorem yA117 : Agg Tryz.prog 117 false := fun w => by kernel_rfl
theorem yA142 : Agg Tryz.prog 142 true := fun w => by kernel_rfl
theorem yA147 : Agg Tryz.prog 147 true := fun w => by kernel_rfl
theorem yA182 : Agg Tryz.prog 182 true := fun w => by kernel_rfl
theorem yA224 : Agg Tryz.prog 224 true := fun w => by kernel_rfl
theorem yA247 : Agg Tryz.prog 247 true := fun w => by kernel_rfl
theorem yG34 : Tryz.prog.eqGuardType Tryz.prog.depth 34 = false := by kernel_rfl
theorem yH34 : Tryz.prog.stoodInHeld 34 = false := by kernel_rfl
theorem yG142 : Tryz.prog.eqGuardType Tryz.prog.depth 142 = false := by kernel_rfl
theorem yH142 : Tryz.prog.stoodInHeld 142 = false := by kernel_rfl
theorem yG147 : Tryz.prog.eqGuardType Tryz.prog.depth 147 = false := by kernel_rfl
theorem yH147 : Tryz.prog.stoodInHeld 147 = false := by kernel_rfl
theorem yP34 : Pla Tryz.prog 34 [(0, 1), (1, 1), (2, 1), (3, 1), (4, 1), (5, 1), (6, 1), (7, 1), (8, 1)] := fun w => by kernel_rfl
theorem yP37 : Pla Tryz.prog 37 [(0, 1), (1, 1), (2, 9), (11, 1)] := fun w => by kernel_rfl
theorem yP39 : Pla Tryz.prog 39 [(0, 1), (1, 9), (10, 1)] := fun w => by kernel_rfl
theorem yP42 : Pla Tryz.prog 42 [(0, 11), (11, 1), (12, 1)] := fun w => by kernel_rfl
theorem yP45 : Pla Tryz.prog 45 [(0, 1), (1, 9), (10, 1), (11, 1), (12, 1), (13, 1), (14, 1), (15, 1), (16, 1), (17, 1), (18, 1), (19, 1)] := fun w => by kernel_rfl
theorem yP51 : Pla Tryz.prog 51 [(0, 1), (1, 1), (2, 1)] := fun w => by kernel_rfl
theorem yP116 : Pla Tryz.prog 116 [(0, 1), (1, 1), (2, 1), (3, 1), (4, 1), (5, 1), (6, 1)] := fun w => by kernel_rfl
theorem yP119 : Pla Tryz.prog 119 [(0, 1), (1, 1), (2, 1)] := fun w => by kernel_rfl
theorem yP142 : Pla Tryz.prog 142 [(0, 1), (1, 1), (2, 1), (3, 1), (4, 1)] := fun w => by kernel_rfl
theorem yP147 : Pla Tryz.prog 147 [(0, 1), (1, 1), (2, 1), (3, 1), (4, 1), (5, 1), (6, 1), (7, 1)] := fun w => by kernel_rfl
theorem yP182 : Pla Tryz.prog 182 [(0, 1), (1, 9), (10, 1)] := fun w => by kernel_rfl
theorem yP189 : Pla Tryz.prog 189 [(0, 1)] := fun w => by kernel_rfl
theorem yP224 : Pla Tryz.prog 224 [(0, 1), (1, 1), (2, 1), (3, 1)] := fun w => by kernel_rfl
theorem yP247 : Pla Tryz.prog 247 [(0, 1)] := fun w => by kernel_rfl
theorem yS3 : Siz Tryz.prog 3 1 := fun w => by kernel_rfl
theorem yS4 : Siz Tryz.prog 4 1 := fun w => by kernel_rfl
theorem yS5 : Siz Tryz.prog 5 1 := fun w => by kernel_rfl
theorem yS9 : Siz Tryz.prog 9 1 := fun w => by kernel_rfl
theorem yS22 : Siz Tryz.prog 22 1 := fun w => by kernel_rfl
theorem yS27 : Siz Tryz.prog 27 1 := fun w => by kernel_rfl
theorem yS29 : Siz Tryz.prog 29 7 := fun w => by kernel_rfl
theorem yS31 : Siz Tryz.prog 31 1 := fun w => by kernel_rfl
theorem yS32 : Siz Tryz.prog 32 1 := fun w => by kernel_rfl
theorem yS34 : Siz Tryz.prog 34 9 := fun w => by kernel_rfl
theorem yS35 : Siz Tryz.prog 35 1 := fun w => by kernel_rfl
theorem yS39 : Siz Tryz.prog 39 11 := fun w => by kernel_rfl
theorem yS40 : Siz Tryz.prog 40 1 := fun w => by kernel_rfl
theorem yS42 : Siz Tryz.prog 42 13 := fun w => by kernel_rfl
theorem yS43 : Siz Tryz.prog 43 1 := fun w => by kernel_rfl
theorem yS49 : Siz Tryz.prog 49 1 := fun w => by kernel_rfl
theorem yS77 : Siz Tryz.prog 77 1 := fun w => by kernel_rfl
theorem yS112 : Siz Tryz.prog 112 1 := fun w => by kernel_rfl
theorem yS113 : Siz Tryz.prog 113 1 := fun w => by kernel_rfl
theorem yS114 : Siz Tryz.prog 114 1 := fun w => by kernel_rfl
theorem yS116 : Siz Tryz.prog 116 7 := fun w => by kernel_rfl
theorem yS117 : Siz Tryz.prog 117 1 := fun w => by kernel_rfl
theorem yS119 : Siz Tryz.prog 119 3 := fun w => by kernel_rfl
theorem yS142 : Siz Tryz.prog 142 5 := fun w => by kernel_rfl
theorem yS147 : Siz Tryz.prog 147 8 := fun w => by kernel_rfl
theorem yS182 : Siz Tryz.prog 182 11 := fun w => by kernel_rfl
theorem yS224 : Siz Tryz.prog 224 4 := fun w => by kernel_rfl
theorem yS247 : Siz Tryz.prog 247 1 := fun w => by kernel_rfl
theorem yZ3 : Zer Tryz.prog 3 (.int .i64 0) := fun w => by kernel_rfl
theorem yZ4 : Zer Tryz.prog 4 (.bool false) := fun w => by kernel_rfl
theorem yZ5 : Zer Tryz.prog 5 (.int .u8 0) := fun w => by kernel_rfl
theorem yZ9 : Zer Tryz.prog 9 (.string ⟨#[]⟩) := fun w => by kernel_rfl
theorem yZ22 : Zer Tryz.prog 22 (.slice none 0 0) := fun w => by kernel_rfl
theorem yZ29 : Zer Tryz.prog 29 (.agg #[(.int .i64 0), (.int .i64 0), (.int .i64 0), (.int .i64 0), (.int .u64 0), (.string ⟨#[]⟩), (.string ⟨#[]⟩)]) := fun w => by kernel_rfl
theorem yZ34 : Zer Tryz.prog 34 (.agg #[(.int .i64 0), (.int .i64 0), (.int .i64 0), (.int .i64 0), (.int .i64 0), (.int .i64 0), (.int .i64 0), (.int .i64 0), (.int .i64 0)]) := fun w => by kernel_rfl
theorem yZ37 : Zer Tryz.prog 37 (.agg #[(.pointer none), (.pointer none), (.int .i64 0), (.int .i64 0), (.int .i64 0), (.int .i64 0), (.int .i64 0), (.int .i64 0), (.int .i64 0), (.int .i64 0), (.int .i64 0), (.slice none 0 0)]) := fun w => by kernel_rfl
theorem yZ39 : Zer Tryz.prog 39 (.agg #[(.pointer none), (.int .i64 0), (.int .i64 0), (.int .i64 0), (.int .i64 0), (.int .i64 0), (.int .i64 0), (.int .i64 0), (.int .i64 0), (.int .i64 0), (.int .i64 0)]) := fun w => by kernel_rfl
theorem yZ42 : Zer Tryz.prog 42 (.agg #[(.pointer none), (.int .i64 0), (.int .i64 0), (.int .i64 0), (.int .i64 0), (.int .i64 0), (.int .i64 0), (.int .i64 0), (.int .i64 0), (.int .i64 0), (.int .i64 0), (.pointer none), (.bool false)]) := fun w => by kernel_rfl
theorem yZ45 : Zer Tryz.prog 45 (.agg #[(.pointer none), (.int .i64 0), (.int .i64 0), (.int .i64 0), (.int .i64 0), (.int .i64 0), (.int .i64 0), (.int .i64 0), (.int .i64 0), (.int .i64 0), (.int .i64 0), (.int .i64 0), (.int .i64 0), (.int .i64 0), (.int .i64 0), (.int .i64 0), (.int .i64 0), (.bool false), (.bool false), (.slice none 0 0)]) := fun w => by kernel_rfl
theorem yZ51 : Zer Tryz.prog 51 (.agg #[(.int .i64 0), (.int .i64 0), (.slice none 0 0)]) := fun w => by kernel_rfl
theorem yZ77 : Zer Tryz.prog 77 (.int .i64 0) := fun w => by kernel_rfl
theorem yZ116 : Zer Tryz.prog 116 (.agg #[(.int .i64 0), (.int .i64 0), (.pointer none), (.slice none 0 0), (.slice none 0 0), (.map none), (.map none)]) := fun w => by kernel_rfl
theorem yZ117 : Zer Tryz.prog 117 (.slice none 0 0) := fun w => by kernel_rfl
theorem yZ119 : Zer Tryz.prog 119 (.agg #[(.int .i64 0), (.bool false), (.slice none 0 0)]) := fun w => by kernel_rfl
theorem yZ142 : Zer Tryz.prog 142 (.agg #[(.int .i64 0), (.int .i64 0), (.string ⟨#[]⟩), (.string ⟨#[]⟩), (.int .i64 0)]) := fun w => by kernel_rfl
theorem yZ147 : Zer Tryz.prog 147 (.agg #[(.int .i64 0), (.int .i64 0), (.int .i64 0), (.int .i64 0), (.int .i64 0), (.int .i64 0), (.bool false), (.int .i64 0)]) := fun w => by kernel_rfl
theorem yZ182 : Zer Tryz.prog 182 (.agg #[(.pointer none), (.int .i64 0), (.int .i64 0), (.int .i64 0), (.int .i64 0), (.int .i64 0), (.int .i64 0), (.int .i64 0), (.int .i64 0), (.int .i64 0), (.int .i64 0)]) := fun w => by kernel_rfl
theorem yZ189 : Zer Tryz.prog 189 (.agg #[(.slice none 0 0)]) := fun w => by kernel_rfl
theorem yZ224 : Zer Tryz.prog 224 (.agg #[(.int .i64 0), (.int .i64 0), (.bool false), (.int .i64 0)]) := fun w => by kernel_rfl
theorem yZ243 : Zer Tryz.prog 243 (.agg #[(.int .i64 0), (.int .i64 0), (.int .i64 0), (.int .i64 0), (.int .i64 0), (.int .i64 0), (.int .i64 0), (.int .i64 0)]) := fun w => by kernel_rfl
theorem yZ247 : Zer Tryz.prog 247 (.agg #[(.int .u64 0)]) := fun w => by kernel_rfl
theorem yI3 : Inf Tryz.prog 3 (.int .i64 0) 1 8 := info_parts (by kernel_rfl)
theorem yI5 : Inf Tryz.prog 5 (.int .u8 0) 1 1 := info_parts (by kernel_rfl)
theorem yI42 : Inf Tryz.prog 42 (.agg #[(.pointer none), (.int .i64 0), (.int .i64 0), (.int .i64 0), (.int .i64 0), (.int .i64 0), (.int .i64 0), (.int .i64 0), (.int .i64 0), (.int .i64 0), (.int .i64 0), (.pointer none), (.bool false)]) 13 104 := info_parts (by kernel_rfl)
theorem yI117 : Inf Tryz.prog 117 (.slice none 0 0) 1 24 := info_parts (by kernel_rfl)
theorem yI119 : Inf Tryz.prog 119 (.agg #[(.int .i64 0), (.bool false), (.slice none 0 0)]) 3 40 := info_parts (by kernel_rfl)
theorem yI142 : Inf Tryz.prog 142 (.agg #[(.int .i64 0), (.int .i64 0), (.string ⟨#[]⟩), (.string ⟨#[]⟩), (.int .i64 0)]) 5 56 := info_parts (by kernel_rfl)
theorem en3 : Ens Tryz.prog 3 := enters_of Tryz.func3 (by kernel_rfl) rfl
theorem en8 : Ens Tryz.prog 8 := enters_of Tryz.func8 (by kernel_rfl) rfl
theorem en9 : Ens Tryz.prog 9 := enters_of Tryz.func9 (by kernel_rfl) rfl
theorem en10 : Ens Tryz.prog 10 := enters_of Tryz.func10 (by kernel_rfl) rfl
theorem en12 : Ens Tryz.prog 12 := enters_of Tryz.func12 (by kernel_rfl) rfl
theorem en13 : Ens Tryz.prog 13 := enters_of Tryz.func13 (by kernel_rfl) rfl
theorem en18 : Ens Tryz.prog 18 := enters_of Tryz.func18 (by kernel_rfl) rfl
theorem en25 : Ens Tryz.prog 25 := enters_of Tryz.func25 (by kernel_rfl) rfl
theorem en26 : Ens Tryz.prog 26 := enters_of Tryz.func26 (by kernel_rfl) rfl
theorem en27 : Ens Tryz.prog 27 := enters_of Tryz.func27 (by kernel_rfl) rfl
theorem en28 : Ens Tryz.prog 28 := enters_of Tryz.func28 (by kernel_rfl) rfl
theorem en29 : Ens Tryz.prog 29 := enters_of Tryz.func29 (by kernel_rfl) rfl
theorem en30 : Ens Tryz.prog 30 := enters_of Tryz.func30 (by kernel_rfl) rfl
theorem en31 : Ens Tryz.prog 31 := enters_of Tryz.func31 (by kernel_rfl) rfl
theorem en32 : Ens Tryz.prog 32 := enters_of Tryz.func32 (by kernel_rfl) rfl
theorem en33 : Ens Tryz.prog 33 := enters_of Tryz.func33 (by kernel_rfl) rfl
theorem en34 : Ens Tryz.prog 34 := enters_of Tryz.func34 (by kernel_rfl) rfl
theorem en35 : Ens Tryz.prog 35 := enters_of Tryz.func35 (by kernel_rfl) rfl
theorem en36 : Ens Tryz.prog 36 := enters_of Tryz.func36 (by kernel_rfl) rfl
theorem en37 : Ens Tryz.prog 37 := enters_of Tryz.func37 (by kernel_rfl) rfl
theorem en38 : Ens Tryz.prog 38 := enters_of Tryz.func38 (by kernel_rfl) rfl
theorem en47 : Ens Tryz.prog 47 := enters_of Tryz.func47 (by kernel_rfl) rfl
theorem en48 : Ens Tryz.prog 48 := enters_of Tryz.func48 (by kernel_rfl) rfl
theorem en49 : Ens Tryz.prog 49 := enters_of Tryz.func49 (by kernel_rfl) rfl
theorem en50 : Ens Tryz.prog 50 := enters_of Tryz.func50 (by kernel_rfl) rfl
theorem en51 : Ens Tryz.prog 51 := enters_of Tryz.func51 (by kernel_rfl) rfl
theorem en52 : Ens Tryz.prog 52 := enters_of Tryz.func52 (by kernel_rfl) rfl
theorem en53 : Ens Tryz.prog 53 := enters_of Tryz.func53 (by kernel_rfl) rfl
theorem en55 : Ens Tryz.prog 55 := enters_of Tryz.func55 (by kernel_rfl) rfl
theorem en56 : Ens Tryz.prog 56 := enters_of Tryz.func56 (by kernel_rfl) rfl
theorem en58 : Ens Tryz.prog 58 := enters_of Tryz.func58 (by kernel_rfl) rfl
theorem en65 : Ens Tryz.prog 65 := enters_of Tryz.func65 (by kernel_rfl) rfl
theorem en66 : Ens Tryz.prog 66 := enters_of Tryz.func66 (by kernel_rfl) rfl
theorem en67 : Ens Tryz.prog 67 := enters_of Tryz.func67 (by kernel_rfl) rfl
theorem en68 : Ens Tryz.prog 68 := enters_of Tryz.func68 (by kernel_rfl) rfl
theorem en69 : Ens Tryz.prog 69 := enters_of Tryz.func69 (by kernel_rfl) rfl
theorem en70 : Ens Tryz.prog 70 := enters_of Tryz.func70 (by kernel_rfl) rfl
theorem en71 : Ens Tryz.prog 71 := enters_of Tryz.func71 (by kernel_rfl) rfl
theorem en72 : Ens Tryz.prog 72 := enters_of Tryz.func72 (by kernel_rfl) rfl
theorem en73 : Ens Tryz.prog 73 := enters_of Tryz.func73 (by kernel_rfl) rfl
theorem en74 : Ens Tryz.prog 74 := enters_of Tryz.func74 (by kernel_rfl) rfl
theorem en75 : Ens Tryz.prog 75 := enters_of Tryz.func75 (by kernel_rfl) rfl
theorem en76 : Ens Tryz.prog 76 := enters_of Tryz.func76 (by kernel_rfl) rfl
theorem en77 : Ens Tryz.prog 77 := enters_of Tryz.func77 (by kernel_rfl) rfl
theorem en78 : Ens Tryz.prog 78 := enters_of Tryz.func78 (by kernel_rfl) rfl
theorem en79 : Ens Tryz.prog 79 := enters_of Tryz.func79 (by kernel_rfl) rfl
theorem en80 : Ens Tryz.prog 80 := enters_of Tryz.func80 (by kernel_rfl) rfl
theorem en81 : Ens Tryz.prog 81 := enters_of Tryz.func81 (by kernel_rfl) rfl
theorem en82 : Ens Tryz.prog 82 := enters_of Tryz.func82 (by kernel_rfl) rfl
theorem en83 : Ens Tryz.prog 83 := enters_of Tryz.func83 (by kernel_rfl) rfl
theorem en84 : Ens Tryz.prog 84 := enters_of Tryz.func84 (by kernel_rfl) rfl
theorem en85 : Ens Tryz.prog 85 := enters_of Tryz.func85 (by kernel_rfl) rfl
theorem en86 : Ens Tryz.prog 86 := enters_of Tryz.func86 (by kernel_rfl) rfl
theorem en87 : Ens Tryz.prog 87 := enters_of Tryz.func87 (by kernel_rfl) rfl
theorem en88 : Ens Tryz.prog 88 := enters_of Tryz.func88 (by kernel_rfl) rfl
theorem en89 : Ens Tryz.prog 89 := enters_of Tryz.func89 (by kernel_rfl) rfl
theorem en90 : Ens Tryz.prog 90 := enters_of Tryz.func90 (by kernel_rfl) rfl
theorem en91 : Ens Tryz.prog 91 := enters_of Tryz.func91 (by kernel_rfl) rfl
theorem en92 : Ens Tryz.prog 92 := enters_of Tryz.func92 (by kernel_rfl) rfl
theorem en93 : Ens Tryz.prog 93 := enters_of Tryz.func93 (by kernel_rfl) rfl
theorem en94 : Ens Tryz.prog 94 := enters_of Tryz.func94 (by kernel_rfl) rfl
theorem en95 : Ens Tryz.prog 95 := enters_of Tryz.func95 (by kernel_rfl) rfl
theorem en96 : Ens Tryz.prog 96 := enters_of Tryz.func96 (by kernel_rfl) rfl
theorem en97 : Ens Tryz.prog 97 := enters_of Tryz.func97 (by kernel_rfl) rfl
theorem en98 : Ens Tryz.prog 98 := enters_of Tryz.func98 (by kernel_rfl) rfl
theorem en99 : Ens Tryz.prog 99 := enters_of Tryz.func99 (by kernel_rfl) rfl
theorem en126 : Ens Tryz.prog 126 := enters_of Tryz.func126 (by kernel_rfl) rfl
theorem en127 : Ens Tryz.prog 127 := enters_of Tryz.func127 (by kernel_rfl) rfl
theorem en128 : Ens Tryz.prog 128 := enters_of Tryz.func128 (by kernel_rfl) rfl
theorem en129 : Ens Tryz.prog 129 := enters_of Tryz.func129 (by kernel_rfl) rfl
theorem en130 : Ens Tryz.prog 130 := enters_of Tryz.func130 (by kernel_rfl) rfl
theorem en131 : Ens Tryz.prog 131 := enters_of Tryz.func131 (by kernel_rfl) rfl
theorem en132 : Ens Tryz.prog 132 := enters_of Tryz.func132 (by kernel_rfl) rfl
theorem en133 : Ens Tryz.prog 133 := enters_of Tryz.func133 (by kernel_rfl) rfl
theorem en134 : Ens Tryz.prog 134 := enters_of Tryz.func134 (by kernel_rfl) rfl
theorem en135 : Ens Tryz.prog 135 := enters_of Tryz.func135 (by kernel_rfl) rfl
theorem en136 : Ens Tryz.prog 136 := enters_of Tryz.func136 (by kernel_rfl) rfl
theorem en137 : Ens Tryz.prog 137 := enters_of Tryz.func137 (by kernel_rfl) rfl
theorem en138 : Ens Tryz.prog 138 := enters_of Tryz.func138 (by kernel_rfl) rfl
theorem en139 : Ens Tryz.prog 139 := enters_of Tryz.func139 (by kernel_rfl) rfl
theorem en141 : Ens Tryz.prog 141 := enters_of Tryz.func141 (by kernel_rfl) rfl
theorem en144 : Ens Tryz.prog 144 := enters_of Tryz.func144 (by kernel_rfl) rfl
theorem en145 : Ens Tryz.prog 145 := enters_of Tryz.func145 (by kernel_rfl) rfl
theorem en146 : Ens Tryz.prog 146 := enters_of Tryz.func146 (by kernel_rfl) rfl
theorem en154 : Ens Tryz.prog 154 := enters_of Tryz.func154 (by kernel_rfl) rfl
theorem en155 : Ens Tryz.prog 155 := enters_of Tryz.func155 (by kernel_rfl) rfl
theorem en156 : Ens Tryz.prog 156 := enters_of Tryz.func156 (by kernel_rfl) rfl
theorem en157 : Ens Tryz.prog 157 := enters_of Tryz.func157 (by kernel_rfl) rfl
theorem en158 : Ens Tryz.prog 158 := enters_of Tryz.func158 (by kernel_rfl) rfl
theorem en159 : Ens Tryz.prog 159 := enters_of Tryz.func159 (by kernel_rfl) rfl
theorem en160 : Ens Tryz.prog 160 := enters_of Tryz.func160 (by kernel_rfl) rfl
theorem en161 : Ens Tryz.prog 161 := enters_of Tryz.func161 (by kernel_rfl) rfl
theorem en162 : Ens Tryz.prog 162 := enters_of Tryz.func162 (by kernel_rfl) rfl
theorem en163 : Ens Tryz.prog 163 := enters_of Tryz.func163 (by kernel_rfl) rfl
theorem en164 : Ens Tryz.prog 164 := enters_of Tryz.func164 (by kernel_rfl) rfl
theorem en165 : Ens Tryz.prog 165 := enters_of Tryz.func165 (by kernel_rfl) rfl
theorem en166 : Ens Tryz.prog 166 := enters_of Tryz.func166 (by kernel_rfl) rfl
theorem en167 : Ens Tryz.prog 167 := enters_of Tryz.func167 (by kernel_rfl) rfl
theorem en168 : Ens Tryz.prog 168 := enters_of Tryz.func168 (by kernel_rfl) rfl
theorem en169 : Ens Tryz.prog 169 := enters_of Tryz.func169 (by kernel_rfl) rfl
theorem en174 : Ens Tryz.prog 174 := enters_of Tryz.func174 (by kernel_rfl) rfl
theorem en175 : Ens Tryz.prog 175 := enters_of Tryz.func175 (by kernel_rfl) rfl
theorem en178 : Ens Tryz.prog 178 := enters_of Tryz.func178 (by kernel_rfl) rfl
theorem en179 : Ens Tryz.prog 179 := enters_of Tryz.func179 (by kernel_rfl) rfl
theorem en180 : Ens Tryz.prog 180 := enters_of Tryz.func180 (by kernel_rfl) rfl
theorem en181 : Ens Tryz.prog 181 := enters_of Tryz.func181 (by kernel_rfl) rfl
theorem en182 : Ens Tryz.prog 182 := enters_of Tryz.func182 (by kernel_rfl) rfl
theorem en183 : Ens Tryz.prog 183 := enters_of Tryz.func183 (by kernel_rfl) rfl
theorem en184 : Ens Tryz.prog 184 := enters_of Tryz.func184 (by kernel_rfl) rfl
theorem en185 : Ens Tryz.prog 185 := enters_of Tryz.func185 (by kernel_rfl) rfl
theorem en186 : Ens Tryz.prog 186 := enters_of Tryz.func186 (by kernel_rfl) rfl
theorem en187 : Ens Tryz.prog 187 := enters_of Tryz.func187 (by kernel_rfl) rfl
theorem en188 : Ens Tryz.prog 188 := enters_of Tryz.func188 (by kernel_rfl) rfl
theorem en189 : Ens Tryz.prog 189 := enters_of Tryz.func189 (by kernel_rfl) rfl
theorem en190 : Ens Tryz.prog 190 := enters_of Tryz.func190 (by kernel_rfl) rfl
theorem en191 : Ens Tryz.prog 191 := enters_of Tryz.func191 (by kernel_rfl) rfl
theorem en192 : Ens Tryz.prog 192 := enters_of Tryz.func192 (by kernel_rfl) rfl
theorem en193 : Ens Tryz.prog 193 := enters_of Tryz.func193 (by kernel_rfl) rfl
theorem en194 : Ens Tryz.prog 194 := enters_of Tryz.func194 (by kernel_rfl) rfl
theorem en195 : Ens Tryz.prog 195 := enters_of Tryz.func195 (by kernel_rfl) rfl
theorem en196 : Ens Tryz.prog 196 := enters_of Tryz.func196 (by kernel_rfl) rfl
theorem en197 : Ens Tryz.prog 197 := enters_of Tryz.func197 (by kernel_rfl) rfl
theorem en198 : Ens Tryz.prog 198 := enters_of Tryz.func198 (by kernel_rfl) rfl
theorem en199 : Ens Tryz.prog 199 := enters_of Tryz.func199 (by kernel_rfl) rfl
theorem en200 : Ens Tryz.prog 200 := enters_of Tryz.func200 (by kernel_rfl) rfl
theorem en202 : Ens Tryz.prog 202 := enters_of Tryz.func202 (by kernel_rfl) rfl
theorem en203 : Ens Tryz.prog 203 := enters_of Tryz.func203 (by kernel_rfl) rfl
theorem en204 : Ens Tryz.prog 204 := enters_of Tryz.func204 (by kernel_rfl) rfl
theorem en210 : Ens Tryz.prog 210 := enters_of Tryz.func210 (by kernel_rfl) rfl
theorem en211 : Ens Tryz.prog 211 := enters_of Tryz.func211 (by kernel_rfl) rfl
theorem en212 : Ens Tryz.prog 212 := enters_of Tryz.func212 (by kernel_rfl) rfl
theorem en213 : Ens Tryz.prog 213 := enters_of Tryz.func213 (by kernel_rfl) rfl
theorem en214 : Ens Tryz.prog 214 := enters_of Tryz.func214 (by kernel_rfl) rfl
theorem en215 : Ens Tryz.prog 215 := enters_of Tryz.func215 (by kernel_rfl) rfl
theorem en216 : Ens Tryz.prog 216 := enters_of Tryz.func216 (by kernel_rfl) rfl
theorem en217 : Ens Tryz.prog 217 := enters_of Tryz.func217 (by kernel_rfl) rfl
theorem en220 : Ens Tryz.prog 220 := enters_of Tryz.func220 (by kernel_rfl) rfl
theorem en221 : Ens Tryz.prog 221 := enters_of Tryz.func221 (by kernel_rfl) rfl
theorem en222 : Ens Tryz.prog 222 := enters_of Tryz.func222 (by kernel_rfl) rfl
theorem en223 : Ens Tryz.prog 223 := enters_of Tryz.func223 (by kernel_rfl) rfl
theorem en224 : Ens Tryz.prog 224 := enters_of Tryz.func224 (by kernel_rfl) rfl
theorem en225 : Ens Tryz.prog 225 := enters_of Tryz.func225 (by kernel_rfl) rfl
theorem en226 : Ens Tryz.prog 226 := enters_of Tryz.func226 (by kernel_rfl) rfl
theorem en227 : Ens Tryz.prog 227 := enters_of Tryz.func227 (by kernel_rfl) rfl
theorem en228 : Ens Tryz.prog 228 := enters_of Tryz.func228 (by kernel_rfl) rfl
theorem en229 : Ens Tryz.prog 229 := enters_of Tryz.func229 (by kernel_rfl) rfl
theorem en230 : Ens Tryz.prog 230 := enters_of Tryz.func230 (by kernel_rfl) rfl
theorem en240 : Ens Tryz.prog 240 := enters_of Tryz.func240 (by kernel_rfl) rfl
theorem en243 : Ens Tryz.prog 243 := enters_of Tryz.func243 (by kernel_rfl) rfl
theorem en244 : Ens Tryz.prog 244 := enters_of Tryz.func244 (by kernel_rfl) rfl
theorem en245 : Ens Tryz.prog 245 := enters_of Tryz.func245 (by kernel_rfl) rfl
end Go.Proofs.YthkajgkagnenbaaGreatDoor.Ty
