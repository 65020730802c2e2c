/- Closed facts on the types and the functions of this translation, each by the kernel. -/
import Derived.Test.YtepkcjfmdenkcaaDoorProg
import Derived.Test.YtepkcjfmdenkcaaDoorEngOps
import Derived.Test.YtepkcjfmdenkcaaDoorEngMore
import Derived.Test.YtepkcjfmdenkcaaDoorEngDraw
import Derived.Test.YtepkcjfmdenkcaaDoorEngAb
import Derived.Test.YtepkcjfmdenkcaaDoorEngMap
import Derived.Test.YtepkcjfmdenkcaaDoorEngStr
import Derived.KernelRfl
import Derived.Shelf.Abstract
import Derived.RowKit3
import Derived.Laws.OwnMore
set_option linter.unusedVariables false
namespace Go.Proofs.YtepkcjfmdenkcaaDoor.Ty
open Go.RowKit Go.Proofs
open Eng
theorem mixed : Tryd.prog.follows .mixedOrders = true := by kernel_rfl
abbrev yU3 := @Tryd.underlying3
abbrev yU4 := @Tryd.underlying4
abbrev yU5 := @Tryd.underlying5
abbrev yU9 := @Tryd.underlying9
abbrev yU22 := @Tryd.underlying22
abbrev yU23 := @Tryd.underlying23
abbrev yU24 := @Tryd.underlying24
abbrev yU25 := @Tryd.underlying25
abbrev yU27 := @Tryd.underlying27
abbrev yU33 := @Tryd.underlying33
abbrev yU37 := @Tryd.underlying37
abbrev yU43 := @Tryd.underlying43
abbrev yU47 := @Tryd.underlying47
abbrev yU52 := @Tryd.underlying52
abbrev yU56 := @Tryd.underlying56
abbrev yU57 := @Tryd.underlying57
abbrev yU59 := @Tryd.underlying59
abbrev yU63 := @Tryd.underlying63
abbrev yU81 := @Tryd.underlying81
abbrev yU83 := @Tryd.underlying83
abbrev yU87 := @Tryd.underlying87
abbrev yU88 := @Tryd.underlying88
abbrev yU90 := @Tryd.underlying90
abbrev yU91 := @Tryd.underlying91
abbrev yU93 := @Tryd.underlying93
abbrev yU98 := @Tryd.underlying98
abbrev yU102 := @Tryd.underlying102
abbrev yU106 := @Tryd.underlying106
abbrev yU107 := @Tryd.underlying107
abbrev yU113 := @Tryd.underlying113
abbrev yU119 := @Tryd.underlying119
abbrev yU140 := @Tryd.underlying140
abbrev yU145 := @Tryd.underlying145
abbrev yU150 := @Tryd.underlying150
abbrev yU151 := @Tryd.underlying151
abbrev yU154 := @Tryd.underlying154
theorem yA3 : Agg Tryd.prog 3 false := fun w => by kernel_rfl
theorem yA5 : Agg Tryd.prog 5 false := fun w => by kernel_rfl
theorem yA9 : Agg Tryd.prog 9 false := fun w => by kernel_rfl
theorem yA22 : Agg Tryd.prog 22 false := fun w => by kernel_rfl
theorem yA23 : Agg Tryd.prog 23 false := fun w => by kernel_rfl
theorem yA24 : Agg Tryd.prog 24 false := fun w => by kernel_rfl
theorem yA25 : Agg Tryd.prog 25 false := fun w => by kernel_rfl
theorem yA27 : Agg Tryd.prog 27 true := fun w => by kernel_rfl
theorem yA33 : Agg Tryd.prog 33 true := fun w => by kernel_rfl
theorem yA37 : Agg Tryd.prog 37 true := fun w => by kernel_rfl
theorem yA43 : Agg Tryd.prog 43 false := fun w => by kernel_rfl
theorem yA44 : Agg Tryd.prog 44 false := fun w => by kernel_rfl
theorem yA47 : Agg Tryd.prog 47 false := fun w => by kernel_rfl
theorem yA52 : Agg Tryd.prog 52 true := fun w => by kernel_rfl
theorem yA56 : Agg Tryd.prog 56 true := fun w => by kernel_rfl
theorem yA63 : Agg Tryd.prog 63 true := fun w => by kernel_rfl
theorem yA83 : Agg Tryd.prog 83 true := fun w => by kernel_rfl
theorem yA84 : Agg Tryd.prog 84 false := fun w => by kernel_rfl
theorem yA87 : Agg Tryd.prog 87 false := fun w => by kernel_rfl
theorem yA88 : Agg Tryd.prog 88 false := fun w => by kernel_rfl
theorem yA91 : Agg Tryd.prog 91 false := fun w => by kernel_rfl
theorem yA98 : Agg Tryd.prog 98 true := fun w => by kernel_rfl
theorem yA106 : Agg Tryd.prog 106 false := fun w => by kernel_rfl
theorem yA113 : Agg Tryd.prog 113 true := fun w => by kernel_rfl
theorem yG37 : Tryd.prog.eqGuardType Tryd.prog.depth 37 = false := by kernel_rfl
theorem yH37 : Tryd.prog.stoodInHeld 37 = false := by kernel_rfl
theorem yG56 : Tryd.prog.eqGuardType Tryd.prog.depth 56 = false := by kernel_rfl
theorem yH56 : Tryd.prog.stoodInHeld 56 = false := by kernel_rfl
theorem yG63 : Tryd.prog.eqGuardType Tryd.prog.depth 63 = false := by kernel_rfl
theorem yH63 : Tryd.prog.stoodInHeld 63 = false := by kernel_rfl
theorem yP37 : Pla Tryd.prog 37 [(0, 1), (1, 1), (2, 1), (3, 1), (4, 1), (5, 1), (6, 1), (7, 1), (8, 1)] := fun w => by kernel_rfl
theorem yP52 : Pla Tryd.prog 52 [(0, 1), (1, 9), (10, 1)] := fun w => by kernel_rfl
theorem yP56 : Pla Tryd.prog 56 [(0, 1), (1, 1), (2, 1), (3, 1), (4, 1)] := fun w => by kernel_rfl
theorem yP59 : Pla Tryd.prog 59 [(0, 1), (1, 9), (10, 1), (11, 11), (22, 4), (26, 40), (66, 1)] := fun w => by kernel_rfl
theorem yP63 : Pla Tryd.prog 63 [(0, 1), (1, 1), (2, 1), (3, 1)] := fun w => by kernel_rfl
theorem yP81 : Pla Tryd.prog 81 [(0, 1)] := fun w => by kernel_rfl
theorem yP90 : Pla Tryd.prog 90 [(0, 1), (1, 1), (2, 1), (3, 1), (4, 1), (5, 1), (6, 1)] := fun w => by kernel_rfl
theorem yP93 : Pla Tryd.prog 93 [(0, 1)] := fun w => by kernel_rfl
theorem yP98 : Pla Tryd.prog 98 [(0, 1), (1, 9), (10, 1)] := fun w => by kernel_rfl
theorem yP113 : Pla Tryd.prog 113 [(0, 1)] := fun w => by kernel_rfl
theorem yP119 : Pla Tryd.prog 119 [(0, 1)] := fun w => by kernel_rfl
theorem yS3 : Siz Tryd.prog 3 1 := fun w => by kernel_rfl
theorem yS5 : Siz Tryd.prog 5 1 := fun w => by kernel_rfl
theorem yS9 : Siz Tryd.prog 9 1 := fun w => by kernel_rfl
theorem yS22 : Siz Tryd.prog 22 1 := fun w => by kernel_rfl
theorem yS23 : Siz Tryd.prog 23 1 := fun w => by kernel_rfl
theorem yS24 : Siz Tryd.prog 24 1 := fun w => by kernel_rfl
theorem yS25 : Siz Tryd.prog 25 1 := fun w => by kernel_rfl
theorem yS27 : Siz Tryd.prog 27 4 := fun w => by kernel_rfl
theorem yS33 : Siz Tryd.prog 33 3 := fun w => by kernel_rfl
theorem yS37 : Siz Tryd.prog 37 9 := fun w => by kernel_rfl
theorem yS43 : Siz Tryd.prog 43 1 := fun w => by kernel_rfl
theorem yS44 : Siz Tryd.prog 44 1 := fun w => by kernel_rfl
theorem yS47 : Siz Tryd.prog 47 1 := fun w => by kernel_rfl
theorem yS52 : Siz Tryd.prog 52 11 := fun w => by kernel_rfl
theorem yS56 : Siz Tryd.prog 56 5 := fun w => by kernel_rfl
theorem yS57 : Siz Tryd.prog 57 40 := fun w => by kernel_rfl
theorem yS63 : Siz Tryd.prog 63 4 := fun w => by kernel_rfl
theorem yS83 : Siz Tryd.prog 83 2 := fun w => by kernel_rfl
theorem yS84 : Siz Tryd.prog 84 1 := fun w => by kernel_rfl
theorem yS87 : Siz Tryd.prog 87 1 := fun w => by kernel_rfl
theorem yS88 : Siz Tryd.prog 88 1 := fun w => by kernel_rfl
theorem yS91 : Siz Tryd.prog 91 1 := fun w => by kernel_rfl
theorem yS98 : Siz Tryd.prog 98 11 := fun w => by kernel_rfl
theorem yS106 : Siz Tryd.prog 106 1 := fun w => by kernel_rfl
theorem yS113 : Siz Tryd.prog 113 1 := fun w => by kernel_rfl
theorem yZ3 : Zer Tryd.prog 3 (.int .i64 0) := fun w => by kernel_rfl
theorem yZ5 : Zer Tryd.prog 5 (.int .u8 0) := fun w => by kernel_rfl
theorem yZ9 : Zer Tryd.prog 9 (.string ⟨#[]⟩) := fun w => by kernel_rfl
theorem yZ22 : Zer Tryd.prog 22 (.slice none 0 0) := fun w => by kernel_rfl
theorem yZ24 : Zer Tryd.prog 24 (.int .u64 0) := fun w => by kernel_rfl
theorem yZ33 : Zer Tryd.prog 33 (.agg #[(.int .i64 0), (.int .i64 0), (.int .i64 0)]) := fun w => by kernel_rfl
theorem yZ37 : Zer Tryd.prog 37 (.agg #[(.int .i64 0), (.int .i64 0), (.int .i64 0), (.int .i64 0), (.int .i64 0), (.int .i64 0), (.int .i64 0), (.int .i64 0), (.int .i64 0)]) := fun w => by kernel_rfl
theorem yZ44 : Zer Tryd.prog 44 (.int .i64 0) := fun w => by kernel_rfl
theorem yZ52 : Zer Tryd.prog 52 (.agg #[(.pointer none), (.int .i64 0), (.int .i64 0), (.int .i64 0), (.int .i64 0), (.int .i64 0), (.int .i64 0), (.int .i64 0), (.int .i64 0), (.int .i64 0), (.int .i64 0)]) := fun w => by kernel_rfl
theorem yZ56 : Zer Tryd.prog 56 (.agg #[(.int .i64 0), (.int .i64 0), (.string ⟨#[]⟩), (.string ⟨#[]⟩), (.int .i64 0)]) := fun w => by kernel_rfl
theorem yZ59 : Zer Tryd.prog 59 (.agg #[(.pointer none), (.int .i64 0), (.int .i64 0), (.int .i64 0), (.int .i64 0), (.int .i64 0), (.int .i64 0), (.int .i64 0), (.int .i64 0), (.int .i64 0), (.pointer none), (.pointer none), (.int .i64 0), (.int .i64 0), (.int .i64 0), (.int .i64 0), (.int .i64 0), (.int .i64 0), (.int .i64 0), (.int .i64 0), (.int .i64 0), (.int .i64 0), (.slice none 0 0), (.slice none 0 0), (.int .u64 0), (.slice none 0 0), (.int .i64 0), (.int .i64 0), (.string ⟨#[]⟩), (.string ⟨#[]⟩), (.int .i64 0), (.int .i64 0), (.int .i64 0), (.string ⟨#[]⟩), (.string ⟨#[]⟩), (.int .i64 0), (.int .i64 0), (.int .i64 0), (.string ⟨#[]⟩), (.string ⟨#[]⟩), (.int .i64 0), (.int .i64 0), (.int .i64 0), (.string ⟨#[]⟩), (.string ⟨#[]⟩), (.int .i64 0), (.int .i64 0), (.int .i64 0), (.string ⟨#[]⟩), (.string ⟨#[]⟩), (.int .i64 0), (.int .i64 0), (.int .i64 0), (.string ⟨#[]⟩), (.string ⟨#[]⟩), (.int .i64 0), (.int .i64 0), (.int .i64 0), (.string ⟨#[]⟩), (.string ⟨#[]⟩), (.int .i64 0), (.int .i64 0), (.int .i64 0), (.string ⟨#[]⟩), (.string ⟨#[]⟩), (.int .i64 0), (.int .i64 0)]) := fun w => by kernel_rfl
theorem yZ63 : Zer Tryd.prog 63 (.agg #[(.int .i64 0), (.int .i64 0), (.int .i64 0), (.bool false)]) := fun w => by kernel_rfl
theorem yZ81 : Zer Tryd.prog 81 (.agg #[(.slice none 0 0)]) := fun w => by kernel_rfl
theorem yZ83 : Zer Tryd.prog 83 (.agg #[(.string ⟨#[]⟩), (.int .u64 0)]) := fun w => by kernel_rfl
theorem yZ90 : Zer Tryd.prog 90 (.agg #[(.int .i64 0), (.int .i64 0), (.pointer none), (.slice none 0 0), (.slice none 0 0), (.map none), (.map none)]) := fun w => by kernel_rfl
theorem yZ93 : Zer Tryd.prog 93 (.agg #[(.map none)]) := fun w => by kernel_rfl
theorem yZ98 : Zer Tryd.prog 98 (.agg #[(.pointer none), (.int .i64 0), (.int .i64 0), (.int .i64 0), (.int .i64 0), (.int .i64 0), (.int .i64 0), (.int .i64 0), (.int .i64 0), (.int .i64 0), (.int .i64 0)]) := fun w => by kernel_rfl
theorem yZ102 : Zer Tryd.prog 102 (.agg #[(.int .i64 0), (.int .i64 0), (.int .i64 0), (.int .i64 0)]) := fun w => by kernel_rfl
theorem yZ106 : Zer Tryd.prog 106 (.slice none 0 0) := fun w => by kernel_rfl
theorem yZ113 : Zer Tryd.prog 113 (.agg #[(.int .u64 0)]) := fun w => by kernel_rfl
theorem yZ119 : Zer Tryd.prog 119 (.agg #[(.slice none 0 0)]) := fun w => by kernel_rfl
theorem yI3 : Inf Tryd.prog 3 (.int .i64 0) 1 8 := info_parts (by kernel_rfl)
theorem yI5 : Inf Tryd.prog 5 (.int .u8 0) 1 1 := info_parts (by kernel_rfl)
theorem yI83 : Inf Tryd.prog 83 (.agg #[(.string ⟨#[]⟩), (.int .u64 0)]) 2 24 := info_parts (by kernel_rfl)
theorem yI106 : Inf Tryd.prog 106 (.slice none 0 0) 1 24 := info_parts (by kernel_rfl)
theorem en3 : Ens Tryd.prog 3 := enters_of Tryd.func3 (by kernel_rfl) rfl
theorem en4 : Ens Tryd.prog 4 := enters_of Tryd.func4 (by kernel_rfl) rfl
theorem en5 : Ens Tryd.prog 5 := enters_of Tryd.func5 (by kernel_rfl) rfl
theorem en6 : Ens Tryd.prog 6 := enters_of Tryd.func6 (by kernel_rfl) rfl
theorem en7 : Ens Tryd.prog 7 := enters_of Tryd.func7 (by kernel_rfl) rfl
theorem en8 : Ens Tryd.prog 8 := enters_of Tryd.func8 (by kernel_rfl) rfl
theorem en9 : Ens Tryd.prog 9 := enters_of Tryd.func9 (by kernel_rfl) rfl
theorem en10 : Ens Tryd.prog 10 := enters_of Tryd.func10 (by kernel_rfl) rfl
theorem en11 : Ens Tryd.prog 11 := enters_of Tryd.func11 (by kernel_rfl) rfl
theorem en12 : Ens Tryd.prog 12 := enters_of Tryd.func12 (by kernel_rfl) rfl
theorem en13 : Ens Tryd.prog 13 := enters_of Tryd.func13 (by kernel_rfl) rfl
theorem en14 : Ens Tryd.prog 14 := enters_of Tryd.func14 (by kernel_rfl) rfl
theorem en15 : Ens Tryd.prog 15 := enters_of Tryd.func15 (by kernel_rfl) rfl
theorem en16 : Ens Tryd.prog 16 := enters_of Tryd.func16 (by kernel_rfl) rfl
theorem en17 : Ens Tryd.prog 17 := enters_of Tryd.func17 (by kernel_rfl) rfl
theorem en18 : Ens Tryd.prog 18 := enters_of Tryd.func18 (by kernel_rfl) rfl
theorem en19 : Ens Tryd.prog 19 := enters_of Tryd.func19 (by kernel_rfl) rfl
theorem en20 : Ens Tryd.prog 20 := enters_of Tryd.func20 (by kernel_rfl) rfl
theorem en21 : Ens Tryd.prog 21 := enters_of Tryd.func21 (by kernel_rfl) rfl
theorem en22 : Ens Tryd.prog 22 := enters_of Tryd.func22 (by kernel_rfl) rfl
theorem en23 : Ens Tryd.prog 23 := enters_of Tryd.func23 (by kernel_rfl) rfl
theorem en24 : Ens Tryd.prog 24 := enters_of Tryd.func24 (by kernel_rfl) rfl
theorem en25 : Ens Tryd.prog 25 := enters_of Tryd.func25 (by kernel_rfl) rfl
theorem en26 : Ens Tryd.prog 26 := enters_of Tryd.func26 (by kernel_rfl) rfl
theorem en27 : Ens Tryd.prog 27 := enters_of Tryd.func27 (by kernel_rfl) rfl
theorem en28 : Ens Tryd.prog 28 := enters_of Tryd.func28 (by kernel_rfl) rfl
theorem en29 : Ens Tryd.prog 29 := enters_of Tryd.func29 (by kernel_rfl) rfl
theorem en30 : Ens Tryd.prog 30 := enters_of Tryd.func30 (by kernel_rfl) rfl
theorem en31 : Ens Tryd.prog 31 := enters_of Tryd.func31 (by kernel_rfl) rfl
theorem en32 : Ens Tryd.prog 32 := enters_of Tryd.func32 (by kernel_rfl) rfl
theorem en33 : Ens Tryd.prog 33 := enters_of Tryd.func33 (by kernel_rfl) rfl
theorem en34 : Ens Tryd.prog 34 := enters_of Tryd.func34 (by kernel_rfl) rfl
theorem en35 : Ens Tryd.prog 35 := enters_of Tryd.func35 (by kernel_rfl) rfl
theorem en36 : Ens Tryd.prog 36 := enters_of Tryd.func36 (by kernel_rfl) rfl
theorem en37 : Ens Tryd.prog 37 := enters_of Tryd.func37 (by kernel_rfl) rfl
theorem en38 : Ens Tryd.prog 38 := enters_of Tryd.func38 (by kernel_rfl) rfl
theorem en39 : Ens Tryd.prog 39 := enters_of Tryd.func39 (by kernel_rfl) rfl
theorem en40 : Ens Tryd.prog 40 := enters_of Tryd.func40 (by kernel_rfl) rfl
theorem en41 : Ens Tryd.prog 41 := enters_of Tryd.func41 (by kernel_rfl) rfl
theorem en42 : Ens Tryd.prog 42 := enters_of Tryd.func42 (by kernel_rfl) rfl
theorem en43 : Ens Tryd.prog 43 := enters_of Tryd.func43 (by kernel_rfl) rfl
theorem en44 : Ens Tryd.prog 44 := enters_of Tryd.func44 (by kernel_rfl) rfl
theorem en45 : Ens Tryd.prog 45 := enters_of Tryd.func45 (by kernel_rfl) rfl
theorem en46 : Ens Tryd.prog 46 := enters_of Tryd.func46 (by kernel_rfl) rfl
theorem en47 : Ens Tryd.prog 47 := enters_of Tryd.func47 (by kernel_rfl) rfl
theorem en48 : Ens Tryd.prog 48 := enters_of Tryd.func48 (by kernel_rfl) rfl
theorem en49 : Ens Tryd.prog 49 := enters_of Tryd.func49 (by kernel_rfl) rfl
theorem en50 : Ens Tryd.prog 50 := enters_of Tryd.func50 (by kernel_rfl) rfl
theorem en51 : Ens Tryd.prog 51 := enters_of Tryd.func51 (by kernel_rfl) rfl
theorem en52 : Ens Tryd.prog 52 := enters_of Tryd.func52 (by kernel_rfl) rfl
theorem en53 : Ens Tryd.prog 53 := enters_of Tryd.func53 (by kernel_rfl) rfl
theorem en54 : Ens Tryd.prog 54 := enters_of Tryd.func54 (by kernel_rfl) rfl
theorem en55 : Ens Tryd.prog 55 := enters_of Tryd.func55 (by kernel_rfl) rfl
theorem en56 : Ens Tryd.prog 56 := enters_of Tryd.func56 (by kernel_rfl) rfl
theorem en57 : Ens Tryd.prog 57 := enters_of Tryd.func57 (by kernel_rfl) rfl
theorem en58 : Ens Tryd.prog 58 := enters_of Tryd.func58 (by kernel_rfl) rfl
theorem en59 : Ens Tryd.prog 59 := enters_of Tryd.func59 (by kernel_rfl) rfl
theorem en60 : Ens Tryd.prog 60 := enters_of Tryd.func60 (by kernel_rfl) rfl
theorem en61 : Ens Tryd.prog 61 := enters_of Tryd.func61 (by kernel_rfl) rfl
theorem en62 : Ens Tryd.prog 62 := enters_of Tryd.func62 (by kernel_rfl) rfl
theorem en63 : Ens Tryd.prog 63 := enters_of Tryd.func63 (by kernel_rfl) rfl
theorem en64 : Ens Tryd.prog 64 := enters_of Tryd.func64 (by kernel_rfl) rfl
theorem en65 : Ens Tryd.prog 65 := enters_of Tryd.func65 (by kernel_rfl) rfl
theorem en66 : Ens Tryd.prog 66 := enters_of Tryd.func66 (by kernel_rfl) rfl
theorem en67 : Ens Tryd.prog 67 := enters_of Tryd.func67 (by kernel_rfl) rfl
theorem en68 : Ens Tryd.prog 68 := enters_of Tryd.func68 (by kernel_rfl) rfl
theorem en69 : Ens Tryd.prog 69 := enters_of Tryd.func69 (by kernel_rfl) rfl
theorem en70 : Ens Tryd.prog 70 := enters_of Tryd.func70 (by kernel_rfl) rfl
theorem en71 : Ens Tryd.prog 71 := enters_of Tryd.func71 (by kernel_rfl) rfl
theorem en72 : Ens Tryd.prog 72 := enters_of Tryd.func72 (by kernel_rfl) rfl
theorem en73 : Ens Tryd.prog 73 := enters_of Tryd.func73 (by kernel_rfl) rfl
theorem en74 : Ens Tryd.prog 74 := enters_of Tryd.func74 (by kernel_rfl) rfl
theorem en75 : Ens Tryd.prog 75 := enters_of Tryd.func75 (by kernel_rfl) rfl
theorem en76 : Ens Tryd.prog 76 := enters_of Tryd.func76 (by kernel_rfl) rfl
theorem en77 : Ens Tryd.prog 77 := enters_of Tryd.func77 (by kernel_rfl) rfl
theorem en78 : Ens Tryd.prog 78 := enters_of Tryd.func78 (by kernel_rfl) rfl
theorem en79 : Ens Tryd.prog 79 := enters_of Tryd.func79 (by kernel_rfl) rfl
theorem en80 : Ens Tryd.prog 80 := enters_of Tryd.func80 (by kernel_rfl) rfl
theorem en81 : Ens Tryd.prog 81 := enters_of Tryd.func81 (by kernel_rfl) rfl
theorem en82 : Ens Tryd.prog 82 := enters_of Tryd.func82 (by kernel_rfl) rfl
theorem en83 : Ens Tryd.prog 83 := enters_of Tryd.func83 (by kernel_rfl) rfl
theorem en84 : Ens Tryd.prog 84 := enters_of Tryd.func84 (by kernel_rfl) rfl
theorem en85 : Ens Tryd.prog 85 := enters_of Tryd.func85 (by kernel_rfl) rfl
theorem en86 : Ens Tryd.prog 86 := enters_of Tryd.func86 (by kernel_rfl) rfl
theorem en87 : Ens Tryd.prog 87 := enters_of Tryd.func87 (by kernel_rfl) rfl
theorem en88 : Ens Tryd.prog 88 := enters_of Tryd.func88 (by kernel_rfl) rfl
theorem en89 : Ens Tryd.prog 89 := enters_of Tryd.func89 (by kernel_rfl) rfl
theorem en90 : Ens Tryd.prog 90 := enters_of Tryd.func90 (by kernel_rfl) rfl
theorem en91 : Ens Tryd.prog 91 := enters_of Tryd.func91 (by kernel_rfl) rfl
theorem en92 : Ens Tryd.prog 92 := enters_of Tryd.func92 (by kernel_rfl) rfl
theorem en93 : Ens Tryd.prog 93 := enters_of Tryd.func93 (by kernel_rfl) rfl
theorem en94 : Ens Tryd.prog 94 := enters_of Tryd.func94 (by kernel_rfl) rfl
theorem en95 : Ens Tryd.prog 95 := enters_of Tryd.func95 (by kernel_rfl) rfl
theorem en96 : Ens Tryd.prog 96 := enters_of Tryd.func96 (by kernel_rfl) rfl
theorem en97 : Ens Tryd.prog 97 := enters_of Tryd.func97 (by kernel_rfl) rfl
end Go.Proofs.YtepkcjfmdenkcaaDoor.Ty
