import Derived.Test.YtjekhcojebgpnaaProg
import Derived.Test.YtjekhcojebgpnaaEngOps
import Derived.Test.YtjekhcojebgpnaaEngDefer
import Derived.Test.YtjekhcojebgpnaaEngDraw
import Derived.Test.YtjekhcojebgpnaaEngAb
import Derived.Test.YtjekhcojebgpnaaEngMap
import Derived.Test.YtjekhcojebgpnaaEngStr
import Derived.KernelRfl
import Derived.Shelf.Abstract
import Derived.RowKit3
import Derived.Laws.OwnMore
/- Closed facts on the types and the functions of this translation, each by the kernel. -/
set_option linter.unusedVariables false
namespace Go.Proofs.Ytjekhcojebgpnaa.Ty
open Go.RowKit Go.Proofs
open Eng
theorem mixed : Try.prog.follows .mixedOrders = true := by kernel_rfl
abbrev yU3 := @Try.underlying3
abbrev yU4 := @Try.underlying4
abbrev yU5 := @Try.underlying5
abbrev yU9 := @Try.underlying9
abbrev yU22 := @Try.underlying22
abbrev yU23 := @Try.underlying23
abbrev yU25 := @Try.underlying25
abbrev yU27 := @Try.underlying27
abbrev yU28 := @Try.underlying28
abbrev yU41 := @Try.underlying41
abbrev yU43 := @Try.underlying43
abbrev yU57 := @Try.underlying57
abbrev yU61 := @Try.underlying61
abbrev yU63 := @Try.underlying63
abbrev yU69 := @Try.underlying69
abbrev yU70 := @Try.underlying70
abbrev yU71 := @Try.underlying71
abbrev yU73 := @Try.underlying73
abbrev yU80 := @Try.underlying80
abbrev yU81 := @Try.underlying81
abbrev yU83 := @Try.underlying83
abbrev yU90 := @Try.underlying90
abbrev yU91 := @Try.underlying91
abbrev yU109 := @Try.underlying109
abbrev yU111 := @Try.underlying111
abbrev yU116 := @Try.underlying116
abbrev yU120 := @Try.underlying120
abbrev yU123 := @Try.underlying123
abbrev yU131 := @Try.underlying131
abbrev yU137 := @Try.underlying137
abbrev yU151 := @Try.underlying151
abbrev yU152 := @Try.underlying152
theorem yA3 : Agg Try.prog 3 false := fun w => by kernel_rfl
theorem yA4 : Agg Try.prog 4 false := fun w => by kernel_rfl
theorem yA5 : Agg Try.prog 5 false := fun w => by kernel_rfl
theorem yA9 : Agg Try.prog 9 false := fun w => by kernel_rfl
theorem yA23 : Agg Try.prog 23 false := fun w => by kernel_rfl
theorem yA25 : Agg Try.prog 25 true := fun w => by kernel_rfl
theorem yA27 : Agg Try.prog 27 true := fun w => by kernel_rfl
theorem yA28 : Agg Try.prog 28 false := fun w => by kernel_rfl
theorem yA31 : Agg Try.prog 31 false := fun w => by kernel_rfl
theorem yA41 : Agg Try.prog 41 true := fun w => by kernel_rfl
theorem yA43 : Agg Try.prog 43 true := fun w => by kernel_rfl
theorem yA57 : Agg Try.prog 57 true := fun w => by kernel_rfl
theorem yA63 : Agg Try.prog 63 false := fun w => by kernel_rfl
theorem yA69 : Agg Try.prog 69 true := fun w => by kernel_rfl
theorem yA71 : Agg Try.prog 71 true := fun w => by kernel_rfl
theorem yA73 : Agg Try.prog 73 true := fun w => by kernel_rfl
theorem yA79 : Agg Try.prog 79 false := fun w => by kernel_rfl
theorem yA80 : Agg Try.prog 80 false := fun w => by kernel_rfl
theorem yA81 : Agg Try.prog 81 false := fun w => by kernel_rfl
theorem yG43 : Try.prog.eqGuardType Try.prog.depth 43 = false := by kernel_rfl
theorem yH43 : Try.prog.stoodInHeld 43 = false := by kernel_rfl
theorem yP25 : Pla Try.prog 25 [(0, 1), (1, 1), (2, 1), (3, 1), (4, 1), (5, 1), (6, 1), (7, 1), (8, 1)] := fun w => by kernel_rfl
theorem yP27 : Pla Try.prog 27 [(0, 1), (1, 9), (10, 1)] := fun w => by kernel_rfl
theorem yP43 : Pla Try.prog 43 [(0, 1), (1, 1), (2, 1)] := fun w => by kernel_rfl
theorem yP57 : Pla Try.prog 57 [(0, 1), (1, 1), (2, 1), (3, 1)] := fun w => by kernel_rfl
theorem yP69 : Pla Try.prog 69 [(0, 1), (1, 1)] := fun w => by kernel_rfl
theorem yP73 : Pla Try.prog 73 [(0, 1), (1, 1), (2, 1), (3, 1), (4, 14), (18, 8)] := fun w => by kernel_rfl
theorem yP83 : Pla Try.prog 83 [(0, 1), (1, 1), (2, 1), (3, 1), (4, 1), (5, 1), (6, 1)] := fun w => by kernel_rfl
theorem yP111 : Pla Try.prog 111 [(0, 26), (26, 1)] := fun w => by kernel_rfl
theorem yP116 : Pla Try.prog 116 [(0, 1)] := fun w => by kernel_rfl
theorem yS3 : Siz Try.prog 3 1 := fun w => by kernel_rfl
theorem yS4 : Siz Try.prog 4 1 := fun w => by kernel_rfl
theorem yS5 : Siz Try.prog 5 1 := fun w => by kernel_rfl
theorem yS9 : Siz Try.prog 9 1 := fun w => by kernel_rfl
theorem yS23 : Siz Try.prog 23 1 := fun w => by kernel_rfl
theorem yS25 : Siz Try.prog 25 9 := fun w => by kernel_rfl
theorem yS27 : Siz Try.prog 27 11 := fun w => by kernel_rfl
theorem yS28 : Siz Try.prog 28 1 := fun w => by kernel_rfl
theorem yS31 : Siz Try.prog 31 1 := fun w => by kernel_rfl
theorem yS41 : Siz Try.prog 41 3 := fun w => by kernel_rfl
theorem yS43 : Siz Try.prog 43 3 := fun w => by kernel_rfl
theorem yS57 : Siz Try.prog 57 4 := fun w => by kernel_rfl
theorem yS63 : Siz Try.prog 63 1 := fun w => by kernel_rfl
theorem yS69 : Siz Try.prog 69 2 := fun w => by kernel_rfl
theorem yS70 : Siz Try.prog 70 14 := fun w => by kernel_rfl
theorem yS71 : Siz Try.prog 71 8 := fun w => by kernel_rfl
theorem yS73 : Siz Try.prog 73 26 := fun w => by kernel_rfl
theorem yS79 : Siz Try.prog 79 1 := fun w => by kernel_rfl
theorem yS80 : Siz Try.prog 80 1 := fun w => by kernel_rfl
theorem yS81 : Siz Try.prog 81 1 := fun w => by kernel_rfl
theorem yS111 : Siz Try.prog 111 27 := fun w => by kernel_rfl
theorem yZ3 : Zer Try.prog 3 (.int .i64 0) := fun w => by kernel_rfl
theorem yZ4 : Zer Try.prog 4 (.bool false) := fun w => by kernel_rfl
theorem yZ5 : Zer Try.prog 5 (.int .u8 0) := fun w => by kernel_rfl
theorem yZ9 : Zer Try.prog 9 (.string ⟨#[]⟩) := fun w => by kernel_rfl
theorem yZ25 : Zer Try.prog 25 (.agg #[(.int .i64 0), (.int .i64 0), (.int .i64 0), (.int .i64 0), (.int .i64 0), (.int .i64 0), (.int .i64 0), (.int .i64 0), (.int .i64 0)]) := fun w => by kernel_rfl
theorem yZ27 : Zer Try.prog 27 (.agg #[(.pointer none), (.int .i64 0), (.int .i64 0), (.int .i64 0), (.int .i64 0), (.int .i64 0), (.int .i64 0), (.int .i64 0), (.int .i64 0), (.int .i64 0), (.int .i64 0)]) := fun w => by kernel_rfl
theorem yZ28 : Zer Try.prog 28 (.slice none 0 0) := fun w => by kernel_rfl
theorem yZ31 : Zer Try.prog 31 (.int .i64 0) := fun w => by kernel_rfl
theorem yZ41 : Zer Try.prog 41 (.agg #[(.int .i64 0), (.int .i64 0), (.int .i64 0)]) := fun w => by kernel_rfl
theorem yZ43 : Zer Try.prog 43 (.agg #[(.int .i64 0), (.int .i64 0), (.int .i64 0)]) := fun w => by kernel_rfl
theorem yZ57 : Zer Try.prog 57 (.agg #[(.int .i64 0), (.int .i64 0), (.int .i64 0), (.int .i64 0)]) := fun w => by kernel_rfl
theorem yZ63 : Zer Try.prog 63 (.slice none 0 0) := fun w => by kernel_rfl
theorem yZ69 : Zer Try.prog 69 (.agg #[(.string ⟨#[]⟩), (.string ⟨#[]⟩)]) := fun w => by kernel_rfl
theorem yZ73 : Zer Try.prog 73 (.agg #[(.int .i64 0), (.int .i64 0), (.int .i64 0), (.bool false), (.string ⟨#[]⟩), (.string ⟨#[]⟩), (.string ⟨#[]⟩), (.string ⟨#[]⟩), (.string ⟨#[]⟩), (.string ⟨#[]⟩), (.string ⟨#[]⟩), (.string ⟨#[]⟩), (.string ⟨#[]⟩), (.string ⟨#[]⟩), (.string ⟨#[]⟩), (.string ⟨#[]⟩), (.string ⟨#[]⟩), (.string ⟨#[]⟩), (.int .i64 0), (.int .i64 0), (.int .i64 0), (.int .i64 0), (.int .i64 0), (.int .i64 0), (.int .i64 0), (.int .i64 0)]) := fun w => by kernel_rfl
theorem yZ83 : Zer Try.prog 83 (.agg #[(.int .i64 0), (.int .i64 0), (.pointer none), (.slice none 0 0), (.slice none 0 0), (.map none), (.map none)]) := fun w => by kernel_rfl
theorem yZ90 : Zer Try.prog 90 (.agg #[(.int .i64 0), (.int .i64 0), (.int .i64 0), (.int .i64 0)]) := fun w => by kernel_rfl
theorem yZ111 : Zer Try.prog 111 (.agg #[(.int .i64 0), (.int .i64 0), (.int .i64 0), (.bool false), (.string ⟨#[]⟩), (.string ⟨#[]⟩), (.string ⟨#[]⟩), (.string ⟨#[]⟩), (.string ⟨#[]⟩), (.string ⟨#[]⟩), (.string ⟨#[]⟩), (.string ⟨#[]⟩), (.string ⟨#[]⟩), (.string ⟨#[]⟩), (.string ⟨#[]⟩), (.string ⟨#[]⟩), (.string ⟨#[]⟩), (.string ⟨#[]⟩), (.int .i64 0), (.int .i64 0), (.int .i64 0), (.int .i64 0), (.int .i64 0), (.int .i64 0), (.int .i64 0), (.int .i64 0), (.int .i64 0)]) := fun w => by kernel_rfl
theorem yZ116 : Zer Try.prog 116 (.agg #[(.slice none 0 0)]) := fun w => by kernel_rfl
theorem yZ151 : Zer Try.prog 151 (.agg #[(.string ⟨#[]⟩), (.string ⟨#[]⟩), (.string ⟨#[]⟩), (.string ⟨#[]⟩), (.string ⟨#[]⟩), (.string ⟨#[]⟩), (.string ⟨#[]⟩), (.string ⟨#[]⟩), (.string ⟨#[]⟩), (.string ⟨#[]⟩), (.string ⟨#[]⟩), (.string ⟨#[]⟩), (.string ⟨#[]⟩), (.string ⟨#[]⟩), (.string ⟨#[]⟩), (.string ⟨#[]⟩)]) := fun w => by kernel_rfl
theorem yZ152 : Zer Try.prog 152 (.agg #[(.int .i64 0), (.int .i64 0), (.int .i64 0), (.int .i64 0), (.int .i64 0), (.int .i64 0), (.int .i64 0), (.int .i64 0), (.int .i64 0)]) := fun w => by kernel_rfl
theorem yI3 : Inf Try.prog 3 (.int .i64 0) 1 8 := info_parts (by kernel_rfl)
theorem yI5 : Inf Try.prog 5 (.int .u8 0) 1 1 := info_parts (by kernel_rfl)
theorem yI9 : Inf Try.prog 9 (.string ⟨#[]⟩) 1 16 := info_parts (by kernel_rfl)
theorem yI63 : Inf Try.prog 63 (.slice none 0 0) 1 24 := info_parts (by kernel_rfl)
theorem yI69 : Inf Try.prog 69 (.agg #[(.string ⟨#[]⟩), (.string ⟨#[]⟩)]) 2 32 := info_parts (by kernel_rfl)
theorem yI111 : Inf Try.prog 111 (.agg #[(.int .i64 0), (.int .i64 0), (.int .i64 0), (.bool false), (.string ⟨#[]⟩), (.string ⟨#[]⟩), (.string ⟨#[]⟩), (.string ⟨#[]⟩), (.string ⟨#[]⟩), (.string ⟨#[]⟩), (.string ⟨#[]⟩), (.string ⟨#[]⟩), (.string ⟨#[]⟩), (.string ⟨#[]⟩), (.string ⟨#[]⟩), (.string ⟨#[]⟩), (.string ⟨#[]⟩), (.string ⟨#[]⟩), (.int .i64 0), (.int .i64 0), (.int .i64 0), (.int .i64 0), (.int .i64 0), (.int .i64 0), (.int .i64 0), (.int .i64 0), (.int .i64 0)]) 27 328 := info_parts (by kernel_rfl)
theorem en4 : Ens Try.prog 4 := enters_of Try.func4 (by kernel_rfl) rfl
theorem en5 : Ens Try.prog 5 := enters_of Try.func5 (by kernel_rfl) rfl
theorem en6 : Ens Try.prog 6 := enters_of Try.func6 (by kernel_rfl) rfl
theorem en7 : Ens Try.prog 7 := enters_of Try.func7 (by kernel_rfl) rfl
theorem en8 : Ens Try.prog 8 := enters_of Try.func8 (by kernel_rfl) rfl
theorem en9 : Ens Try.prog 9 := enters_of Try.func9 (by kernel_rfl) rfl
theorem en10 : Ens Try.prog 10 := enters_of Try.func10 (by kernel_rfl) rfl
theorem en11 : Ens Try.prog 11 := enters_of Try.func11 (by kernel_rfl) rfl
theorem en12 : Ens Try.prog 12 := enters_of Try.func12 (by kernel_rfl) rfl
theorem en13 : Ens Try.prog 13 := enters_of Try.func13 (by kernel_rfl) rfl
theorem en14 : Ens Try.prog 14 := enters_of Try.func14 (by kernel_rfl) rfl
theorem en15 : Ens Try.prog 15 := enters_of Try.func15 (by kernel_rfl) rfl
theorem en16 : Ens Try.prog 16 := enters_of Try.func16 (by kernel_rfl) rfl
theorem en17 : Ens Try.prog 17 := enters_of Try.func17 (by kernel_rfl) rfl
theorem en18 : Ens Try.prog 18 := enters_of Try.func18 (by kernel_rfl) rfl
theorem en19 : Ens Try.prog 19 := enters_of Try.func19 (by kernel_rfl) rfl
theorem en20 : Ens Try.prog 20 := enters_of Try.func20 (by kernel_rfl) rfl
theorem en21 : Ens Try.prog 21 := enters_of Try.func21 (by kernel_rfl) rfl
theorem en22 : Ens Try.prog 22 := enters_of Try.func22 (by kernel_rfl) rfl
theorem en23 : Ens Try.prog 23 := enters_of Try.func23 (by kernel_rfl) rfl
theorem en24 : Ens Try.prog 24 := enters_of Try.func24 (by kernel_rfl) rfl
theorem en25 : Ens Try.prog 25 := enters_of Try.func25 (by kernel_rfl) rfl
theorem en26 : Ens Try.prog 26 := enters_of Try.func26 (by kernel_rfl) rfl
theorem en27 : Ens Try.prog 27 := enters_of Try.func27 (by kernel_rfl) rfl
theorem en28 : Ens Try.prog 28 := enters_of Try.func28 (by kernel_rfl) rfl
theorem en29 : Ens Try.prog 29 := enters_of Try.func29 (by kernel_rfl) rfl
theorem en30 : Ens Try.prog 30 := enters_of Try.func30 (by kernel_rfl) rfl
theorem en31 : Ens Try.prog 31 := enters_of Try.func31 (by kernel_rfl) rfl
theorem en32 : Ens Try.prog 32 := enters_of Try.func32 (by kernel_rfl) rfl
theorem en33 : Ens Try.prog 33 := enters_of Try.func33 (by kernel_rfl) rfl
theorem en34 : Ens Try.prog 34 := enters_of Try.func34 (by kernel_rfl) rfl
theorem en35 : Ens Try.prog 35 := enters_of Try.func35 (by kernel_rfl) rfl
theorem en36 : Ens Try.prog 36 := enters_of Try.func36 (by kernel_rfl) rfl
theorem en37 : Ens Try.prog 37 := enters_of Try.func37 (by kernel_rfl) rfl
theorem en38 : Ens Try.prog 38 := enters_of Try.func38 (by kernel_rfl) rfl
theorem en39 : Ens Try.prog 39 := enters_of Try.func39 (by kernel_rfl) rfl
theorem en40 : Ens Try.prog 40 := enters_of Try.func40 (by kernel_rfl) rfl
theorem en41 : Ens Try.prog 41 := enters_of Try.func41 (by kernel_rfl) rfl
theorem en42 : Ens Try.prog 42 := enters_of Try.func42 (by kernel_rfl) rfl
theorem en43 : Ens Try.prog 43 := enters_of Try.func43 (by kernel_rfl) rfl
theorem en44 : Ens Try.prog 44 := enters_of Try.func44 (by kernel_rfl) rfl
theorem en45 : Ens Try.prog 45 := enters_of Try.func45 (by kernel_rfl) rfl
theorem en46 : Ens Try.prog 46 := enters_of Try.func46 (by kernel_rfl) rfl
theorem en47 : Ens Try.prog 47 := enters_of Try.func47 (by kernel_rfl) rfl
theorem en48 : Ens Try.prog 48 := enters_of Try.func48 (by kernel_rfl) rfl
theorem en49 : Ens Try.prog 49 := enters_of Try.func49 (by kernel_rfl) rfl
theorem en50 : Ens Try.prog 50 := enters_of Try.func50 (by kernel_rfl) rfl
theorem en51 : Ens Try.prog 51 := enters_of Try.func51 (by kernel_rfl) rfl
theorem en52 : Ens Try.prog 52 := enters_of Try.func52 (by kernel_rfl) rfl
theorem en53 : Ens Try.prog 53 := enters_of Try.func53 (by kernel_rfl) rfl
theorem en54 : Ens Try.prog 54 := enters_of Try.func54 (by kernel_rfl) rfl
theorem en55 : Ens Try.prog 55 := enters_of Try.func55 (by kernel_rfl) rfl
theorem en57 : Ens Try.prog 57 := enters_of Try.func57 (by kernel_rfl) rfl
theorem en59 : Ens Try.prog 59 := enters_of Try.func59 (by kernel_rfl) rfl
theorem en60 : Ens Try.prog 60 := enters_of Try.func60 (by kernel_rfl) rfl
theorem en61 : Ens Try.prog 61 := enters_of Try.func61 (by kernel_rfl) rfl
theorem en62 : Ens Try.prog 62 := enters_of Try.func62 (by kernel_rfl) rfl
theorem en63 : Ens Try.prog 63 := enters_of Try.func63 (by kernel_rfl) rfl
theorem en64 : Ens Try.prog 64 := enters_of Try.func64 (by kernel_rfl) rfl
theorem en65 : Ens Try.prog 65 := enters_of Try.func65 (by kernel_rfl) rfl
theorem en66 : Ens Try.prog 66 := enters_of Try.func66 (by kernel_rfl) rfl
theorem en69 : Ens Try.prog 69 := enters_of Try.func69 (by kernel_rfl) rfl
theorem en70 : Ens Try.prog 70 := enters_of Try.func70 (by kernel_rfl) rfl
theorem en71 : Ens Try.prog 71 := enters_of Try.func71 (by kernel_rfl) rfl
theorem en72 : Ens Try.prog 72 := enters_of Try.func72 (by kernel_rfl) rfl
theorem en73 : Ens Try.prog 73 := enters_of Try.func73 (by kernel_rfl) rfl
theorem en75 : Ens Try.prog 75 := enters_of Try.func75 (by kernel_rfl) rfl
theorem en82 : Ens Try.prog 82 := enters_of Try.func82 (by kernel_rfl) rfl
theorem en83 : Ens Try.prog 83 := enters_of Try.func83 (by kernel_rfl) rfl
theorem en84 : Ens Try.prog 84 := enters_of Try.func84 (by kernel_rfl) rfl
theorem en85 : Ens Try.prog 85 := enters_of Try.func85 (by kernel_rfl) rfl
theorem en86 : Ens Try.prog 86 := enters_of Try.func86 (by kernel_rfl) rfl
theorem en88 : Ens Try.prog 88 := enters_of Try.func88 (by kernel_rfl) rfl
theorem en89 : Ens Try.prog 89 := enters_of Try.func89 (by kernel_rfl) rfl
theorem en96 : Ens Try.prog 96 := enters_of Try.func96 (by kernel_rfl) rfl
end Go.Proofs.Ytjekhcojebgpnaa.Ty
