/- Closed facts on the types and the functions of this translation, each by the kernel. -/
import Derived.Test.YtgijnebgchkenaaGreatDoorProg
import Derived.Test.YtgijnebgchkenaaGreatDoorEngOps
import Derived.Test.YtgijnebgchkenaaGreatDoorEngMore
import Derived.Test.YtgijnebgchkenaaGreatDoorEngDraw
import Derived.Test.YtgijnebgchkenaaGreatDoorEngAb
import Derived.Test.YtgijnebgchkenaaGreatDoorEngMap
import Derived.Test.YtgijnebgchkenaaGreatDoorEngStr
import Derived.KernelRfl
import Derived.Shelf.Abstract
import Derived.RowKit3
import Derived.Laws.OwnMore
set_option linter.unusedVariables false
namespace Go.Proofs.YtgijnebgchkenaaGreatDoor.Ty
open Go.RowKit Go.Proofs
open Eng
theorem mixed : Tryz.prog.follows .mixedOrders = true := by kernel_rfl
abbrev yU3 := @Tryz.underlying3
abbrev yU4 := @Tryz.underlying4
abbrev yU5 := @Tryz.underlying5
abbrev yU9 := @Tryz.underlying9
abbrev yU22 := @Tryz.underlying22
abbrev yU23 := @Tryz.underlying23
abbrev yU30 := @Tryz.underlying30
abbrev yU32 := @Tryz.underlying32
abbrev yU34 := @Tryz.underlying34
abbrev yU47 := @Tryz.underlying47
abbrev yU52 := @Tryz.underlying52
abbrev yU54 := @Tryz.underlying54
abbrev yU63 := @Tryz.underlying63
abbrev yU70 := @Tryz.underlying70
abbrev yU72 := @Tryz.underlying72
abbrev yU74 := @Tryz.underlying74
abbrev yU76 := @Tryz.underlying76
abbrev yU87 := @Tryz.underlying87
abbrev yU125 := @Tryz.underlying125
abbrev yU126 := @Tryz.underlying126
abbrev yU128 := @Tryz.underlying128
abbrev yU131 := @Tryz.underlying131
abbrev yU133 := @Tryz.underlying133
abbrev yU143 := @Tryz.underlying143
abbrev yU152 := @Tryz.underlying152
abbrev yU158 := @Tryz.underlying158
abbrev yU189 := @Tryz.underlying189
abbrev yU191 := @Tryz.underlying191
abbrev yU218 := @Tryz.underlying218
abbrev yU222 := @Tryz.underlying222
abbrev yU226 := @Tryz.underlying226
abbrev yU229 := @Tryz.underlying229
abbrev yU231 := @Tryz.underlying231
abbrev yU236 := @Tryz.underlying236
abbrev yU238 := @Tryz.underlying238
abbrev yU239 := @Tryz.underlying239
abbrev yU243 := @Tryz.underlying243
theorem yA3 : Agg Tryz.prog 3 false := fun w => by kernel_rfl
theorem yA4 : Agg Tryz.prog 4 false := fun w => by kernel_rfl
theorem yA5 : Agg Tryz.prog 5 false := fun w => by kernel_rfl
theorem yA9 : Agg Tryz.prog 9 false := fun w => by kernel_rfl
theorem yA22 : Agg Tryz.prog 22 false := fun w => by kernel_rfl
theorem yA23 : Agg Tryz.prog 23 false := fun w => by kernel_rfl
theorem yA30 : Agg Tryz.prog 30 false := fun w => by kernel_rfl
theorem yA32 : Agg Tryz.prog 32 true := fun w => by kernel_rfl
theorem yA34 : Agg Tryz.prog 34 true := fun w => by kernel_rfl
theorem yA44 : Agg Tryz.prog 44 false := fun w => by kernel_rfl
theorem yA47 : Agg Tryz.prog 47 true := fun w => by kernel_rfl
theorem yA52 : Agg Tryz.prog 52 false := fun w => by kernel_rfl
theorem yA54 : Agg Tryz.prog 54 true := fun w => by kernel_rfl
theorem yA63 : Agg Tryz.prog 63 true := fun w => by kernel_rfl
theorem yA70 : Agg Tryz.prog 70 false := fun w => by kernel_rfl
theorem yA72 : Agg Tryz.prog 72 true := fun w => by kernel_rfl
theorem yA74 : Agg Tryz.prog 74 false := fun w => by kernel_rfl
theorem yA76 : Agg Tryz.prog 76 true := fun w => by kernel_rfl
theorem yA124 : Agg Tryz.prog 124 false := fun w => by kernel_rfl
theorem yA125 : Agg Tryz.prog 125 false := fun w => by kernel_rfl
theorem yA126 : Agg Tryz.prog 126 false := fun w => by kernel_rfl
theorem yA133 : Agg Tryz.prog 133 true := fun w => by kernel_rfl
theorem yA143 : Agg Tryz.prog 143 true := fun w => by kernel_rfl
theorem yA152 : Agg Tryz.prog 152 true := fun w => by kernel_rfl
theorem yA189 : Agg Tryz.prog 189 false := fun w => by kernel_rfl
theorem yA218 : Agg Tryz.prog 218 false := fun w => by kernel_rfl
theorem yG32 : Tryz.prog.eqGuardType Tryz.prog.depth 32 = false := by kernel_rfl
theorem yH32 : Tryz.prog.stoodInHeld 32 = false := by kernel_rfl
theorem yP32 : Pla Tryz.prog 32 [(0, 1), (1, 1), (2, 1), (3, 1), (4, 1), (5, 1), (6, 1), (7, 1), (8, 1)] := fun w => by kernel_rfl
theorem yP34 : Pla Tryz.prog 34 [(0, 1), (1, 9), (10, 1)] := fun w => by kernel_rfl
theorem yP47 : Pla Tryz.prog 47 [(0, 1), (1, 1), (2, 1), (3, 1), (4, 1), (5, 1), (6, 1), (7, 1)] := fun w => by kernel_rfl
theorem yP54 : Pla Tryz.prog 54 [(0, 1), (1, 1), (2, 1), (3, 1), (4, 1)] := fun w => by kernel_rfl
theorem yP63 : Pla Tryz.prog 63 [(0, 1), (1, 9), (10, 1)] := fun w => by kernel_rfl
theorem yP76 : Pla Tryz.prog 76 [(0, 1), (1, 1), (2, 11)] := fun w => by kernel_rfl
theorem yP128 : Pla Tryz.prog 128 [(0, 1), (1, 1), (2, 1), (3, 1), (4, 1), (5, 1), (6, 1)] := fun w => by kernel_rfl
theorem yP133 : Pla Tryz.prog 133 [(0, 1), (1, 1), (2, 1), (3, 1)] := fun w => by kernel_rfl
theorem yP143 : Pla Tryz.prog 143 [(0, 1)] := fun w => by kernel_rfl
theorem yP152 : Pla Tryz.prog 152 [(0, 1), (1, 1)] := fun w => by kernel_rfl
theorem yP191 : Pla Tryz.prog 191 [(0, 1)] := fun w => by kernel_rfl
theorem yP231 : Pla Tryz.prog 231 [(0, 1)] := fun w => by kernel_rfl
theorem yS3 : Siz Tryz.prog 3 1 := fun w => by kernel_rfl
theorem yS4 : Siz Tryz.prog 4 1 := fun w => by kernel_rfl
theorem yS5 : Siz Tryz.prog 5 1 := fun w => by kernel_rfl
theorem yS9 : Siz Tryz.prog 9 1 := fun w => by kernel_rfl
theorem yS22 : Siz Tryz.prog 22 1 := fun w => by kernel_rfl
theorem yS23 : Siz Tryz.prog 23 1 := fun w => by kernel_rfl
theorem yS30 : Siz Tryz.prog 30 1 := fun w => by kernel_rfl
theorem yS32 : Siz Tryz.prog 32 9 := fun w => by kernel_rfl
theorem yS34 : Siz Tryz.prog 34 11 := fun w => by kernel_rfl
theorem yS44 : Siz Tryz.prog 44 1 := fun w => by kernel_rfl
theorem yS47 : Siz Tryz.prog 47 8 := fun w => by kernel_rfl
theorem yS52 : Siz Tryz.prog 52 1 := fun w => by kernel_rfl
theorem yS54 : Siz Tryz.prog 54 5 := fun w => by kernel_rfl
theorem yS63 : Siz Tryz.prog 63 11 := fun w => by kernel_rfl
theorem yS70 : Siz Tryz.prog 70 1 := fun w => by kernel_rfl
theorem yS72 : Siz Tryz.prog 72 5 := fun w => by kernel_rfl
theorem yS74 : Siz Tryz.prog 74 1 := fun w => by kernel_rfl
theorem yS76 : Siz Tryz.prog 76 13 := fun w => by kernel_rfl
theorem yS124 : Siz Tryz.prog 124 1 := fun w => by kernel_rfl
theorem yS125 : Siz Tryz.prog 125 1 := fun w => by kernel_rfl
theorem yS126 : Siz Tryz.prog 126 1 := fun w => by kernel_rfl
theorem yS128 : Siz Tryz.prog 128 7 := fun w => by kernel_rfl
theorem yS133 : Siz Tryz.prog 133 4 := fun w => by kernel_rfl
theorem yS143 : Siz Tryz.prog 143 1 := fun w => by kernel_rfl
theorem yS152 : Siz Tryz.prog 152 2 := fun w => by kernel_rfl
theorem yS158 : Siz Tryz.prog 158 3 := fun w => by kernel_rfl
theorem yS164 : Siz Tryz.prog 164 22 := fun w => by kernel_rfl
theorem yS189 : Siz Tryz.prog 189 1 := fun w => by kernel_rfl
theorem yS218 : Siz Tryz.prog 218 1 := fun w => by kernel_rfl
theorem yZ3 : Zer Tryz.prog 3 (.int .i64 0) := fun w => by kernel_rfl
theorem yZ5 : Zer Tryz.prog 5 (.int .u8 0) := fun w => by kernel_rfl
theorem yZ9 : Zer Tryz.prog 9 (.string ⟨#[]⟩) := fun w => by kernel_rfl
theorem yZ22 : Zer Tryz.prog 22 (.slice none 0 0) := fun w => by kernel_rfl
theorem yZ32 : Zer Tryz.prog 32 (.agg #[(.int .i64 0), (.int .i64 0), (.int .i64 0), (.int .i64 0), (.int .i64 0), (.int .i64 0), (.int .i64 0), (.int .i64 0), (.int .i64 0)]) := fun w => by kernel_rfl
theorem yZ34 : Zer Tryz.prog 34 (.agg #[(.pointer none), (.int .i64 0), (.int .i64 0), (.int .i64 0), (.int .i64 0), (.int .i64 0), (.int .i64 0), (.int .i64 0), (.int .i64 0), (.int .i64 0), (.int .i64 0)]) := fun w => by kernel_rfl
theorem yZ44 : Zer Tryz.prog 44 (.int .i64 0) := fun w => by kernel_rfl
theorem yZ47 : Zer Tryz.prog 47 (.agg #[(.int .i64 0), (.int .i64 0), (.int .i64 0), (.int .i64 0), (.int .i64 0), (.int .i64 0), (.bool false), (.int .i64 0)]) := fun w => by kernel_rfl
theorem yZ52 : Zer Tryz.prog 52 (.int .u64 0) := fun w => by kernel_rfl
theorem yZ54 : Zer Tryz.prog 54 (.agg #[(.int .i64 0), (.int .i64 0), (.string ⟨#[]⟩), (.string ⟨#[]⟩), (.int .i64 0)]) := fun w => by kernel_rfl
theorem yZ63 : Zer Tryz.prog 63 (.agg #[(.pointer none), (.int .i64 0), (.int .i64 0), (.int .i64 0), (.int .i64 0), (.int .i64 0), (.int .i64 0), (.int .i64 0), (.int .i64 0), (.int .i64 0), (.int .i64 0)]) := fun w => by kernel_rfl
theorem yZ76 : Zer Tryz.prog 76 (.agg #[(.pointer none), (.pointer none), (.pointer none), (.int .i64 0), (.int .i64 0), (.int .i64 0), (.int .i64 0), (.int .i64 0), (.int .i64 0), (.int .i64 0), (.int .i64 0), (.int .i64 0), (.int .i64 0)]) := fun w => by kernel_rfl
theorem yZ128 : Zer Tryz.prog 128 (.agg #[(.int .i64 0), (.int .i64 0), (.pointer none), (.slice none 0 0), (.slice none 0 0), (.map none), (.map none)]) := fun w => by kernel_rfl
theorem yZ131 : Zer Tryz.prog 131 (.agg #[(.int .i64 0), (.int .i64 0), (.int .i64 0), (.int .i64 0), (.int .i64 0), (.int .i64 0), (.int .i64 0), (.int .i64 0)]) := fun w => by kernel_rfl
theorem yZ133 : Zer Tryz.prog 133 (.agg #[(.int .i64 0), (.int .i64 0), (.bool false), (.int .i64 0)]) := fun w => by kernel_rfl
theorem yZ143 : Zer Tryz.prog 143 (.agg #[(.int .u64 0)]) := fun w => by kernel_rfl
theorem yZ152 : Zer Tryz.prog 152 (.agg #[(.string ⟨#[]⟩), (.int .u64 0)]) := fun w => by kernel_rfl
theorem yZ164 : Zer Tryz.prog 164 (.agg #[(.pointer none), (.int .i64 0), (.int .i64 0), (.int .i64 0), (.int .i64 0), (.int .i64 0), (.int .i64 0), (.int .i64 0), (.int .i64 0), (.int .i64 0), (.int .i64 0), (.pointer none), (.int .i64 0), (.int .i64 0), (.int .i64 0), (.int .i64 0), (.int .i64 0), (.int .i64 0), (.int .i64 0), (.int .i64 0), (.int .i64 0), (.int .i64 0)]) := fun w => by kernel_rfl
theorem yZ191 : Zer Tryz.prog 191 (.agg #[(.map none)]) := fun w => by kernel_rfl
theorem yZ218 : Zer Tryz.prog 218 (.slice none 0 0) := fun w => by kernel_rfl
theorem yZ231 : Zer Tryz.prog 231 (.agg #[(.slice none 0 0)]) := fun w => by kernel_rfl
theorem yI3 : Inf Tryz.prog 3 (.int .i64 0) 1 8 := info_parts (by kernel_rfl)
theorem yI5 : Inf Tryz.prog 5 (.int .u8 0) 1 1 := info_parts (by kernel_rfl)
theorem yI54 : Inf Tryz.prog 54 (.agg #[(.int .i64 0), (.int .i64 0), (.string ⟨#[]⟩), (.string ⟨#[]⟩), (.int .i64 0)]) 5 56 := info_parts (by kernel_rfl)
theorem yI152 : Inf Tryz.prog 152 (.agg #[(.string ⟨#[]⟩), (.int .u64 0)]) 2 24 := info_parts (by kernel_rfl)
theorem yI218 : Inf Tryz.prog 218 (.slice none 0 0) 1 24 := info_parts (by kernel_rfl)
theorem en4 : Ens Tryz.prog 4 := enters_of Tryz.func4 (by kernel_rfl) rfl
theorem en9 : Ens Tryz.prog 9 := enters_of Tryz.func9 (by kernel_rfl) rfl
theorem en10 : Ens Tryz.prog 10 := enters_of Tryz.func10 (by kernel_rfl) rfl
theorem en12 : Ens Tryz.prog 12 := enters_of Tryz.func12 (by kernel_rfl) rfl
theorem en14 : Ens Tryz.prog 14 := enters_of Tryz.func14 (by kernel_rfl) rfl
theorem en15 : Ens Tryz.prog 15 := enters_of Tryz.func15 (by kernel_rfl) rfl
theorem en16 : Ens Tryz.prog 16 := enters_of Tryz.func16 (by kernel_rfl) rfl
theorem en18 : Ens Tryz.prog 18 := enters_of Tryz.func18 (by kernel_rfl) rfl
theorem en19 : Ens Tryz.prog 19 := enters_of Tryz.func19 (by kernel_rfl) rfl
theorem en20 : Ens Tryz.prog 20 := enters_of Tryz.func20 (by kernel_rfl) rfl
theorem en27 : Ens Tryz.prog 27 := enters_of Tryz.func27 (by kernel_rfl) rfl
theorem en28 : Ens Tryz.prog 28 := enters_of Tryz.func28 (by kernel_rfl) rfl
theorem en29 : Ens Tryz.prog 29 := enters_of Tryz.func29 (by kernel_rfl) rfl
theorem en30 : Ens Tryz.prog 30 := enters_of Tryz.func30 (by kernel_rfl) rfl
theorem en31 : Ens Tryz.prog 31 := enters_of Tryz.func31 (by kernel_rfl) rfl
theorem en32 : Ens Tryz.prog 32 := enters_of Tryz.func32 (by kernel_rfl) rfl
theorem en33 : Ens Tryz.prog 33 := enters_of Tryz.func33 (by kernel_rfl) rfl
theorem en34 : Ens Tryz.prog 34 := enters_of Tryz.func34 (by kernel_rfl) rfl
theorem en35 : Ens Tryz.prog 35 := enters_of Tryz.func35 (by kernel_rfl) rfl
theorem en36 : Ens Tryz.prog 36 := enters_of Tryz.func36 (by kernel_rfl) rfl
theorem en37 : Ens Tryz.prog 37 := enters_of Tryz.func37 (by kernel_rfl) rfl
theorem en46 : Ens Tryz.prog 46 := enters_of Tryz.func46 (by kernel_rfl) rfl
theorem en51 : Ens Tryz.prog 51 := enters_of Tryz.func51 (by kernel_rfl) rfl
theorem en54 : Ens Tryz.prog 54 := enters_of Tryz.func54 (by kernel_rfl) rfl
theorem en55 : Ens Tryz.prog 55 := enters_of Tryz.func55 (by kernel_rfl) rfl
theorem en56 : Ens Tryz.prog 56 := enters_of Tryz.func56 (by kernel_rfl) rfl
theorem en60 : Ens Tryz.prog 60 := enters_of Tryz.func60 (by kernel_rfl) rfl
theorem en61 : Ens Tryz.prog 61 := enters_of Tryz.func61 (by kernel_rfl) rfl
theorem en62 : Ens Tryz.prog 62 := enters_of Tryz.func62 (by kernel_rfl) rfl
theorem en63 : Ens Tryz.prog 63 := enters_of Tryz.func63 (by kernel_rfl) rfl
theorem en64 : Ens Tryz.prog 64 := enters_of Tryz.func64 (by kernel_rfl) rfl
theorem en65 : Ens Tryz.prog 65 := enters_of Tryz.func65 (by kernel_rfl) rfl
theorem en66 : Ens Tryz.prog 66 := enters_of Tryz.func66 (by kernel_rfl) rfl
theorem en67 : Ens Tryz.prog 67 := enters_of Tryz.func67 (by kernel_rfl) rfl
theorem en68 : Ens Tryz.prog 68 := enters_of Tryz.func68 (by kernel_rfl) rfl
theorem en69 : Ens Tryz.prog 69 := enters_of Tryz.func69 (by kernel_rfl) rfl
theorem en70 : Ens Tryz.prog 70 := enters_of Tryz.func70 (by kernel_rfl) rfl
theorem en71 : Ens Tryz.prog 71 := enters_of Tryz.func71 (by kernel_rfl) rfl
theorem en72 : Ens Tryz.prog 72 := enters_of Tryz.func72 (by kernel_rfl) rfl
theorem en73 : Ens Tryz.prog 73 := enters_of Tryz.func73 (by kernel_rfl) rfl
theorem en74 : Ens Tryz.prog 74 := enters_of Tryz.func74 (by kernel_rfl) rfl
theorem en75 : Ens Tryz.prog 75 := enters_of Tryz.func75 (by kernel_rfl) rfl
theorem en76 : Ens Tryz.prog 76 := enters_of Tryz.func76 (by kernel_rfl) rfl
theorem en77 : Ens Tryz.prog 77 := enters_of Tryz.func77 (by kernel_rfl) rfl
theorem en78 : Ens Tryz.prog 78 := enters_of Tryz.func78 (by kernel_rfl) rfl
theorem en79 : Ens Tryz.prog 79 := enters_of Tryz.func79 (by kernel_rfl) rfl
theorem en80 : Ens Tryz.prog 80 := enters_of Tryz.func80 (by kernel_rfl) rfl
theorem en81 : Ens Tryz.prog 81 := enters_of Tryz.func81 (by kernel_rfl) rfl
theorem en82 : Ens Tryz.prog 82 := enters_of Tryz.func82 (by kernel_rfl) rfl
theorem en83 : Ens Tryz.prog 83 := enters_of Tryz.func83 (by kernel_rfl) rfl
theorem en84 : Ens Tryz.prog 84 := enters_of Tryz.func84 (by kernel_rfl) rfl
theorem en85 : Ens Tryz.prog 85 := enters_of Tryz.func85 (by kernel_rfl) rfl
theorem en86 : Ens Tryz.prog 86 := enters_of Tryz.func86 (by kernel_rfl) rfl
theorem en87 : Ens Tryz.prog 87 := enters_of Tryz.func87 (by kernel_rfl) rfl
theorem en88 : Ens Tryz.prog 88 := enters_of Tryz.func88 (by kernel_rfl) rfl
theorem en100 : Ens Tryz.prog 100 := enters_of Tryz.func100 (by kernel_rfl) rfl
theorem en101 : Ens Tryz.prog 101 := enters_of Tryz.func101 (by kernel_rfl) rfl
theorem en106 : Ens Tryz.prog 106 := enters_of Tryz.func106 (by kernel_rfl) rfl
theorem en107 : Ens Tryz.prog 107 := enters_of Tryz.func107 (by kernel_rfl) rfl
theorem en108 : Ens Tryz.prog 108 := enters_of Tryz.func108 (by kernel_rfl) rfl
theorem en110 : Ens Tryz.prog 110 := enters_of Tryz.func110 (by kernel_rfl) rfl
theorem en111 : Ens Tryz.prog 111 := enters_of Tryz.func111 (by kernel_rfl) rfl
theorem en112 : Ens Tryz.prog 112 := enters_of Tryz.func112 (by kernel_rfl) rfl
theorem en113 : Ens Tryz.prog 113 := enters_of Tryz.func113 (by kernel_rfl) rfl
theorem en117 : Ens Tryz.prog 117 := enters_of Tryz.func117 (by kernel_rfl) rfl
theorem en118 : Ens Tryz.prog 118 := enters_of Tryz.func118 (by kernel_rfl) rfl
theorem en119 : Ens Tryz.prog 119 := enters_of Tryz.func119 (by kernel_rfl) rfl
theorem en120 : Ens Tryz.prog 120 := enters_of Tryz.func120 (by kernel_rfl) rfl
theorem en121 : Ens Tryz.prog 121 := enters_of Tryz.func121 (by kernel_rfl) rfl
theorem en122 : Ens Tryz.prog 122 := enters_of Tryz.func122 (by kernel_rfl) rfl
theorem en123 : Ens Tryz.prog 123 := enters_of Tryz.func123 (by kernel_rfl) rfl
theorem en124 : Ens Tryz.prog 124 := enters_of Tryz.func124 (by kernel_rfl) rfl
theorem en125 : Ens Tryz.prog 125 := enters_of Tryz.func125 (by kernel_rfl) rfl
theorem en126 : Ens Tryz.prog 126 := enters_of Tryz.func126 (by kernel_rfl) rfl
theorem en127 : Ens Tryz.prog 127 := enters_of Tryz.func127 (by kernel_rfl) rfl
theorem en128 : Ens Tryz.prog 128 := enters_of Tryz.func128 (by kernel_rfl) rfl
theorem en129 : Ens Tryz.prog 129 := enters_of Tryz.func129 (by kernel_rfl) rfl
theorem en130 : Ens Tryz.prog 130 := enters_of Tryz.func130 (by kernel_rfl) rfl
theorem en131 : Ens Tryz.prog 131 := enters_of Tryz.func131 (by kernel_rfl) rfl
theorem en132 : Ens Tryz.prog 132 := enters_of Tryz.func132 (by kernel_rfl) rfl
theorem en133 : Ens Tryz.prog 133 := enters_of Tryz.func133 (by kernel_rfl) rfl
theorem en134 : Ens Tryz.prog 134 := enters_of Tryz.func134 (by kernel_rfl) rfl
theorem en135 : Ens Tryz.prog 135 := enters_of Tryz.func135 (by kernel_rfl) rfl
theorem en136 : Ens Tryz.prog 136 := enters_of Tryz.func136 (by kernel_rfl) rfl
theorem en137 : Ens Tryz.prog 137 := enters_of Tryz.func137 (by kernel_rfl) rfl
theorem en138 : Ens Tryz.prog 138 := enters_of Tryz.func138 (by kernel_rfl) rfl
theorem en139 : Ens Tryz.prog 139 := enters_of Tryz.func139 (by kernel_rfl) rfl
theorem en140 : Ens Tryz.prog 140 := enters_of Tryz.func140 (by kernel_rfl) rfl
theorem en141 : Ens Tryz.prog 141 := enters_of Tryz.func141 (by kernel_rfl) rfl
theorem en142 : Ens Tryz.prog 142 := enters_of Tryz.func142 (by kernel_rfl) rfl
theorem en143 : Ens Tryz.prog 143 := enters_of Tryz.func143 (by kernel_rfl) rfl
theorem en144 : Ens Tryz.prog 144 := enters_of Tryz.func144 (by kernel_rfl) rfl
theorem en145 : Ens Tryz.prog 145 := enters_of Tryz.func145 (by kernel_rfl) rfl
theorem en146 : Ens Tryz.prog 146 := enters_of Tryz.func146 (by kernel_rfl) rfl
theorem en147 : Ens Tryz.prog 147 := enters_of Tryz.func147 (by kernel_rfl) rfl
theorem en148 : Ens Tryz.prog 148 := enters_of Tryz.func148 (by kernel_rfl) rfl
theorem en152 : Ens Tryz.prog 152 := enters_of Tryz.func152 (by kernel_rfl) rfl
theorem en154 : Ens Tryz.prog 154 := enters_of Tryz.func154 (by kernel_rfl) rfl
theorem en156 : Ens Tryz.prog 156 := enters_of Tryz.func156 (by kernel_rfl) rfl
theorem en157 : Ens Tryz.prog 157 := enters_of Tryz.func157 (by kernel_rfl) rfl
theorem en158 : Ens Tryz.prog 158 := enters_of Tryz.func158 (by kernel_rfl) rfl
theorem en161 : Ens Tryz.prog 161 := enters_of Tryz.func161 (by kernel_rfl) rfl
theorem en162 : Ens Tryz.prog 162 := enters_of Tryz.func162 (by kernel_rfl) rfl
theorem en163 : Ens Tryz.prog 163 := enters_of Tryz.func163 (by kernel_rfl) rfl
theorem en164 : Ens Tryz.prog 164 := enters_of Tryz.func164 (by kernel_rfl) rfl
theorem en165 : Ens Tryz.prog 165 := enters_of Tryz.func165 (by kernel_rfl) rfl
theorem en166 : Ens Tryz.prog 166 := enters_of Tryz.func166 (by kernel_rfl) rfl
theorem en167 : Ens Tryz.prog 167 := enters_of Tryz.func167 (by kernel_rfl) rfl
theorem en168 : Ens Tryz.prog 168 := enters_of Tryz.func168 (by kernel_rfl) rfl
theorem en169 : Ens Tryz.prog 169 := enters_of Tryz.func169 (by kernel_rfl) rfl
theorem en170 : Ens Tryz.prog 170 := enters_of Tryz.func170 (by kernel_rfl) rfl
theorem en171 : Ens Tryz.prog 171 := enters_of Tryz.func171 (by kernel_rfl) rfl
theorem en172 : Ens Tryz.prog 172 := enters_of Tryz.func172 (by kernel_rfl) rfl
theorem en173 : Ens Tryz.prog 173 := enters_of Tryz.func173 (by kernel_rfl) rfl
theorem en174 : Ens Tryz.prog 174 := enters_of Tryz.func174 (by kernel_rfl) rfl
theorem en177 : Ens Tryz.prog 177 := enters_of Tryz.func177 (by kernel_rfl) rfl
theorem en179 : Ens Tryz.prog 179 := enters_of Tryz.func179 (by kernel_rfl) rfl
theorem en180 : Ens Tryz.prog 180 := enters_of Tryz.func180 (by kernel_rfl) rfl
end Go.Proofs.YtgijnebgchkenaaGreatDoor.Ty
