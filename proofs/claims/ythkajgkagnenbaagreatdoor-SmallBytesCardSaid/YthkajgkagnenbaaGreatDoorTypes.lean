import Derived.Test.YthkajgkagnenbaaGreatDoorProg
import Derived.Test.YthkajgkagnenbaaGreatDoorEngMap
import Derived.Test.YthkajgkagnenbaaGreatDoorEngStr
import Derived.KernelRfl
import Derived.Shelf.Abstract
import Derived.RowKit3
import Derived.Laws.OwnMore
set_option linter.unusedVariables false
set_option linter.unusedSimpArgs false
set_option linter.unusedSectionVars false
namespace Go.Proofs.YthkajgkagnenbaaGreatDoor
namespace Ty
open Go.RowKit Go.Proofs
open Eng
theorem mixed:Tryz.prog.follows .mixedOrders=true:=by kernel_rfl
abbrev yU3:=@Tryz.underlying3
abbrev yU4:=@Tryz.underlying4
abbrev yU5:=@Tryz.underlying5
abbrev yU9:=@Tryz.underlying9
abbrev bn:=@Tryz.underlying22
abbrev fF:=@Tryz.underlying27
abbrev Bm:=@Tryz.underlying31
abbrev bK:=@Tryz.underlying34
abbrev pG:=@Tryz.underlying39
abbrev g9:=@Tryz.underlying43
abbrev ep:=@Tryz.underlying45
abbrev lM:=@Tryz.underlying49
abbrev iS:=@Tryz.underlying51
abbrev jS:=@Tryz.underlying52
abbrev nN:=@Tryz.underlying54
abbrev Ek:=@Tryz.underlying55
abbrev dD:=@Tryz.underlying60
abbrev Bl:=@Tryz.underlying63
abbrev mV:=@Tryz.underlying65
abbrev Bj:=@Tryz.underlying66
abbrev di:=@Tryz.underlying68
abbrev gP:=@Tryz.underlying70
abbrev c9:=@Tryz.underlying73
abbrev cL:=@Tryz.underlying75
abbrev yz:=@Tryz.underlying113
abbrev CM:=@Tryz.underlying114
abbrev cV:=@Tryz.underlying116
abbrev ck:=@Tryz.underlying117
abbrev ly:=@Tryz.underlying119
abbrev jY:=@Tryz.underlying134
abbrev cQ:=@Tryz.underlying142
abbrev nB:=@Tryz.underlying147
abbrev bp:=@Tryz.underlying182
abbrev ff:=@Tryz.underlying189
abbrev vJ:=@Tryz.underlying190
abbrev yx:=@Tryz.underlying192
abbrev pT:=@Tryz.underlying195
abbrev nA:=@Tryz.underlying211
abbrev eB:=@Tryz.underlying224
abbrev CL:=@Tryz.underlying233
abbrev ma:=@Tryz.underlying243
abbrev ob:=@Tryz.underlying247
abbrev sA:=@Tryz.underlying258
abbrev vI:=@Tryz.underlying259
abbrev Em:=@Tryz.underlying284
abbrev lx:=@Tryz.underlying288
abbrev pS:=@Tryz.underlying289
abbrev oa:=@Tryz.underlying290
abbrev yw:=@Tryz.underlying294
abbrev iD:=@Tryz.underlying295
abbrev El:=@Tryz.underlying304
theorem yA3:Agg Tryz.prog 3 false:=fun w=>by kernel_rfl
theorem yA4:Agg Tryz.prog 4 false:=fun w=>by kernel_rfl
theorem yA5:Agg Tryz.prog 5 false:=fun w=>by kernel_rfl
theorem yA9:Agg Tryz.prog 9 false:=fun w=>by kernel_rfl
theorem ux:Agg Tryz.prog 22 false:=fun w=>by kernel_rfl
theorem j4:Agg Tryz.prog 27 false:=fun w=>by kernel_rfl
theorem du:Agg Tryz.prog 31 false:=fun w=>by kernel_rfl
theorem rh:Agg Tryz.prog 32 false:=fun w=>by kernel_rfl
theorem cu:Agg Tryz.prog 34 true:=fun w=>by kernel_rfl
theorem gm:Agg Tryz.prog 39 true:=fun w=>by kernel_rfl
theorem Hg:Agg Tryz.prog 40 false:=fun w=>by kernel_rfl
theorem gR:Agg Tryz.prog 43 false:=fun w=>by kernel_rfl
theorem j0:Agg Tryz.prog 49 false:=fun w=>by kernel_rfl
theorem oe:Agg Tryz.prog 52 false:=fun w=>by kernel_rfl
theorem Hf:Agg Tryz.prog 54 true:=fun w=>by kernel_rfl
theorem Br:Agg Tryz.prog 60 true:=fun w=>by kernel_rfl
theorem yH:Agg Tryz.prog 63 false:=fun w=>by kernel_rfl
theorem Bq:Agg Tryz.prog 64 false:=fun w=>by kernel_rfl
theorem nO:Agg Tryz.prog 65 false:=fun w=>by kernel_rfl
theorem Dk:Agg Tryz.prog 66 false:=fun w=>by kernel_rfl
theorem cd:Agg Tryz.prog 70 true:=fun w=>by kernel_rfl
theorem ee:Agg Tryz.prog 71 false:=fun w=>by kernel_rfl
theorem yG:Agg Tryz.prog 73 true:=fun w=>by kernel_rfl
theorem pH:Agg Tryz.prog 77 false:=fun w=>by kernel_rfl
theorem mg:Agg Tryz.prog 112 false:=fun w=>by kernel_rfl
theorem pW:Agg Tryz.prog 113 false:=fun w=>by kernel_rfl
theorem mf:Agg Tryz.prog 114 false:=fun w=>by kernel_rfl
theorem eE:Agg Tryz.prog 117 false:=fun w=>by kernel_rfl
theorem CQ:Agg Tryz.prog 134 true:=fun w=>by kernel_rfl
theorem dh:Agg Tryz.prog 142 true:=fun w=>by kernel_rfl
theorem me:Agg Tryz.prog 147 true:=fun w=>by kernel_rfl
theorem df:Agg Tryz.prog 182 true:=fun w=>by kernel_rfl
theorem yI:Agg Tryz.prog 190 false:=fun w=>by kernel_rfl
theorem fR:Agg Tryz.prog 211 true:=fun w=>by kernel_rfl
theorem pV:Agg Tryz.prog 224 true:=fun w=>by kernel_rfl
theorem lB:Agg Tryz.prog 247 true:=fun w=>by kernel_rfl
theorem EG:Agg Tryz.prog 284 true:=fun w=>by kernel_rfl
theorem dy:Agg Tryz.prog 295 true:=fun w=>by kernel_rfl
theorem EF:Tryz.prog.eqGuardType Tryz.prog.depth 34=false:=by kernel_rfl
theorem ED:Tryz.prog.stoodInHeld 34=false:=by kernel_rfl
theorem yF:Tryz.prog.eqGuardType Tryz.prog.depth 142=false:=by kernel_rfl
theorem yE:Tryz.prog.stoodInHeld 142=false:=by kernel_rfl
theorem CP:Tryz.prog.eqGuardType Tryz.prog.depth 211=false:=by kernel_rfl
theorem CO:Tryz.prog.stoodInHeld 211=false:=by kernel_rfl
theorem jw:Pla Tryz.prog 34 [(0,1),(1,1),(2,1),(3,1),(4,1),(5,1),(6,1),(7,1),(8,1)]:=fun w=>by kernel_rfl
theorem yB:Pla Tryz.prog 39 [(0,1),(1,9),(10,1)]:=fun w=>by kernel_rfl
theorem Ep:Pla Tryz.prog 45 [(0,1),(1,9),(10,1),(11,1),(12,1),(13,1),(14,1),(15,1),(16,1),(17,1),(18,1),(19,1)]:=fun w=>by kernel_rfl
theorem He:Pla Tryz.prog 51 [(0,1),(1,1),(2,1)]:=fun w=>by kernel_rfl
theorem Bp:Pla Tryz.prog 68 [(0,1),(1,1),(2,1),(3,1),(4,9),(13,1),(14,1)]:=fun w=>by kernel_rfl
theorem Dj:Pla Tryz.prog 70 [(0,1),(1,9),(10,1)]:=fun w=>by kernel_rfl
theorem Eo:Pla Tryz.prog 73 [(0,11),(11,1),(12,1)]:=fun w=>by kernel_rfl
theorem Hc:Pla Tryz.prog 75 [(0,1),(1,9),(10,1),(11,1),(12,1),(13,1),(14,1),(15,1),(16,1)]:=fun w=>by kernel_rfl
theorem Ez:Pla Tryz.prog 116 [(0,1),(1,1),(2,1),(3,1),(4,1),(5,1),(6,1)]:=fun w=>by kernel_rfl
theorem Ey:Pla Tryz.prog 119 [(0,1),(1,1),(2,1)]:=fun w=>by kernel_rfl
theorem gl:Pla Tryz.prog 142 [(0,1),(1,1),(2,1),(3,1),(4,1)]:=fun w=>by kernel_rfl
theorem Ew:Pla Tryz.prog 147 [(0,1),(1,1),(2,1),(3,1),(4,1),(5,1),(6,1),(7,1)]:=fun w=>by kernel_rfl
theorem Ev:Pla Tryz.prog 182 [(0,1),(1,9),(10,1)]:=fun w=>by kernel_rfl
theorem Eu:Pla Tryz.prog 189 [(0,1)]:=fun w=>by kernel_rfl
theorem Et:Pla Tryz.prog 192 [(0,1)]:=fun w=>by kernel_rfl
theorem Es:Pla Tryz.prog 195 [(0,1)]:=fun w=>by kernel_rfl
theorem vL:Pla Tryz.prog 211 [(0,1),(1,1),(2,1),(3,1)]:=fun w=>by kernel_rfl
theorem Er:Pla Tryz.prog 224 [(0,1),(1,1),(2,1),(3,1)]:=fun w=>by kernel_rfl
theorem vK:Pla Tryz.prog 247 [(0,1)]:=fun w=>by kernel_rfl
theorem yS3:Siz Tryz.prog 3 1:=fun w=>by kernel_rfl
theorem yS4:Siz Tryz.prog 4 1:=fun w=>by kernel_rfl
theorem yS5:Siz Tryz.prog 5 1:=fun w=>by kernel_rfl
theorem yS9:Siz Tryz.prog 9 1:=fun w=>by kernel_rfl
theorem od:Siz Tryz.prog 22 1:=fun w=>by kernel_rfl
theorem oc:Siz Tryz.prog 27 1:=fun w=>by kernel_rfl
theorem dt:Siz Tryz.prog 31 1:=fun w=>by kernel_rfl
theorem rf:Siz Tryz.prog 32 1:=fun w=>by kernel_rfl
theorem aX:Siz Tryz.prog 34 9:=fun w=>by kernel_rfl
theorem er:Siz Tryz.prog 39 11:=fun w=>by kernel_rfl
theorem Di:Siz Tryz.prog 40 1:=fun w=>by kernel_rfl
theorem gQ:Siz Tryz.prog 43 1:=fun w=>by kernel_rfl
theorem jv:Siz Tryz.prog 49 1:=fun w=>by kernel_rfl
theorem mX:Siz Tryz.prog 52 1:=fun w=>by kernel_rfl
theorem Hb:Siz Tryz.prog 54 3:=fun w=>by kernel_rfl
theorem wU:Siz Tryz.prog 60 7:=fun w=>by kernel_rfl
theorem Bo:Siz Tryz.prog 63 1:=fun w=>by kernel_rfl
theorem Bn:Siz Tryz.prog 64 1:=fun w=>by kernel_rfl
theorem lq:Siz Tryz.prog 65 1:=fun w=>by kernel_rfl
theorem uw:Siz Tryz.prog 66 1:=fun w=>by kernel_rfl
theorem bM:Siz Tryz.prog 70 11:=fun w=>by kernel_rfl
theorem eZ:Siz Tryz.prog 71 1:=fun w=>by kernel_rfl
theorem mW:Siz Tryz.prog 73 13:=fun w=>by kernel_rfl
theorem jT:Siz Tryz.prog 77 1:=fun w=>by kernel_rfl
theorem mc:Siz Tryz.prog 112 1:=fun w=>by kernel_rfl
theorem pU:Siz Tryz.prog 113 1:=fun w=>by kernel_rfl
theorem mb:Siz Tryz.prog 114 1:=fun w=>by kernel_rfl
theorem dG:Siz Tryz.prog 117 1:=fun w=>by kernel_rfl
theorem jZ:Siz Tryz.prog 119 3:=fun w=>by kernel_rfl
theorem iF:Siz Tryz.prog 134 2:=fun w=>by kernel_rfl
theorem bx:Siz Tryz.prog 142 5:=fun w=>by kernel_rfl
theorem iE:Siz Tryz.prog 147 8:=fun w=>by kernel_rfl
theorem cT:Siz Tryz.prog 182 11:=fun w=>by kernel_rfl
theorem yA:Siz Tryz.prog 190 1:=fun w=>by kernel_rfl
theorem bP:Siz Tryz.prog 211 4:=fun w=>by kernel_rfl
theorem lA:Siz Tryz.prog 224 4:=fun w=>by kernel_rfl
theorem fI:Siz Tryz.prog 247 1:=fun w=>by kernel_rfl
theorem En:Siz Tryz.prog 284 40:=fun w=>by kernel_rfl
theorem cB:Siz Tryz.prog 295 4:=fun w=>by kernel_rfl
theorem yZ3:Zer Tryz.prog 3 (.int .i64 0):=fun w=>by kernel_rfl
theorem yZ4:Zer Tryz.prog 4 (.bool false):=fun w=>by kernel_rfl
theorem yZ5:Zer Tryz.prog 5 (.int .u8 0):=fun w=>by kernel_rfl
theorem yZ9:Zer Tryz.prog 9 (.string ⟨#[]⟩):=fun w=>by kernel_rfl
theorem yv:Zer Tryz.prog 22 (.slice none 0 0):=fun w=>by kernel_rfl
theorem Ed:Zer Tryz.prog 27 (.int .u64 0):=fun w=>by kernel_rfl
theorem fO:Zer Tryz.prog 34 (.agg #[(.int .i64 0),(.int .i64 0),(.int .i64 0),(.int .i64 0),(.int .i64 0),(.int .i64 0),(.int .i64 0),(.int .i64 0),(.int .i64 0)]):=fun w=>by kernel_rfl
theorem lL:Zer Tryz.prog 39 (.agg #[(.pointer none),(.int .i64 0),(.int .i64 0),(.int .i64 0),(.int .i64 0),(.int .i64 0),(.int .i64 0),(.int .i64 0),(.int .i64 0),(.int .i64 0),(.int .i64 0)]):=fun w=>by kernel_rfl
theorem Ec:Zer Tryz.prog 40 (.pointer none):=fun w=>by kernel_rfl
theorem Eb:Zer Tryz.prog 45 (.agg #[(.pointer none),(.int .i64 0),(.int .i64 0),(.int .i64 0),(.int .i64 0),(.int .i64 0),(.int .i64 0),(.int .i64 0),(.int .i64 0),(.int .i64 0),(.int .i64 0),(.int .i64 0),(.int .i64 0),(.int .i64 0),(.int .i64 0),(.int .i64 0),(.int .i64 0),(.bool false),(.bool false),(.slice none 0 0)]):=fun w=>by kernel_rfl
theorem Ha:Zer Tryz.prog 51 (.agg #[(.int .i64 0),(.int .i64 0),(.slice none 0 0)]):=fun w=>by kernel_rfl
theorem G9:Zer Tryz.prog 60 (.agg #[(.int .i64 0),(.int .i64 0),(.int .i64 0),(.int .i64 0),(.int .u64 0),(.string ⟨#[]⟩),(.string ⟨#[]⟩)]):=fun w=>by kernel_rfl
theorem Bi:Zer Tryz.prog 68 (.agg #[(.pointer none),(.pointer none),(.pointer none),(.pointer none),(.int .i64 0),(.int .i64 0),(.int .i64 0),(.int .i64 0),(.int .i64 0),(.int .i64 0),(.int .i64 0),(.int .i64 0),(.int .i64 0),(.slice none 0 0),(.slice none 0 0)]):=fun w=>by kernel_rfl
theorem n9:Zer Tryz.prog 70 (.agg #[(.pointer none),(.int .i64 0),(.int .i64 0),(.int .i64 0),(.int .i64 0),(.int .i64 0),(.int .i64 0),(.int .i64 0),(.int .i64 0),(.int .i64 0),(.int .i64 0)]):=fun w=>by kernel_rfl
theorem wT:Zer Tryz.prog 73 (.agg #[(.pointer none),(.int .i64 0),(.int .i64 0),(.int .i64 0),(.int .i64 0),(.int .i64 0),(.int .i64 0),(.int .i64 0),(.int .i64 0),(.int .i64 0),(.int .i64 0),(.pointer none),(.bool false)]):=fun w=>by kernel_rfl
theorem G8:Zer Tryz.prog 75 (.agg #[(.pointer none),(.int .i64 0),(.int .i64 0),(.int .i64 0),(.int .i64 0),(.int .i64 0),(.int .i64 0),(.int .i64 0),(.int .i64 0),(.int .i64 0),(.int .i64 0),(.int .i64 0),(.int .i64 0),(.int .i64 0),(.bool false),(.bool false),(.slice none 0 0)]):=fun w=>by kernel_rfl
theorem mU:Zer Tryz.prog 77 (.int .i64 0):=fun w=>by kernel_rfl
theorem Ej:Zer Tryz.prog 116 (.agg #[(.int .i64 0),(.int .i64 0),(.pointer none),(.slice none 0 0),(.slice none 0 0),(.map none),(.map none)]):=fun w=>by kernel_rfl
theorem Ei:Zer Tryz.prog 117 (.slice none 0 0):=fun w=>by kernel_rfl
theorem CK:Zer Tryz.prog 119 (.agg #[(.int .i64 0),(.bool false),(.slice none 0 0)]):=fun w=>by kernel_rfl
theorem vH:Zer Tryz.prog 134 (.agg #[(.string ⟨#[]⟩),(.int .u64 0)]):=fun w=>by kernel_rfl
theorem cK:Zer Tryz.prog 142 (.agg #[(.int .i64 0),(.int .i64 0),(.string ⟨#[]⟩),(.string ⟨#[]⟩),(.int .i64 0)]):=fun w=>by kernel_rfl
theorem sy:Zer Tryz.prog 147 (.agg #[(.int .i64 0),(.int .i64 0),(.int .i64 0),(.int .i64 0),(.int .i64 0),(.int .i64 0),(.bool false),(.int .i64 0)]):=fun w=>by kernel_rfl
theorem pR:Zer Tryz.prog 182 (.agg #[(.pointer none),(.int .i64 0),(.int .i64 0),(.int .i64 0),(.int .i64 0),(.int .i64 0),(.int .i64 0),(.int .i64 0),(.int .i64 0),(.int .i64 0),(.int .i64 0)]):=fun w=>by kernel_rfl
theorem Eh:Zer Tryz.prog 189 (.agg #[(.slice none 0 0)]):=fun w=>by kernel_rfl
theorem Eg:Zer Tryz.prog 192 (.agg #[(.map none)]):=fun w=>by kernel_rfl
theorem Ef:Zer Tryz.prog 195 (.agg #[(.slice none 0 0)]):=fun w=>by kernel_rfl
theorem cE:Zer Tryz.prog 211 (.agg #[(.int .i64 0),(.int .i64 0),(.int .i64 0),(.bool false)]):=fun w=>by kernel_rfl
theorem vG:Zer Tryz.prog 224 (.agg #[(.int .i64 0),(.int .i64 0),(.bool false),(.int .i64 0)]):=fun w=>by kernel_rfl
theorem Ee:Zer Tryz.prog 243 (.agg #[(.int .i64 0),(.int .i64 0),(.int .i64 0),(.int .i64 0),(.int .i64 0),(.int .i64 0),(.int .i64 0),(.int .i64 0)]):=fun w=>by kernel_rfl
theorem jQ:Zer Tryz.prog 247 (.agg #[(.int .u64 0)]):=fun w=>by kernel_rfl
theorem CJ:Zer Tryz.prog 258 (.agg #[(.int .i64 0),(.int .i64 0),(.int .i64 0),(.int .i64 0)]):=fun w=>by kernel_rfl
theorem CI:Zer Tryz.prog 284 (.agg #[(.int .i64 0),(.int .i64 0),(.string ⟨#[]⟩),(.string ⟨#[]⟩),(.int .i64 0),(.int .i64 0),(.int .i64 0),(.string ⟨#[]⟩),(.string ⟨#[]⟩),(.int .i64 0),(.int .i64 0),(.int .i64 0),(.string ⟨#[]⟩),(.string ⟨#[]⟩),(.int .i64 0),(.int .i64 0),(.int .i64 0),(.string ⟨#[]⟩),(.string ⟨#[]⟩),(.int .i64 0),(.int .i64 0),(.int .i64 0),(.string ⟨#[]⟩),(.string ⟨#[]⟩),(.int .i64 0),(.int .i64 0),(.int .i64 0),(.string ⟨#[]⟩),(.string ⟨#[]⟩),(.int .i64 0),(.int .i64 0),(.int .i64 0),(.string ⟨#[]⟩),(.string ⟨#[]⟩),(.int .i64 0),(.int .i64 0),(.int .i64 0),(.string ⟨#[]⟩),(.string ⟨#[]⟩),(.int .i64 0)]):=fun w=>by kernel_rfl
theorem fQ:Zer Tryz.prog 295 (.agg #[(.int .i64 0),(.int .i64 0),(.int .i64 0),(.int .i64 0)]):=fun w=>by kernel_rfl
theorem yI3:Inf Tryz.prog 3 (.int .i64 0) 1 8:=info_parts (by kernel_rfl)
theorem yI5:Inf Tryz.prog 5 (.int .u8 0) 1 1:=info_parts (by kernel_rfl)
theorem EB:Inf Tryz.prog 40 (.pointer none) 1 8:=info_parts (by kernel_rfl)
theorem EA:Inf Tryz.prog 73 (.agg #[(.pointer none),(.int .i64 0),(.int .i64 0),(.int .i64 0),(.int .i64 0),(.int .i64 0),(.int .i64 0),(.int .i64 0),(.int .i64 0),(.int .i64 0),(.int .i64 0),(.pointer none),(.bool false)]) 13 104:=info_parts (by kernel_rfl)
theorem CN:Inf Tryz.prog 117 (.slice none 0 0) 1 24:=info_parts (by kernel_rfl)
theorem EC:Inf Tryz.prog 119 (.agg #[(.int .i64 0),(.bool false),(.slice none 0 0)]) 3 40:=info_parts (by kernel_rfl)
theorem yD:Inf Tryz.prog 134 (.agg #[(.string ⟨#[]⟩),(.int .u64 0)]) 2 24:=info_parts (by kernel_rfl)
theorem yC:Inf Tryz.prog 142 (.agg #[(.int .i64 0),(.int .i64 0),(.string ⟨#[]⟩),(.string ⟨#[]⟩),(.int .i64 0)]) 5 56:=info_parts (by kernel_rfl)
theorem en5:Ens Tryz.prog 5:=enters_of Tryz.func5 (by kernel_rfl) rfl
theorem H3:Ens Tryz.prog 12:=enters_of Tryz.func12 (by kernel_rfl) rfl
theorem H2:Ens Tryz.prog 13:=enters_of Tryz.func13 (by kernel_rfl) rfl
theorem H0:Ens Tryz.prog 14:=enters_of Tryz.func14 (by kernel_rfl) rfl
theorem HZ:Ens Tryz.prog 15:=enters_of Tryz.func15 (by kernel_rfl) rfl
theorem HY:Ens Tryz.prog 16:=enters_of Tryz.func16 (by kernel_rfl) rfl
theorem HX:Ens Tryz.prog 17:=enters_of Tryz.func17 (by kernel_rfl) rfl
theorem HW:Ens Tryz.prog 18:=enters_of Tryz.func18 (by kernel_rfl) rfl
theorem HV:Ens Tryz.prog 19:=enters_of Tryz.func19 (by kernel_rfl) rfl
theorem E8:Ens Tryz.prog 25:=enters_of Tryz.func25 (by kernel_rfl) rfl
theorem E7:Ens Tryz.prog 26:=enters_of Tryz.func26 (by kernel_rfl) rfl
theorem HU:Ens Tryz.prog 27:=enters_of Tryz.func27 (by kernel_rfl) rfl
theorem E6:Ens Tryz.prog 30:=enters_of Tryz.func30 (by kernel_rfl) rfl
theorem HT:Ens Tryz.prog 31:=enters_of Tryz.func31 (by kernel_rfl) rfl
theorem HS:Ens Tryz.prog 37:=enters_of Tryz.func37 (by kernel_rfl) rfl
theorem HR:Ens Tryz.prog 38:=enters_of Tryz.func38 (by kernel_rfl) rfl
theorem HQ:Ens Tryz.prog 39:=enters_of Tryz.func39 (by kernel_rfl) rfl
theorem HO:Ens Tryz.prog 40:=enters_of Tryz.func40 (by kernel_rfl) rfl
theorem HN:Ens Tryz.prog 41:=enters_of Tryz.func41 (by kernel_rfl) rfl
theorem HM:Ens Tryz.prog 42:=enters_of Tryz.func42 (by kernel_rfl) rfl
theorem E5:Ens Tryz.prog 43:=enters_of Tryz.func43 (by kernel_rfl) rfl
theorem HL:Ens Tryz.prog 44:=enters_of Tryz.func44 (by kernel_rfl) rfl
theorem HK:Ens Tryz.prog 45:=enters_of Tryz.func45 (by kernel_rfl) rfl
theorem HJ:Ens Tryz.prog 46:=enters_of Tryz.func46 (by kernel_rfl) rfl
theorem HI:Ens Tryz.prog 47:=enters_of Tryz.func47 (by kernel_rfl) rfl
theorem HH:Ens Tryz.prog 48:=enters_of Tryz.func48 (by kernel_rfl) rfl
theorem HG:Ens Tryz.prog 49:=enters_of Tryz.func49 (by kernel_rfl) rfl
theorem HF:Ens Tryz.prog 50:=enters_of Tryz.func50 (by kernel_rfl) rfl
theorem HE:Ens Tryz.prog 51:=enters_of Tryz.func51 (by kernel_rfl) rfl
theorem HD:Ens Tryz.prog 52:=enters_of Tryz.func52 (by kernel_rfl) rfl
theorem HC:Ens Tryz.prog 53:=enters_of Tryz.func53 (by kernel_rfl) rfl
theorem HB:Ens Tryz.prog 58:=enters_of Tryz.func58 (by kernel_rfl) rfl
theorem HA:Ens Tryz.prog 65:=enters_of Tryz.func65 (by kernel_rfl) rfl
theorem Hz:Ens Tryz.prog 68:=enters_of Tryz.func68 (by kernel_rfl) rfl
theorem Hy:Ens Tryz.prog 69:=enters_of Tryz.func69 (by kernel_rfl) rfl
theorem Hw:Ens Tryz.prog 70:=enters_of Tryz.func70 (by kernel_rfl) rfl
theorem Hv:Ens Tryz.prog 71:=enters_of Tryz.func71 (by kernel_rfl) rfl
theorem Hu:Ens Tryz.prog 72:=enters_of Tryz.func72 (by kernel_rfl) rfl
theorem E4:Ens Tryz.prog 73:=enters_of Tryz.func73 (by kernel_rfl) rfl
theorem Ht:Ens Tryz.prog 74:=enters_of Tryz.func74 (by kernel_rfl) rfl
theorem Hs:Ens Tryz.prog 81:=enters_of Tryz.func81 (by kernel_rfl) rfl
theorem Hr:Ens Tryz.prog 98:=enters_of Tryz.func98 (by kernel_rfl) rfl
theorem E3:Ens Tryz.prog 99:=enters_of Tryz.func99 (by kernel_rfl) rfl
theorem GU:Ens Tryz.prog 100:=enters_of Tryz.func100 (by kernel_rfl) rfl
theorem GS:Ens Tryz.prog 101:=enters_of Tryz.func101 (by kernel_rfl) rfl
theorem GR:Ens Tryz.prog 102:=enters_of Tryz.func102 (by kernel_rfl) rfl
theorem Df:Ens Tryz.prog 103:=enters_of Tryz.func103 (by kernel_rfl) rfl
theorem GQ:Ens Tryz.prog 104:=enters_of Tryz.func104 (by kernel_rfl) rfl
theorem tU:Ens Tryz.prog 105:=enters_of Tryz.func105 (by kernel_rfl) rfl
theorem GP:Ens Tryz.prog 106:=enters_of Tryz.func106 (by kernel_rfl) rfl
theorem Ar:Ens Tryz.prog 107:=enters_of Tryz.func107 (by kernel_rfl) rfl
theorem GO:Ens Tryz.prog 108:=enters_of Tryz.func108 (by kernel_rfl) rfl
theorem De:Ens Tryz.prog 109:=enters_of Tryz.func109 (by kernel_rfl) rfl
theorem GN:Ens Tryz.prog 110:=enters_of Tryz.func110 (by kernel_rfl) rfl
theorem Dd:Ens Tryz.prog 111:=enters_of Tryz.func111 (by kernel_rfl) rfl
theorem GM:Ens Tryz.prog 112:=enters_of Tryz.func112 (by kernel_rfl) rfl
theorem Dc:Ens Tryz.prog 113:=enters_of Tryz.func113 (by kernel_rfl) rfl
theorem GL:Ens Tryz.prog 114:=enters_of Tryz.func114 (by kernel_rfl) rfl
theorem Db:Ens Tryz.prog 115:=enters_of Tryz.func115 (by kernel_rfl) rfl
theorem GK:Ens Tryz.prog 116:=enters_of Tryz.func116 (by kernel_rfl) rfl
theorem Aq:Ens Tryz.prog 117:=enters_of Tryz.func117 (by kernel_rfl) rfl
theorem GJ:Ens Tryz.prog 118:=enters_of Tryz.func118 (by kernel_rfl) rfl
theorem Ap:Ens Tryz.prog 119:=enters_of Tryz.func119 (by kernel_rfl) rfl
theorem GI:Ens Tryz.prog 120:=enters_of Tryz.func120 (by kernel_rfl) rfl
theorem Da:Ens Tryz.prog 121:=enters_of Tryz.func121 (by kernel_rfl) rfl
theorem GH:Ens Tryz.prog 122:=enters_of Tryz.func122 (by kernel_rfl) rfl
theorem Ao:Ens Tryz.prog 123:=enters_of Tryz.func123 (by kernel_rfl) rfl
theorem GG:Ens Tryz.prog 124:=enters_of Tryz.func124 (by kernel_rfl) rfl
theorem C9:Ens Tryz.prog 125:=enters_of Tryz.func125 (by kernel_rfl) rfl
theorem GF:Ens Tryz.prog 126:=enters_of Tryz.func126 (by kernel_rfl) rfl
theorem C8:Ens Tryz.prog 127:=enters_of Tryz.func127 (by kernel_rfl) rfl
theorem C7:Ens Tryz.prog 128:=enters_of Tryz.func128 (by kernel_rfl) rfl
theorem GD:Ens Tryz.prog 129:=enters_of Tryz.func129 (by kernel_rfl) rfl
theorem GC:Ens Tryz.prog 130:=enters_of Tryz.func130 (by kernel_rfl) rfl
theorem GB:Ens Tryz.prog 131:=enters_of Tryz.func131 (by kernel_rfl) rfl
theorem GA:Ens Tryz.prog 132:=enters_of Tryz.func132 (by kernel_rfl) rfl
theorem Gz:Ens Tryz.prog 133:=enters_of Tryz.func133 (by kernel_rfl) rfl
theorem Gy:Ens Tryz.prog 134:=enters_of Tryz.func134 (by kernel_rfl) rfl
theorem Gx:Ens Tryz.prog 135:=enters_of Tryz.func135 (by kernel_rfl) rfl
theorem Gw:Ens Tryz.prog 136:=enters_of Tryz.func136 (by kernel_rfl) rfl
theorem Gv:Ens Tryz.prog 137:=enters_of Tryz.func137 (by kernel_rfl) rfl
theorem Gu:Ens Tryz.prog 138:=enters_of Tryz.func138 (by kernel_rfl) rfl
theorem Gt:Ens Tryz.prog 139:=enters_of Tryz.func139 (by kernel_rfl) rfl
theorem Gs:Ens Tryz.prog 142:=enters_of Tryz.func142 (by kernel_rfl) rfl
theorem C6:Ens Tryz.prog 144:=enters_of Tryz.func144 (by kernel_rfl) rfl
theorem Gr:Ens Tryz.prog 145:=enters_of Tryz.func145 (by kernel_rfl) rfl
theorem Gq:Ens Tryz.prog 146:=enters_of Tryz.func146 (by kernel_rfl) rfl
theorem Gp:Ens Tryz.prog 147:=enters_of Tryz.func147 (by kernel_rfl) rfl
theorem Gn:Ens Tryz.prog 154:=enters_of Tryz.func154 (by kernel_rfl) rfl
theorem Gm:Ens Tryz.prog 155:=enters_of Tryz.func155 (by kernel_rfl) rfl
theorem Gl:Ens Tryz.prog 156:=enters_of Tryz.func156 (by kernel_rfl) rfl
theorem Gk:Ens Tryz.prog 157:=enters_of Tryz.func157 (by kernel_rfl) rfl
theorem Gj:Ens Tryz.prog 158:=enters_of Tryz.func158 (by kernel_rfl) rfl
theorem Gi:Ens Tryz.prog 159:=enters_of Tryz.func159 (by kernel_rfl) rfl
theorem Gh:Ens Tryz.prog 160:=enters_of Tryz.func160 (by kernel_rfl) rfl
theorem Gg:Ens Tryz.prog 161:=enters_of Tryz.func161 (by kernel_rfl) rfl
theorem Gf:Ens Tryz.prog 163:=enters_of Tryz.func163 (by kernel_rfl) rfl
theorem Ge:Ens Tryz.prog 164:=enters_of Tryz.func164 (by kernel_rfl) rfl
theorem Gd:Ens Tryz.prog 165:=enters_of Tryz.func165 (by kernel_rfl) rfl
theorem Gc:Ens Tryz.prog 166:=enters_of Tryz.func166 (by kernel_rfl) rfl
theorem Gb:Ens Tryz.prog 167:=enters_of Tryz.func167 (by kernel_rfl) rfl
theorem C5:Ens Tryz.prog 168:=enters_of Tryz.func168 (by kernel_rfl) rfl
theorem Ga:Ens Tryz.prog 169:=enters_of Tryz.func169 (by kernel_rfl) rfl
theorem C4:Ens Tryz.prog 170:=enters_of Tryz.func170 (by kernel_rfl) rfl
theorem F9:Ens Tryz.prog 171:=enters_of Tryz.func171 (by kernel_rfl) rfl
theorem F8:Ens Tryz.prog 172:=enters_of Tryz.func172 (by kernel_rfl) rfl
theorem wD:Ens Tryz.prog 173:=enters_of Tryz.func173 (by kernel_rfl) rfl
theorem F7:Ens Tryz.prog 174:=enters_of Tryz.func174 (by kernel_rfl) rfl
theorem F6:Ens Tryz.prog 175:=enters_of Tryz.func175 (by kernel_rfl) rfl
theorem F5:Ens Tryz.prog 176:=enters_of Tryz.func176 (by kernel_rfl) rfl
theorem F4:Ens Tryz.prog 177:=enters_of Tryz.func177 (by kernel_rfl) rfl
theorem F3:Ens Tryz.prog 178:=enters_of Tryz.func178 (by kernel_rfl) rfl
theorem F2:Ens Tryz.prog 179:=enters_of Tryz.func179 (by kernel_rfl) rfl
theorem F1:Ens Tryz.prog 180:=enters_of Tryz.func180 (by kernel_rfl) rfl
theorem F0:Ens Tryz.prog 181:=enters_of Tryz.func181 (by kernel_rfl) rfl
theorem FZ:Ens Tryz.prog 182:=enters_of Tryz.func182 (by kernel_rfl) rfl
theorem FY:Ens Tryz.prog 183:=enters_of Tryz.func183 (by kernel_rfl) rfl
theorem FX:Ens Tryz.prog 184:=enters_of Tryz.func184 (by kernel_rfl) rfl
theorem FV:Ens Tryz.prog 185:=enters_of Tryz.func185 (by kernel_rfl) rfl
theorem FU:Ens Tryz.prog 186:=enters_of Tryz.func186 (by kernel_rfl) rfl
theorem FT:Ens Tryz.prog 187:=enters_of Tryz.func187 (by kernel_rfl) rfl
theorem FR:Ens Tryz.prog 188:=enters_of Tryz.func188 (by kernel_rfl) rfl
theorem FQ:Ens Tryz.prog 189:=enters_of Tryz.func189 (by kernel_rfl) rfl
theorem FP:Ens Tryz.prog 190:=enters_of Tryz.func190 (by kernel_rfl) rfl
theorem FO:Ens Tryz.prog 191:=enters_of Tryz.func191 (by kernel_rfl) rfl
theorem C3:Ens Tryz.prog 192:=enters_of Tryz.func192 (by kernel_rfl) rfl
theorem FN:Ens Tryz.prog 193:=enters_of Tryz.func193 (by kernel_rfl) rfl
theorem FM:Ens Tryz.prog 194:=enters_of Tryz.func194 (by kernel_rfl) rfl
theorem FK:Ens Tryz.prog 195:=enters_of Tryz.func195 (by kernel_rfl) rfl
theorem FJ:Ens Tryz.prog 196:=enters_of Tryz.func196 (by kernel_rfl) rfl
theorem FI:Ens Tryz.prog 197:=enters_of Tryz.func197 (by kernel_rfl) rfl
theorem FH:Ens Tryz.prog 198:=enters_of Tryz.func198 (by kernel_rfl) rfl
theorem FG:Ens Tryz.prog 199:=enters_of Tryz.func199 (by kernel_rfl) rfl
theorem FF:Ens Tryz.prog 201:=enters_of Tryz.func201 (by kernel_rfl) rfl
theorem FE:Ens Tryz.prog 202:=enters_of Tryz.func202 (by kernel_rfl) rfl
theorem FD:Ens Tryz.prog 203:=enters_of Tryz.func203 (by kernel_rfl) rfl
theorem FC:Ens Tryz.prog 204:=enters_of Tryz.func204 (by kernel_rfl) rfl
theorem FB:Ens Tryz.prog 205:=enters_of Tryz.func205 (by kernel_rfl) rfl
theorem FA:Ens Tryz.prog 210:=enters_of Tryz.func210 (by kernel_rfl) rfl
theorem Fz:Ens Tryz.prog 211:=enters_of Tryz.func211 (by kernel_rfl) rfl
theorem Fy:Ens Tryz.prog 212:=enters_of Tryz.func212 (by kernel_rfl) rfl
theorem Fx:Ens Tryz.prog 214:=enters_of Tryz.func214 (by kernel_rfl) rfl
theorem Fw:Ens Tryz.prog 215:=enters_of Tryz.func215 (by kernel_rfl) rfl
theorem Fv:Ens Tryz.prog 216:=enters_of Tryz.func216 (by kernel_rfl) rfl
theorem Fu:Ens Tryz.prog 217:=enters_of Tryz.func217 (by kernel_rfl) rfl
theorem wC:Ens Tryz.prog 218:=enters_of Tryz.func218 (by kernel_rfl) rfl
theorem C2:Ens Tryz.prog 219:=enters_of Tryz.func219 (by kernel_rfl) rfl
theorem Ft:Ens Tryz.prog 220:=enters_of Tryz.func220 (by kernel_rfl) rfl
theorem Fs:Ens Tryz.prog 221:=enters_of Tryz.func221 (by kernel_rfl) rfl
theorem Fq:Ens Tryz.prog 222:=enters_of Tryz.func222 (by kernel_rfl) rfl
theorem Fp:Ens Tryz.prog 223:=enters_of Tryz.func223 (by kernel_rfl) rfl
theorem C1:Ens Tryz.prog 224:=enters_of Tryz.func224 (by kernel_rfl) rfl
theorem C0:Ens Tryz.prog 225:=enters_of Tryz.func225 (by kernel_rfl) rfl
theorem Fo:Ens Tryz.prog 226:=enters_of Tryz.func226 (by kernel_rfl) rfl
theorem Fm:Ens Tryz.prog 227:=enters_of Tryz.func227 (by kernel_rfl) rfl
theorem Fl:Ens Tryz.prog 228:=enters_of Tryz.func228 (by kernel_rfl) rfl
theorem Fk:Ens Tryz.prog 229:=enters_of Tryz.func229 (by kernel_rfl) rfl
theorem Fj:Ens Tryz.prog 230:=enters_of Tryz.func230 (by kernel_rfl) rfl
theorem Fi:Ens Tryz.prog 231:=enters_of Tryz.func231 (by kernel_rfl) rfl
theorem Fh:Ens Tryz.prog 232:=enters_of Tryz.func232 (by kernel_rfl) rfl
theorem Fg:Ens Tryz.prog 233:=enters_of Tryz.func233 (by kernel_rfl) rfl
theorem Ff:Ens Tryz.prog 234:=enters_of Tryz.func234 (by kernel_rfl) rfl
theorem Fe:Ens Tryz.prog 235:=enters_of Tryz.func235 (by kernel_rfl) rfl
theorem Fc:Ens Tryz.prog 240:=enters_of Tryz.func240 (by kernel_rfl) rfl
theorem Fb:Ens Tryz.prog 243:=enters_of Tryz.func243 (by kernel_rfl) rfl
theorem Fa:Ens Tryz.prog 244:=enters_of Tryz.func244 (by kernel_rfl) rfl
theorem E9:Ens Tryz.prog 245:=enters_of Tryz.func245 (by kernel_rfl) rfl
end Ty
end Go.Proofs.YthkajgkagnenbaaGreatDoor
