import Derived.Test.YthkajgkagnenbaaGreatDoorProg
import Derived.Test.YthkajgkagnenbaaGreatDoorEngMap
import Derived.Test.YthkajgkagnenbaaGreatDoorEngStr
import Derived.KernelRfl
import Derived.Shelf.Abstract
import Derived.RowKit3
import Derived.Laws.OwnMore
set_option linter.unusedVariables false
set_option linter.unusedSimpArgs false
set_option linter.unusedSectionVars false
namespace Go.Proofs.YthkajgkagnenbaaGreatDoor
namespace Ty
open Go.RowKit Go.Proofs
open Eng
theorem mixed:Tryz.prog.follows .mixedOrders=true:=by kernel_rfl
abbrev j5:=@Tryz.underlying3
abbrev KJ:=@Tryz.underlying4
abbrev E5:=@Tryz.underlying5
abbrev lg:=@Tryz.underlying9
abbrev bI:=@Tryz.underlying22
abbrev fv:=@Tryz.underlying27
abbrev Gw:=@Tryz.underlying31
abbrev cB:=@Tryz.underlying34
abbrev kE:=@Tryz.underlying39
abbrev ef:=@Tryz.underlying43
abbrev bT:=@Tryz.underlying45
abbrev mm:=@Tryz.underlying49
abbrev iN:=@Tryz.underlying51
abbrev jU:=@Tryz.underlying52
abbrev Gv:=@Tryz.underlying63
abbrev j7:=@Tryz.underlying66
abbrev sm:=@Tryz.underlying83
abbrev Gu:=@Tryz.underlying84
abbrev Gt:=@Tryz.underlying85
abbrev dk:=@Tryz.underlying90
abbrev gW:=@Tryz.underlying91
abbrev bY:=@Tryz.underlying93
abbrev Al:=@Tryz.underlying113
abbrev Ej:=@Tryz.underlying114
abbrev dy:=@Tryz.underlying116
abbrev dG:=@Tryz.underlying117
abbrev lq:=@Tryz.underlying119
abbrev iI:=@Tryz.underlying134
abbrev cq:=@Tryz.underlying142
abbrev bP:=@Tryz.underlying147
abbrev bJ:=@Tryz.underlying182
abbrev fM:=@Tryz.underlying189
abbrev o8:=@Tryz.underlying190
abbrev tF:=@Tryz.underlying192
abbrev rh:=@Tryz.underlying195
abbrev eF:=@Tryz.underlying224
abbrev mS:=@Tryz.underlying243
abbrev mR:=@Tryz.underlying247
abbrev xD:=@Tryz.underlying259
abbrev ln:=@Tryz.underlying276
abbrev rf:=@Tryz.underlying288
abbrev re:=@Tryz.underlying289
abbrev o7:=@Tryz.underlying290
abbrev Ak:=@Tryz.underlying294
abbrev jH:=@Tryz.underlying295
abbrev Gx:=@Tryz.underlying304
theorem aX:ml Tryz.prog 3 false:=fun w=>by kernel_rfl
theorem nH:ml Tryz.prog 4 false:=fun w=>by kernel_rfl
theorem Ji:ml Tryz.prog 5 false:=fun w=>by kernel_rfl
theorem fS:ml Tryz.prog 9 false:=fun w=>by kernel_rfl
theorem vQ:ml Tryz.prog 22 false:=fun w=>by kernel_rfl
theorem fV:ml Tryz.prog 27 false:=fun w=>by kernel_rfl
theorem ew:ml Tryz.prog 31 false:=fun w=>by kernel_rfl
theorem kH:ml Tryz.prog 32 false:=fun w=>by kernel_rfl
theorem cZ:ml Tryz.prog 34 true:=fun w=>by kernel_rfl
theorem bA:ml Tryz.prog 39 true:=fun w=>by kernel_rfl
theorem mn:ml Tryz.prog 40 false:=fun w=>by kernel_rfl
theorem eI:ml Tryz.prog 43 false:=fun w=>by kernel_rfl
theorem lh:ml Tryz.prog 49 false:=fun w=>by kernel_rfl
theorem tK:ml Tryz.prog 52 false:=fun w=>by kernel_rfl
theorem ij:ml Tryz.prog 63 false:=fun w=>by kernel_rfl
theorem tJ:ml Tryz.prog 64 false:=fun w=>by kernel_rfl
theorem ke:ml Tryz.prog 66 false:=fun w=>by kernel_rfl
theorem iO:ml Tryz.prog 77 false:=fun w=>by kernel_rfl
theorem Ju:ml Tryz.prog 83 true:=fun w=>by kernel_rfl
theorem GJ:ml Tryz.prog 90 true:=fun w=>by kernel_rfl
theorem gX:ml Tryz.prog 91 false:=fun w=>by kernel_rfl
theorem mW:ml Tryz.prog 112 false:=fun w=>by kernel_rfl
theorem rk:ml Tryz.prog 113 false:=fun w=>by kernel_rfl
theorem mV:ml Tryz.prog 114 false:=fun w=>by kernel_rfl
theorem fk:ml Tryz.prog 117 false:=fun w=>by kernel_rfl
theorem Ao:ml Tryz.prog 134 true:=fun w=>by kernel_rfl
theorem fj:ml Tryz.prog 142 true:=fun w=>by kernel_rfl
theorem eY:ml Tryz.prog 147 true:=fun w=>by kernel_rfl
theorem eG:ml Tryz.prog 182 true:=fun w=>by kernel_rfl
theorem tL:ml Tryz.prog 190 false:=fun w=>by kernel_rfl
theorem oo:ml Tryz.prog 224 true:=fun w=>by kernel_rfl
theorem mu:ml Tryz.prog 247 true:=fun w=>by kernel_rfl
theorem rj:ml Tryz.prog 276 false:=fun w=>by kernel_rfl
theorem dY:ml Tryz.prog 295 true:=fun w=>by kernel_rfl
theorem E9:Tryz.prog.eqGuardType Tryz.prog.depth 34=false:=by kernel_rfl
theorem E8:Tryz.prog.stoodInHeld 34=false:=by kernel_rfl
theorem Er:Tryz.prog.eqGuardType Tryz.prog.depth 142=false:=by kernel_rfl
theorem Eo:Tryz.prog.stoodInHeld 142=false:=by kernel_rfl
theorem Ep:Tryz.prog.eqGuardType Tryz.prog.depth 147=false:=by kernel_rfl
theorem En:Tryz.prog.stoodInHeld 147=false:=by kernel_rfl
theorem kG:vN Tryz.prog 34 [(0,1),(1,1),(2,1),(3,1),(4,1),(5,1),(6,1),(7,1),(8,1)]:=fun w=>by kernel_rfl
theorem qS:vN Tryz.prog 39 [(0,1),(1,9),(10,1)]:=fun w=>by kernel_rfl
theorem GA:vN Tryz.prog 45 [(0,1),(1,9),(10,1),(11,1),(12,1),(13,1),(14,1),(15,1),(16,1),(17,1),(18,1),(19,1)]:=fun w=>by kernel_rfl
theorem Jr:vN Tryz.prog 51 [(0,1),(1,1),(2,1)]:=fun w=>by kernel_rfl
theorem Jq:vN Tryz.prog 93 [(0,1),(1,1),(2,1),(3,1),(4,9),(13,1),(14,1),(15,1)]:=fun w=>by kernel_rfl
theorem GG:vN Tryz.prog 116 [(0,1),(1,1),(2,1),(3,1),(4,1),(5,1),(6,1)]:=fun w=>by kernel_rfl
theorem GF:vN Tryz.prog 119 [(0,1),(1,1),(2,1)]:=fun w=>by kernel_rfl
theorem El:vN Tryz.prog 134 [(0,1),(1,1)]:=fun w=>by kernel_rfl
theorem j9:vN Tryz.prog 142 [(0,1),(1,1),(2,1),(3,1),(4,1)]:=fun w=>by kernel_rfl
theorem tI:vN Tryz.prog 147 [(0,1),(1,1),(2,1),(3,1),(4,1),(5,1),(6,1),(7,1)]:=fun w=>by kernel_rfl
theorem GD:vN Tryz.prog 182 [(0,1),(1,9),(10,1)]:=fun w=>by kernel_rfl
theorem GC:vN Tryz.prog 189 [(0,1)]:=fun w=>by kernel_rfl
theorem Ek:vN Tryz.prog 192 [(0,1)]:=fun w=>by kernel_rfl
theorem GB:vN Tryz.prog 195 [(0,1)]:=fun w=>by kernel_rfl
theorem An:vN Tryz.prog 224 [(0,1),(1,1),(2,1),(3,1)]:=fun w=>by kernel_rfl
theorem xE:vN Tryz.prog 247 [(0,1)]:=fun w=>by kernel_rfl
theorem aN:lj Tryz.prog 3 1:=fun w=>by kernel_rfl
theorem j6:lj Tryz.prog 4 1:=fun w=>by kernel_rfl
theorem sn:lj Tryz.prog 5 1:=fun w=>by kernel_rfl
theorem fA:lj Tryz.prog 9 1:=fun w=>by kernel_rfl
theorem o9:lj Tryz.prog 22 1:=fun w=>by kernel_rfl
theorem jV:lj Tryz.prog 27 1:=fun w=>by kernel_rfl
theorem eu:lj Tryz.prog 31 1:=fun w=>by kernel_rfl
theorem kF:lj Tryz.prog 32 1:=fun w=>by kernel_rfl
theorem bH:lj Tryz.prog 34 9:=fun w=>by kernel_rfl
theorem aM:lj Tryz.prog 39 11:=fun w=>by kernel_rfl
theorem lu:lj Tryz.prog 40 1:=fun w=>by kernel_rfl
theorem eH:lj Tryz.prog 43 1:=fun w=>by kernel_rfl
theorem j8:lj Tryz.prog 49 1:=fun w=>by kernel_rfl
theorem qR:lj Tryz.prog 52 1:=fun w=>by kernel_rfl
theorem jE:lj Tryz.prog 63 1:=fun w=>by kernel_rfl
theorem tG:lj Tryz.prog 64 1:=fun w=>by kernel_rfl
theorem jD:lj Tryz.prog 66 1:=fun w=>by kernel_rfl
theorem fU:lj Tryz.prog 77 1:=fun w=>by kernel_rfl
theorem Jp:lj Tryz.prog 83 4:=fun w=>by kernel_rfl
theorem E6:lj Tryz.prog 90 6:=fun w=>by kernel_rfl
theorem gC:lj Tryz.prog 91 1:=fun w=>by kernel_rfl
theorem mU:lj Tryz.prog 112 1:=fun w=>by kernel_rfl
theorem ri:lj Tryz.prog 113 1:=fun w=>by kernel_rfl
theorem mT:lj Tryz.prog 114 1:=fun w=>by kernel_rfl
theorem Am:lj Tryz.prog 116 7:=fun w=>by kernel_rfl
theorem ec:lj Tryz.prog 117 1:=fun w=>by kernel_rfl
theorem lb:lj Tryz.prog 119 3:=fun w=>by kernel_rfl
theorem iJ:lj Tryz.prog 134 2:=fun w=>by kernel_rfl
theorem bV:lj Tryz.prog 142 5:=fun w=>by kernel_rfl
theorem cl:lj Tryz.prog 147 8:=fun w=>by kernel_rfl
theorem dO:lj Tryz.prog 182 11:=fun w=>by kernel_rfl
theorem tH:lj Tryz.prog 190 1:=fun w=>by kernel_rfl
theorem fN:lj Tryz.prog 224 4:=fun w=>by kernel_rfl
theorem Gz:lj Tryz.prog 231 22:=fun w=>by kernel_rfl
theorem gD:lj Tryz.prog 247 1:=fun w=>by kernel_rfl
theorem Gy:lj Tryz.prog 276 1:=fun w=>by kernel_rfl
theorem cU:lj Tryz.prog 295 4:=fun w=>by kernel_rfl
theorem sj:nI Tryz.prog 3 (.int .i64 0):=fun w=>by kernel_rfl
theorem Ky:nI Tryz.prog 5 (.int .u8 0):=fun w=>by kernel_rfl
theorem Jm:nI Tryz.prog 9 (.string ⟨#[]⟩):=fun w=>by kernel_rfl
theorem Aj:nI Tryz.prog 22 (.slice none 0 0):=fun w=>by kernel_rfl
theorem E4:nI Tryz.prog 27 (.int .u64 0):=fun w=>by kernel_rfl
theorem gB:nI Tryz.prog 34 (.agg #[(.int .i64 0),(.int .i64 0),(.int .i64 0),(.int .i64 0),(.int .i64 0),(.int .i64 0),(.int .i64 0),(.int .i64 0),(.int .i64 0)]):=fun w=>by kernel_rfl
theorem cM:nI Tryz.prog 39 (.agg #[(.pointer none),(.int .i64 0),(.int .i64 0),(.int .i64 0),(.int .i64 0),(.int .i64 0),(.int .i64 0),(.int .i64 0),(.int .i64 0),(.int .i64 0),(.int .i64 0)]):=fun w=>by kernel_rfl
theorem Jo:nI Tryz.prog 40 (.pointer none):=fun w=>by kernel_rfl
theorem Gm:nI Tryz.prog 45 (.agg #[(.pointer none),(.int .i64 0),(.int .i64 0),(.int .i64 0),(.int .i64 0),(.int .i64 0),(.int .i64 0),(.int .i64 0),(.int .i64 0),(.int .i64 0),(.int .i64 0),(.int .i64 0),(.int .i64 0),(.int .i64 0),(.int .i64 0),(.int .i64 0),(.int .i64 0),(.bool false),(.bool false),(.slice none 0 0)]):=fun w=>by kernel_rfl
theorem Jn:nI Tryz.prog 51 (.agg #[(.int .i64 0),(.int .i64 0),(.slice none 0 0)]):=fun w=>by kernel_rfl
theorem si:nI Tryz.prog 77 (.int .i64 0):=fun w=>by kernel_rfl
theorem Jl:nI Tryz.prog 93 (.agg #[(.pointer none),(.pointer none),(.pointer none),(.pointer none),(.int .i64 0),(.int .i64 0),(.int .i64 0),(.int .i64 0),(.int .i64 0),(.int .i64 0),(.int .i64 0),(.int .i64 0),(.int .i64 0),(.int .u64 0),(.slice none 0 0),(.slice none 0 0)]):=fun w=>by kernel_rfl
theorem Gs:nI Tryz.prog 116 (.agg #[(.int .i64 0),(.int .i64 0),(.pointer none),(.slice none 0 0),(.slice none 0 0),(.map none),(.map none)]):=fun w=>by kernel_rfl
theorem Gr:nI Tryz.prog 117 (.slice none 0 0):=fun w=>by kernel_rfl
theorem Ei:nI Tryz.prog 119 (.agg #[(.int .i64 0),(.bool false),(.slice none 0 0)]):=fun w=>by kernel_rfl
theorem ra:nI Tryz.prog 134 (.agg #[(.string ⟨#[]⟩),(.int .u64 0)]):=fun w=>by kernel_rfl
theorem dF:nI Tryz.prog 142 (.agg #[(.int .i64 0),(.int .i64 0),(.string ⟨#[]⟩),(.string ⟨#[]⟩),(.int .i64 0)]):=fun w=>by kernel_rfl
theorem da:nI Tryz.prog 147 (.agg #[(.int .i64 0),(.int .i64 0),(.int .i64 0),(.int .i64 0),(.int .i64 0),(.int .i64 0),(.bool false),(.int .i64 0)]):=fun w=>by kernel_rfl
theorem o6:nI Tryz.prog 182 (.agg #[(.pointer none),(.int .i64 0),(.int .i64 0),(.int .i64 0),(.int .i64 0),(.int .i64 0),(.int .i64 0),(.int .i64 0),(.int .i64 0),(.int .i64 0),(.int .i64 0)]):=fun w=>by kernel_rfl
theorem Gq:nI Tryz.prog 189 (.agg #[(.slice none 0 0)]):=fun w=>by kernel_rfl
theorem Eh:nI Tryz.prog 192 (.agg #[(.map none)]):=fun w=>by kernel_rfl
theorem Gp:nI Tryz.prog 195 (.agg #[(.slice none 0 0)]):=fun w=>by kernel_rfl
theorem ja:nI Tryz.prog 224 (.agg #[(.int .i64 0),(.int .i64 0),(.bool false),(.int .i64 0)]):=fun w=>by kernel_rfl
theorem Eg:nI Tryz.prog 231 (.agg #[(.pointer none),(.int .i64 0),(.int .i64 0),(.int .i64 0),(.int .i64 0),(.int .i64 0),(.int .i64 0),(.int .i64 0),(.int .i64 0),(.int .i64 0),(.int .i64 0),(.pointer none),(.int .i64 0),(.int .i64 0),(.int .i64 0),(.int .i64 0),(.int .i64 0),(.int .i64 0),(.int .i64 0),(.int .i64 0),(.int .i64 0),(.int .i64 0)]):=fun w=>by kernel_rfl
theorem Ef:nI Tryz.prog 243 (.agg #[(.int .i64 0),(.int .i64 0),(.int .i64 0),(.int .i64 0),(.int .i64 0),(.int .i64 0),(.int .i64 0),(.int .i64 0)]):=fun w=>by kernel_rfl
theorem la:nI Tryz.prog 247 (.agg #[(.int .u64 0)]):=fun w=>by kernel_rfl
theorem Gn:nI Tryz.prog 276 (.slice none 0 0):=fun w=>by kernel_rfl
theorem gU:nI Tryz.prog 295 (.agg #[(.int .i64 0),(.int .i64 0),(.int .i64 0),(.int .i64 0)]):=fun w=>by kernel_rfl
theorem E7:Ed Tryz.prog 3 (.int .i64 0) 1 8:=info_parts (by kernel_rfl)
theorem Kz:Ed Tryz.prog 4 (.bool false) 1 1:=info_parts (by kernel_rfl)
theorem CU:Ed Tryz.prog 5 (.int .u8 0) 1 1:=info_parts (by kernel_rfl)
theorem Jt:Ed Tryz.prog 39 (.agg #[(.pointer none),(.int .i64 0),(.int .i64 0),(.int .i64 0),(.int .i64 0),(.int .i64 0),(.int .i64 0),(.int .i64 0),(.int .i64 0),(.int .i64 0),(.int .i64 0)]) 11 88:=info_parts (by kernel_rfl)
theorem Js:Ed Tryz.prog 40 (.pointer none) 1 8:=info_parts (by kernel_rfl)
theorem Em:Ed Tryz.prog 117 (.slice none 0 0) 1 24:=info_parts (by kernel_rfl)
theorem GI:Ed Tryz.prog 119 (.agg #[(.int .i64 0),(.bool false),(.slice none 0 0)]) 3 40:=info_parts (by kernel_rfl)
theorem GH:Ed Tryz.prog 134 (.agg #[(.string ⟨#[]⟩),(.int .u64 0)]) 2 24:=info_parts (by kernel_rfl)
theorem xF:Ed Tryz.prog 142 (.agg #[(.int .i64 0),(.int .i64 0),(.string ⟨#[]⟩),(.string ⟨#[]⟩),(.int .i64 0)]) 5 56:=info_parts (by kernel_rfl)
theorem KN:cE Tryz.prog 7:=enters_of Tryz.func7 (by kernel_rfl) rfl
theorem Kr:cE Tryz.prog 11:=enters_of Tryz.func11 (by kernel_rfl) rfl
theorem Kq:cE Tryz.prog 12:=enters_of Tryz.func12 (by kernel_rfl) rfl
theorem Kp:cE Tryz.prog 13:=enters_of Tryz.func13 (by kernel_rfl) rfl
theorem Ko:cE Tryz.prog 18:=enters_of Tryz.func18 (by kernel_rfl) rfl
theorem Kn:cE Tryz.prog 20:=enters_of Tryz.func20 (by kernel_rfl) rfl
theorem Km:cE Tryz.prog 21:=enters_of Tryz.func21 (by kernel_rfl) rfl
theorem FU:cE Tryz.prog 22:=enters_of Tryz.func22 (by kernel_rfl) rfl
theorem Kl:cE Tryz.prog 23:=enters_of Tryz.func23 (by kernel_rfl) rfl
theorem Kk:cE Tryz.prog 24:=enters_of Tryz.func24 (by kernel_rfl) rfl
theorem Hm:cE Tryz.prog 25:=enters_of Tryz.func25 (by kernel_rfl) rfl
theorem Kj:cE Tryz.prog 26:=enters_of Tryz.func26 (by kernel_rfl) rfl
theorem Ki:cE Tryz.prog 27:=enters_of Tryz.func27 (by kernel_rfl) rfl
theorem Kh:cE Tryz.prog 38:=enters_of Tryz.func38 (by kernel_rfl) rfl
theorem Hl:cE Tryz.prog 39:=enters_of Tryz.func39 (by kernel_rfl) rfl
theorem Kg:cE Tryz.prog 40:=enters_of Tryz.func40 (by kernel_rfl) rfl
theorem Kf:cE Tryz.prog 49:=enters_of Tryz.func49 (by kernel_rfl) rfl
theorem Ke:cE Tryz.prog 50:=enters_of Tryz.func50 (by kernel_rfl) rfl
theorem Kd:cE Tryz.prog 51:=enters_of Tryz.func51 (by kernel_rfl) rfl
theorem FT:cE Tryz.prog 52:=enters_of Tryz.func52 (by kernel_rfl) rfl
theorem B1:cE Tryz.prog 53:=enters_of Tryz.func53 (by kernel_rfl) rfl
theorem Hk:cE Tryz.prog 54:=enters_of Tryz.func54 (by kernel_rfl) rfl
theorem Kc:cE Tryz.prog 55:=enters_of Tryz.func55 (by kernel_rfl) rfl
theorem FR:cE Tryz.prog 56:=enters_of Tryz.func56 (by kernel_rfl) rfl
theorem Kb:cE Tryz.prog 57:=enters_of Tryz.func57 (by kernel_rfl) rfl
theorem Ka:cE Tryz.prog 58:=enters_of Tryz.func58 (by kernel_rfl) rfl
theorem Hj:cE Tryz.prog 59:=enters_of Tryz.func59 (by kernel_rfl) rfl
theorem J9:cE Tryz.prog 60:=enters_of Tryz.func60 (by kernel_rfl) rfl
theorem J8:cE Tryz.prog 61:=enters_of Tryz.func61 (by kernel_rfl) rfl
theorem Hi:cE Tryz.prog 62:=enters_of Tryz.func62 (by kernel_rfl) rfl
theorem Hg:cE Tryz.prog 63:=enters_of Tryz.func63 (by kernel_rfl) rfl
theorem J7:cE Tryz.prog 64:=enters_of Tryz.func64 (by kernel_rfl) rfl
theorem Hf:cE Tryz.prog 65:=enters_of Tryz.func65 (by kernel_rfl) rfl
theorem J6:cE Tryz.prog 66:=enters_of Tryz.func66 (by kernel_rfl) rfl
theorem J5:cE Tryz.prog 67:=enters_of Tryz.func67 (by kernel_rfl) rfl
theorem J4:cE Tryz.prog 68:=enters_of Tryz.func68 (by kernel_rfl) rfl
theorem J3:cE Tryz.prog 69:=enters_of Tryz.func69 (by kernel_rfl) rfl
theorem J2:cE Tryz.prog 70:=enters_of Tryz.func70 (by kernel_rfl) rfl
theorem J1:cE Tryz.prog 71:=enters_of Tryz.func71 (by kernel_rfl) rfl
theorem JZ:cE Tryz.prog 72:=enters_of Tryz.func72 (by kernel_rfl) rfl
theorem JY:cE Tryz.prog 73:=enters_of Tryz.func73 (by kernel_rfl) rfl
theorem JX:cE Tryz.prog 74:=enters_of Tryz.func74 (by kernel_rfl) rfl
theorem JW:cE Tryz.prog 76:=enters_of Tryz.func76 (by kernel_rfl) rfl
theorem JV:cE Tryz.prog 81:=enters_of Tryz.func81 (by kernel_rfl) rfl
theorem FQ:cE Tryz.prog 82:=enters_of Tryz.func82 (by kernel_rfl) rfl
theorem JU:cE Tryz.prog 83:=enters_of Tryz.func83 (by kernel_rfl) rfl
theorem He:cE Tryz.prog 84:=enters_of Tryz.func84 (by kernel_rfl) rfl
theorem JT:cE Tryz.prog 85:=enters_of Tryz.func85 (by kernel_rfl) rfl
theorem Hc:cE Tryz.prog 86:=enters_of Tryz.func86 (by kernel_rfl) rfl
theorem JS:cE Tryz.prog 87:=enters_of Tryz.func87 (by kernel_rfl) rfl
theorem Hb:cE Tryz.prog 88:=enters_of Tryz.func88 (by kernel_rfl) rfl
theorem JR:cE Tryz.prog 89:=enters_of Tryz.func89 (by kernel_rfl) rfl
theorem G9:cE Tryz.prog 90:=enters_of Tryz.func90 (by kernel_rfl) rfl
theorem G8:cE Tryz.prog 92:=enters_of Tryz.func92 (by kernel_rfl) rfl
theorem JQ:cE Tryz.prog 93:=enters_of Tryz.func93 (by kernel_rfl) rfl
theorem JP:cE Tryz.prog 94:=enters_of Tryz.func94 (by kernel_rfl) rfl
theorem JO:cE Tryz.prog 96:=enters_of Tryz.func96 (by kernel_rfl) rfl
theorem JN:cE Tryz.prog 98:=enters_of Tryz.func98 (by kernel_rfl) rfl
theorem G7:cE Tryz.prog 99:=enters_of Tryz.func99 (by kernel_rfl) rfl
theorem ET:cE Tryz.prog 127:=enters_of Tryz.func127 (by kernel_rfl) rfl
theorem ES:cE Tryz.prog 128:=enters_of Tryz.func128 (by kernel_rfl) rfl
theorem I1:cE Tryz.prog 129:=enters_of Tryz.func129 (by kernel_rfl) rfl
theorem I0:cE Tryz.prog 130:=enters_of Tryz.func130 (by kernel_rfl) rfl
theorem IZ:cE Tryz.prog 131:=enters_of Tryz.func131 (by kernel_rfl) rfl
theorem IY:cE Tryz.prog 132:=enters_of Tryz.func132 (by kernel_rfl) rfl
theorem IX:cE Tryz.prog 133:=enters_of Tryz.func133 (by kernel_rfl) rfl
theorem ER:cE Tryz.prog 134:=enters_of Tryz.func134 (by kernel_rfl) rfl
theorem B3:cE Tryz.prog 135:=enters_of Tryz.func135 (by kernel_rfl) rfl
theorem IW:cE Tryz.prog 136:=enters_of Tryz.func136 (by kernel_rfl) rfl
theorem IV:cE Tryz.prog 137:=enters_of Tryz.func137 (by kernel_rfl) rfl
theorem IU:cE Tryz.prog 138:=enters_of Tryz.func138 (by kernel_rfl) rfl
theorem IT:cE Tryz.prog 139:=enters_of Tryz.func139 (by kernel_rfl) rfl
theorem EP:cE Tryz.prog 140:=enters_of Tryz.func140 (by kernel_rfl) rfl
theorem IS:cE Tryz.prog 141:=enters_of Tryz.func141 (by kernel_rfl) rfl
theorem IQ:cE Tryz.prog 142:=enters_of Tryz.func142 (by kernel_rfl) rfl
theorem IP:cE Tryz.prog 143:=enters_of Tryz.func143 (by kernel_rfl) rfl
theorem IN:cE Tryz.prog 144:=enters_of Tryz.func144 (by kernel_rfl) rfl
theorem IM:cE Tryz.prog 145:=enters_of Tryz.func145 (by kernel_rfl) rfl
theorem IL:cE Tryz.prog 146:=enters_of Tryz.func146 (by kernel_rfl) rfl
theorem IK:cE Tryz.prog 147:=enters_of Tryz.func147 (by kernel_rfl) rfl
theorem EO:cE Tryz.prog 148:=enters_of Tryz.func148 (by kernel_rfl) rfl
theorem EN:cE Tryz.prog 149:=enters_of Tryz.func149 (by kernel_rfl) rfl
theorem B2:cE Tryz.prog 150:=enters_of Tryz.func150 (by kernel_rfl) rfl
theorem EM:cE Tryz.prog 151:=enters_of Tryz.func151 (by kernel_rfl) rfl
theorem EL:cE Tryz.prog 152:=enters_of Tryz.func152 (by kernel_rfl) rfl
theorem yb:cE Tryz.prog 153:=enters_of Tryz.func153 (by kernel_rfl) rfl
theorem IJ:cE Tryz.prog 154:=enters_of Tryz.func154 (by kernel_rfl) rfl
theorem II:cE Tryz.prog 155:=enters_of Tryz.func155 (by kernel_rfl) rfl
theorem IH:cE Tryz.prog 156:=enters_of Tryz.func156 (by kernel_rfl) rfl
theorem IG:cE Tryz.prog 157:=enters_of Tryz.func157 (by kernel_rfl) rfl
theorem IF:cE Tryz.prog 158:=enters_of Tryz.func158 (by kernel_rfl) rfl
theorem IE:cE Tryz.prog 159:=enters_of Tryz.func159 (by kernel_rfl) rfl
theorem ID:cE Tryz.prog 160:=enters_of Tryz.func160 (by kernel_rfl) rfl
theorem IC:cE Tryz.prog 161:=enters_of Tryz.func161 (by kernel_rfl) rfl
theorem IB:cE Tryz.prog 162:=enters_of Tryz.func162 (by kernel_rfl) rfl
theorem IA:cE Tryz.prog 163:=enters_of Tryz.func163 (by kernel_rfl) rfl
theorem Iz:cE Tryz.prog 164:=enters_of Tryz.func164 (by kernel_rfl) rfl
theorem Iy:cE Tryz.prog 165:=enters_of Tryz.func165 (by kernel_rfl) rfl
theorem Ix:cE Tryz.prog 166:=enters_of Tryz.func166 (by kernel_rfl) rfl
theorem Iw:cE Tryz.prog 167:=enters_of Tryz.func167 (by kernel_rfl) rfl
theorem EK:cE Tryz.prog 168:=enters_of Tryz.func168 (by kernel_rfl) rfl
theorem Iv:cE Tryz.prog 169:=enters_of Tryz.func169 (by kernel_rfl) rfl
theorem Iu:cE Tryz.prog 174:=enters_of Tryz.func174 (by kernel_rfl) rfl
theorem It:cE Tryz.prog 175:=enters_of Tryz.func175 (by kernel_rfl) rfl
theorem Is:cE Tryz.prog 178:=enters_of Tryz.func178 (by kernel_rfl) rfl
theorem Ir:cE Tryz.prog 179:=enters_of Tryz.func179 (by kernel_rfl) rfl
theorem Iq:cE Tryz.prog 180:=enters_of Tryz.func180 (by kernel_rfl) rfl
theorem Ip:cE Tryz.prog 181:=enters_of Tryz.func181 (by kernel_rfl) rfl
theorem Io:cE Tryz.prog 182:=enters_of Tryz.func182 (by kernel_rfl) rfl
theorem Im:cE Tryz.prog 183:=enters_of Tryz.func183 (by kernel_rfl) rfl
theorem Il:cE Tryz.prog 184:=enters_of Tryz.func184 (by kernel_rfl) rfl
theorem Ik:cE Tryz.prog 185:=enters_of Tryz.func185 (by kernel_rfl) rfl
theorem Ij:cE Tryz.prog 186:=enters_of Tryz.func186 (by kernel_rfl) rfl
theorem Ii:cE Tryz.prog 187:=enters_of Tryz.func187 (by kernel_rfl) rfl
theorem Ih:cE Tryz.prog 188:=enters_of Tryz.func188 (by kernel_rfl) rfl
theorem Ig:cE Tryz.prog 189:=enters_of Tryz.func189 (by kernel_rfl) rfl
theorem Ie:cE Tryz.prog 190:=enters_of Tryz.func190 (by kernel_rfl) rfl
theorem Ic:cE Tryz.prog 191:=enters_of Tryz.func191 (by kernel_rfl) rfl
theorem Ib:cE Tryz.prog 192:=enters_of Tryz.func192 (by kernel_rfl) rfl
theorem Ia:cE Tryz.prog 193:=enters_of Tryz.func193 (by kernel_rfl) rfl
theorem H9:cE Tryz.prog 194:=enters_of Tryz.func194 (by kernel_rfl) rfl
theorem H8:cE Tryz.prog 195:=enters_of Tryz.func195 (by kernel_rfl) rfl
theorem H7:cE Tryz.prog 196:=enters_of Tryz.func196 (by kernel_rfl) rfl
theorem H6:cE Tryz.prog 197:=enters_of Tryz.func197 (by kernel_rfl) rfl
theorem H5:cE Tryz.prog 198:=enters_of Tryz.func198 (by kernel_rfl) rfl
theorem H4:cE Tryz.prog 199:=enters_of Tryz.func199 (by kernel_rfl) rfl
theorem EJ:cE Tryz.prog 200:=enters_of Tryz.func200 (by kernel_rfl) rfl
theorem H3:cE Tryz.prog 201:=enters_of Tryz.func201 (by kernel_rfl) rfl
theorem H2:cE Tryz.prog 202:=enters_of Tryz.func202 (by kernel_rfl) rfl
theorem H0:cE Tryz.prog 203:=enters_of Tryz.func203 (by kernel_rfl) rfl
theorem HZ:cE Tryz.prog 204:=enters_of Tryz.func204 (by kernel_rfl) rfl
theorem HY:cE Tryz.prog 205:=enters_of Tryz.func205 (by kernel_rfl) rfl
theorem HX:cE Tryz.prog 206:=enters_of Tryz.func206 (by kernel_rfl) rfl
theorem HW:cE Tryz.prog 207:=enters_of Tryz.func207 (by kernel_rfl) rfl
theorem EI:cE Tryz.prog 208:=enters_of Tryz.func208 (by kernel_rfl) rfl
theorem EH:cE Tryz.prog 209:=enters_of Tryz.func209 (by kernel_rfl) rfl
theorem HV:cE Tryz.prog 210:=enters_of Tryz.func210 (by kernel_rfl) rfl
theorem HU:cE Tryz.prog 211:=enters_of Tryz.func211 (by kernel_rfl) rfl
theorem HT:cE Tryz.prog 212:=enters_of Tryz.func212 (by kernel_rfl) rfl
theorem HS:cE Tryz.prog 213:=enters_of Tryz.func213 (by kernel_rfl) rfl
theorem HR:cE Tryz.prog 214:=enters_of Tryz.func214 (by kernel_rfl) rfl
theorem HQ:cE Tryz.prog 215:=enters_of Tryz.func215 (by kernel_rfl) rfl
theorem HO:cE Tryz.prog 216:=enters_of Tryz.func216 (by kernel_rfl) rfl
theorem HN:cE Tryz.prog 217:=enters_of Tryz.func217 (by kernel_rfl) rfl
theorem HM:cE Tryz.prog 220:=enters_of Tryz.func220 (by kernel_rfl) rfl
theorem HL:cE Tryz.prog 221:=enters_of Tryz.func221 (by kernel_rfl) rfl
theorem HK:cE Tryz.prog 222:=enters_of Tryz.func222 (by kernel_rfl) rfl
theorem HJ:cE Tryz.prog 223:=enters_of Tryz.func223 (by kernel_rfl) rfl
theorem EG:cE Tryz.prog 224:=enters_of Tryz.func224 (by kernel_rfl) rfl
theorem EF:cE Tryz.prog 225:=enters_of Tryz.func225 (by kernel_rfl) rfl
theorem HI:cE Tryz.prog 226:=enters_of Tryz.func226 (by kernel_rfl) rfl
theorem HH:cE Tryz.prog 227:=enters_of Tryz.func227 (by kernel_rfl) rfl
theorem HG:cE Tryz.prog 228:=enters_of Tryz.func228 (by kernel_rfl) rfl
theorem HF:cE Tryz.prog 229:=enters_of Tryz.func229 (by kernel_rfl) rfl
theorem HE:cE Tryz.prog 230:=enters_of Tryz.func230 (by kernel_rfl) rfl
theorem HD:cE Tryz.prog 231:=enters_of Tryz.func231 (by kernel_rfl) rfl
theorem HC:cE Tryz.prog 232:=enters_of Tryz.func232 (by kernel_rfl) rfl
theorem HB:cE Tryz.prog 233:=enters_of Tryz.func233 (by kernel_rfl) rfl
theorem HA:cE Tryz.prog 234:=enters_of Tryz.func234 (by kernel_rfl) rfl
theorem Hz:cE Tryz.prog 235:=enters_of Tryz.func235 (by kernel_rfl) rfl
theorem Hy:cE Tryz.prog 236:=enters_of Tryz.func236 (by kernel_rfl) rfl
theorem Hw:cE Tryz.prog 237:=enters_of Tryz.func237 (by kernel_rfl) rfl
theorem Hv:cE Tryz.prog 238:=enters_of Tryz.func238 (by kernel_rfl) rfl
theorem Hu:cE Tryz.prog 239:=enters_of Tryz.func239 (by kernel_rfl) rfl
theorem Ht:cE Tryz.prog 240:=enters_of Tryz.func240 (by kernel_rfl) rfl
theorem Hr:cE Tryz.prog 243:=enters_of Tryz.func243 (by kernel_rfl) rfl
theorem Hq:cE Tryz.prog 244:=enters_of Tryz.func244 (by kernel_rfl) rfl
theorem Ho:cE Tryz.prog 245:=enters_of Tryz.func245 (by kernel_rfl) rfl
theorem Hn:cE Tryz.prog 246:=enters_of Tryz.func246 (by kernel_rfl) rfl
end Ty
end Go.Proofs.YthkajgkagnenbaaGreatDoor
