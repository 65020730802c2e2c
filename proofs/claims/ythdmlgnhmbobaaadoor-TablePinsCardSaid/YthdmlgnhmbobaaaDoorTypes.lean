/- Closed facts on the types and the functions of this translation, each by the kernel. -/
import Derived.Test.YthdmlgnhmbobaaaDoorProg
import Derived.Test.YthdmlgnhmbobaaaDoorEngOps
import Derived.Test.YthdmlgnhmbobaaaDoorEngMore
import Derived.Test.YthdmlgnhmbobaaaDoorEngDraw
import Derived.Test.YthdmlgnhmbobaaaDoorEngMap
import Derived.Test.YthdmlgnhmbobaaaDoorEngStr
import Derived.KernelRfl
import Derived.Shelf.Abstract
import Derived.RowKit3
import Derived.Laws.OwnMore
set_option linter.unusedVariables false
namespace Go.Proofs.YthdmlgnhmbobaaaDoor.Ty
open Go.RowKit Go.Proofs
theorem mixed : Tryd.prog.follows .mixedOrders = true := by kernel_rfl
theorem ty_agg2 : ∀ w, (isAgg 2).run Tryd.prog w = .ok false w := fun w => by kernel_rfl
theorem ty_agg3 : ∀ w, (isAgg 3).run Tryd.prog w = .ok false w := fun w => by kernel_rfl
theorem ty_agg4 : ∀ w, (isAgg 4).run Tryd.prog w = .ok false w := fun w => by kernel_rfl
theorem ty_agg5 : ∀ w, (isAgg 5).run Tryd.prog w = .ok false w := fun w => by kernel_rfl
theorem ty_agg6 : ∀ w, (isAgg 6).run Tryd.prog w = .ok false w := fun w => by kernel_rfl
theorem ty_agg7 : ∀ w, (isAgg 7).run Tryd.prog w = .ok true w := fun w => by kernel_rfl
theorem ty_agg8 : ∀ w, (isAgg 8).run Tryd.prog w = .ok true w := fun w => by kernel_rfl
theorem ty_agg9 : ∀ w, (isAgg 9).run Tryd.prog w = .ok false w := fun w => by kernel_rfl
theorem ty_agg10 : ∀ w, (isAgg 10).run Tryd.prog w = .ok false w := fun w => by kernel_rfl
theorem ty_agg11 : ∀ w, (isAgg 11).run Tryd.prog w = .ok false w := fun w => by kernel_rfl
theorem ty_agg12 : ∀ w, (isAgg 12).run Tryd.prog w = .ok false w := fun w => by kernel_rfl
theorem ty_agg13 : ∀ w, (isAgg 13).run Tryd.prog w = .ok true w := fun w => by kernel_rfl
theorem ty_agg14 : ∀ w, (isAgg 14).run Tryd.prog w = .ok true w := fun w => by kernel_rfl
theorem ty_agg15 : ∀ w, (isAgg 15).run Tryd.prog w = .ok false w := fun w => by kernel_rfl
theorem ty_agg16 : ∀ w, (isAgg 16).run Tryd.prog w = .ok false w := fun w => by kernel_rfl
theorem ty_agg17 : ∀ w, (isAgg 17).run Tryd.prog w = .ok false w := fun w => by kernel_rfl
theorem ty_agg18 : ∀ w, (isAgg 18).run Tryd.prog w = .ok true w := fun w => by kernel_rfl
theorem ty_agg19 : ∀ w, (isAgg 19).run Tryd.prog w = .ok true w := fun w => by kernel_rfl
theorem ty_agg21 : ∀ w, (isAgg 21).run Tryd.prog w = .ok false w := fun w => by kernel_rfl
theorem ty_agg22 : ∀ w, (isAgg 22).run Tryd.prog w = .ok false w := fun w => by kernel_rfl
theorem ty_agg23 : ∀ w, (isAgg 23).run Tryd.prog w = .ok false w := fun w => by kernel_rfl
theorem ty_agg24 : ∀ w, (isAgg 24).run Tryd.prog w = .ok true w := fun w => by kernel_rfl
theorem ty_agg25 : ∀ w, (isAgg 25).run Tryd.prog w = .ok true w := fun w => by kernel_rfl
theorem ty_agg26 : ∀ w, (isAgg 26).run Tryd.prog w = .ok true w := fun w => by kernel_rfl
theorem ty_agg27 : ∀ w, (isAgg 27).run Tryd.prog w = .ok true w := fun w => by kernel_rfl
theorem ty_agg30 : ∀ w, (isAgg 30).run Tryd.prog w = .ok false w := fun w => by kernel_rfl
theorem ty_agg31 : ∀ w, (isAgg 31).run Tryd.prog w = .ok false w := fun w => by kernel_rfl
theorem ty_agg35 : ∀ w, (isAgg 35).run Tryd.prog w = .ok true w := fun w => by kernel_rfl
theorem ty_agg36 : ∀ w, (isAgg 36).run Tryd.prog w = .ok true w := fun w => by kernel_rfl
theorem ty_agg45 : ∀ w, (isAgg 45).run Tryd.prog w = .ok false w := fun w => by kernel_rfl
theorem ty_agg46 : ∀ w, (isAgg 46).run Tryd.prog w = .ok false w := fun w => by kernel_rfl
theorem ty_agg47 : ∀ w, (isAgg 47).run Tryd.prog w = .ok true w := fun w => by kernel_rfl
theorem ty_agg48 : ∀ w, (isAgg 48).run Tryd.prog w = .ok true w := fun w => by kernel_rfl
theorem ty_agg49 : ∀ w, (isAgg 49).run Tryd.prog w = .ok false w := fun w => by kernel_rfl
theorem ty_agg53 : ∀ w, (isAgg 53).run Tryd.prog w = .ok true w := fun w => by kernel_rfl
theorem ty_agg54 : ∀ w, (isAgg 54).run Tryd.prog w = .ok true w := fun w => by kernel_rfl
theorem ty_agg57 : ∀ w, (isAgg 57).run Tryd.prog w = .ok false w := fun w => by kernel_rfl
theorem ty_agg58 : ∀ w, (isAgg 58).run Tryd.prog w = .ok false w := fun w => by kernel_rfl
theorem ty_agg61 : ∀ w, (isAgg 61).run Tryd.prog w = .ok false w := fun w => by kernel_rfl
theorem ty_agg62 : ∀ w, (isAgg 62).run Tryd.prog w = .ok false w := fun w => by kernel_rfl
theorem ty_agg63 : ∀ w, (isAgg 63).run Tryd.prog w = .ok true w := fun w => by kernel_rfl
theorem ty_agg64 : ∀ w, (isAgg 64).run Tryd.prog w = .ok true w := fun w => by kernel_rfl
theorem ty_agg65 : ∀ w, (isAgg 65).run Tryd.prog w = .ok true w := fun w => by kernel_rfl
theorem ty_agg66 : ∀ w, (isAgg 66).run Tryd.prog w = .ok true w := fun w => by kernel_rfl
theorem ty_agg67 : ∀ w, (isAgg 67).run Tryd.prog w = .ok false w := fun w => by kernel_rfl
theorem ty_agg68 : ∀ w, (isAgg 68).run Tryd.prog w = .ok true w := fun w => by kernel_rfl
theorem ty_agg69 : ∀ w, (isAgg 69).run Tryd.prog w = .ok true w := fun w => by kernel_rfl
theorem ty_agg73 : ∀ w, (isAgg 73).run Tryd.prog w = .ok true w := fun w => by kernel_rfl
theorem ty_agg74 : ∀ w, (isAgg 74).run Tryd.prog w = .ok true w := fun w => by kernel_rfl
theorem ty_agg75 : ∀ w, (isAgg 75).run Tryd.prog w = .ok true w := fun w => by kernel_rfl
theorem ty_agg85 : ∀ w, (isAgg 85).run Tryd.prog w = .ok false w := fun w => by kernel_rfl
theorem ty_agg88 : ∀ w, (isAgg 88).run Tryd.prog w = .ok false w := fun w => by kernel_rfl
theorem ty_agg89 : ∀ w, (isAgg 89).run Tryd.prog w = .ok false w := fun w => by kernel_rfl
theorem ty_agg90 : ∀ w, (isAgg 90).run Tryd.prog w = .ok true w := fun w => by kernel_rfl
theorem ty_agg91 : ∀ w, (isAgg 91).run Tryd.prog w = .ok true w := fun w => by kernel_rfl
theorem ty_agg95 : ∀ w, (isAgg 95).run Tryd.prog w = .ok true w := fun w => by kernel_rfl
theorem ty_agg96 : ∀ w, (isAgg 96).run Tryd.prog w = .ok true w := fun w => by kernel_rfl
theorem ty_agg101 : ∀ w, (isAgg 101).run Tryd.prog w = .ok true w := fun w => by kernel_rfl
theorem ty_agg102 : ∀ w, (isAgg 102).run Tryd.prog w = .ok true w := fun w => by kernel_rfl
theorem ty_agg105 : ∀ w, (isAgg 105).run Tryd.prog w = .ok false w := fun w => by kernel_rfl
theorem ty_agg106 : ∀ w, (isAgg 106).run Tryd.prog w = .ok false w := fun w => by kernel_rfl
theorem ty_agg111 : ∀ w, (isAgg 111).run Tryd.prog w = .ok false w := fun w => by kernel_rfl
theorem ty_agg114 : ∀ w, (isAgg 114).run Tryd.prog w = .ok false w := fun w => by kernel_rfl
theorem ty_agg117 : ∀ w, (isAgg 117).run Tryd.prog w = .ok true w := fun w => by kernel_rfl
theorem ty_agg118 : ∀ w, (isAgg 118).run Tryd.prog w = .ok true w := fun w => by kernel_rfl
theorem ty_agg121 : ∀ w, (isAgg 121).run Tryd.prog w = .ok true w := fun w => by kernel_rfl
theorem ty_agg122 : ∀ w, (isAgg 122).run Tryd.prog w = .ok true w := fun w => by kernel_rfl
theorem ty_agg123 : ∀ w, (isAgg 123).run Tryd.prog w = .ok true w := fun w => by kernel_rfl
theorem ty_agg128 : ∀ w, (isAgg 128).run Tryd.prog w = .ok true w := fun w => by kernel_rfl
theorem ty_agg129 : ∀ w, (isAgg 129).run Tryd.prog w = .ok true w := fun w => by kernel_rfl
theorem ty_agg144 : ∀ w, (isAgg 144).run Tryd.prog w = .ok true w := fun w => by kernel_rfl
theorem ty_agg145 : ∀ w, (isAgg 145).run Tryd.prog w = .ok true w := fun w => by kernel_rfl
theorem ty_agg146 : ∀ w, (isAgg 146).run Tryd.prog w = .ok true w := fun w => by kernel_rfl
theorem ty_agg148 : ∀ w, (isAgg 148).run Tryd.prog w = .ok false w := fun w => by kernel_rfl
theorem ty_agg150 : ∀ w, (isAgg 150).run Tryd.prog w = .ok true w := fun w => by kernel_rfl
theorem ty_agg151 : ∀ w, (isAgg 151).run Tryd.prog w = .ok true w := fun w => by kernel_rfl
theorem ty_agg161 : ∀ w, (isAgg 161).run Tryd.prog w = .ok true w := fun w => by kernel_rfl
theorem ty_agg162 : ∀ w, (isAgg 162).run Tryd.prog w = .ok true w := fun w => by kernel_rfl
theorem ty_agg171 : ∀ w, (isAgg 171).run Tryd.prog w = .ok true w := fun w => by kernel_rfl
theorem ty_agg172 : ∀ w, (isAgg 172).run Tryd.prog w = .ok true w := fun w => by kernel_rfl
theorem ty_agg173 : ∀ w, (isAgg 173).run Tryd.prog w = .ok true w := fun w => by kernel_rfl
theorem ty_agg174 : ∀ w, (isAgg 174).run Tryd.prog w = .ok true w := fun w => by kernel_rfl
theorem ty_agg175 : ∀ w, (isAgg 175).run Tryd.prog w = .ok false w := fun w => by kernel_rfl
theorem ty_agg176 : ∀ w, (isAgg 176).run Tryd.prog w = .ok true w := fun w => by kernel_rfl
theorem ty_agg177 : ∀ w, (isAgg 177).run Tryd.prog w = .ok true w := fun w => by kernel_rfl
theorem ty_agg181 : ∀ w, (isAgg 181).run Tryd.prog w = .ok true w := fun w => by kernel_rfl
theorem ty_agg194 : ∀ w, (isAgg 194).run Tryd.prog w = .ok false w := fun w => by kernel_rfl
theorem ty_agg195 : ∀ w, (isAgg 195).run Tryd.prog w = .ok false w := fun w => by kernel_rfl
theorem ty_agg196 : ∀ w, (isAgg 196).run Tryd.prog w = .ok false w := fun w => by kernel_rfl
theorem ty_agg204 : ∀ w, (isAgg 204).run Tryd.prog w = .ok true w := fun w => by kernel_rfl
theorem ty_agg205 : ∀ w, (isAgg 205).run Tryd.prog w = .ok true w := fun w => by kernel_rfl
theorem ty_agg207 : ∀ w, (isAgg 207).run Tryd.prog w = .ok true w := fun w => by kernel_rfl
theorem ty_agg208 : ∀ w, (isAgg 208).run Tryd.prog w = .ok true w := fun w => by kernel_rfl
theorem ty_agg209 : ∀ w, (isAgg 209).run Tryd.prog w = .ok true w := fun w => by kernel_rfl
theorem ty_agg210 : ∀ w, (isAgg 210).run Tryd.prog w = .ok true w := fun w => by kernel_rfl
theorem ty_agg211 : ∀ w, (isAgg 211).run Tryd.prog w = .ok true w := fun w => by kernel_rfl
theorem ty_agg212 : ∀ w, (isAgg 212).run Tryd.prog w = .ok false w := fun w => by kernel_rfl
theorem ty_agg213 : ∀ w, (isAgg 213).run Tryd.prog w = .ok false w := fun w => by kernel_rfl
theorem ty_agg214 : ∀ w, (isAgg 214).run Tryd.prog w = .ok false w := fun w => by kernel_rfl
theorem ty_agg216 : ∀ w, (isAgg 216).run Tryd.prog w = .ok false w := fun w => by kernel_rfl
theorem ty_agg217 : ∀ w, (isAgg 217).run Tryd.prog w = .ok false w := fun w => by kernel_rfl
theorem ty_agg218 : ∀ w, (isAgg 218).run Tryd.prog w = .ok false w := fun w => by kernel_rfl
theorem ty_agg219 : ∀ w, (isAgg 219).run Tryd.prog w = .ok true w := fun w => by kernel_rfl
theorem ty_agg220 : ∀ w, (isAgg 220).run Tryd.prog w = .ok true w := fun w => by kernel_rfl
theorem ty_guard27 : Tryd.prog.eqGuardType Tryd.prog.depth 27 = false := by kernel_rfl
theorem ty_held27 : Tryd.prog.stoodInHeld 27 = false := by kernel_rfl
theorem ty_guard54 : Tryd.prog.eqGuardType Tryd.prog.depth 54 = false := by kernel_rfl
theorem ty_held54 : Tryd.prog.stoodInHeld 54 = false := by kernel_rfl
theorem ty_guard66 : Tryd.prog.eqGuardType Tryd.prog.depth 66 = false := by kernel_rfl
theorem ty_held66 : Tryd.prog.stoodInHeld 66 = false := by kernel_rfl
theorem ty_guard73 : Tryd.prog.eqGuardType Tryd.prog.depth 73 = false := by kernel_rfl
theorem ty_held73 : Tryd.prog.stoodInHeld 73 = false := by kernel_rfl
theorem ty_guard75 : Tryd.prog.eqGuardType Tryd.prog.depth 75 = false := by kernel_rfl
theorem ty_held75 : Tryd.prog.stoodInHeld 75 = false := by kernel_rfl
theorem ty_guard102 : Tryd.prog.eqGuardType Tryd.prog.depth 102 = false := by kernel_rfl
theorem ty_held102 : Tryd.prog.stoodInHeld 102 = false := by kernel_rfl
theorem ty_guard122 : Tryd.prog.eqGuardType Tryd.prog.depth 122 = false := by kernel_rfl
theorem ty_held122 : Tryd.prog.stoodInHeld 122 = false := by kernel_rfl
theorem ty_guard129 : Tryd.prog.eqGuardType Tryd.prog.depth 129 = false := by kernel_rfl
theorem ty_held129 : Tryd.prog.stoodInHeld 129 = false := by kernel_rfl
theorem ty_guard145 : Tryd.prog.eqGuardType Tryd.prog.depth 145 = false := by kernel_rfl
theorem ty_held145 : Tryd.prog.stoodInHeld 145 = false := by kernel_rfl
theorem ty_guard162 : Tryd.prog.eqGuardType Tryd.prog.depth 162 = false := by kernel_rfl
theorem ty_held162 : Tryd.prog.stoodInHeld 162 = false := by kernel_rfl
theorem ty_guard174 : Tryd.prog.eqGuardType Tryd.prog.depth 174 = false := by kernel_rfl
theorem ty_held174 : Tryd.prog.stoodInHeld 174 = false := by kernel_rfl
theorem ty_pl7 : ∀ w, (Eng.placesOf 7).run Tryd.prog w = .ok #[(0, 1), (1, 1), (2, 1), (3, 1)] w := fun w => by kernel_rfl
theorem ty_pl8 : ∀ w, (Eng.placesOf 8).run Tryd.prog w = .ok #[(0, 1), (1, 1), (2, 1), (3, 1)] w := fun w => by kernel_rfl
theorem ty_pl13 : ∀ w, (Eng.placesOf 13).run Tryd.prog w = .ok #[(0, 1), (1, 1)] w := fun w => by kernel_rfl
theorem ty_pl14 : ∀ w, (Eng.placesOf 14).run Tryd.prog w = .ok #[(0, 1), (1, 1)] w := fun w => by kernel_rfl
theorem ty_pl18 : ∀ w, (Eng.placesOf 18).run Tryd.prog w = .ok #[(0, 1)] w := fun w => by kernel_rfl
theorem ty_pl19 : ∀ w, (Eng.placesOf 19).run Tryd.prog w = .ok #[(0, 1)] w := fun w => by kernel_rfl
theorem ty_pl24 : ∀ w, (Eng.placesOf 24).run Tryd.prog w = .ok #[(0, 1), (1, 1), (2, 1), (3, 1)] w := fun w => by kernel_rfl
theorem ty_pl25 : ∀ w, (Eng.placesOf 25).run Tryd.prog w = .ok #[(0, 1), (1, 1), (2, 1), (3, 1)] w := fun w => by kernel_rfl
theorem ty_pl26 : ∀ w, (Eng.placesOf 26).run Tryd.prog w = .ok #[(0, 1), (1, 1), (2, 1), (3, 1), (4, 1), (5, 1), (6, 1), (7, 1), (8, 1)] w := fun w => by kernel_rfl
theorem ty_pl27 : ∀ w, (Eng.placesOf 27).run Tryd.prog w = .ok #[(0, 1), (1, 1), (2, 1), (3, 1), (4, 1), (5, 1), (6, 1), (7, 1), (8, 1)] w := fun w => by kernel_rfl
theorem ty_pl35 : ∀ w, (Eng.placesOf 35).run Tryd.prog w = .ok #[(0, 1), (1, 9), (10, 1)] w := fun w => by kernel_rfl
theorem ty_pl36 : ∀ w, (Eng.placesOf 36).run Tryd.prog w = .ok #[(0, 1), (1, 9), (10, 1)] w := fun w => by kernel_rfl
theorem ty_pl47 : ∀ w, (Eng.placesOf 47).run Tryd.prog w = .ok #[(0, 1), (1, 1), (2, 1), (3, 1)] w := fun w => by kernel_rfl
theorem ty_pl48 : ∀ w, (Eng.placesOf 48).run Tryd.prog w = .ok #[(0, 1), (1, 1), (2, 1), (3, 1)] w := fun w => by kernel_rfl
theorem ty_pl53 : ∀ w, (Eng.placesOf 53).run Tryd.prog w = .ok #[(0, 1), (1, 1), (2, 1)] w := fun w => by kernel_rfl
theorem ty_pl54 : ∀ w, (Eng.placesOf 54).run Tryd.prog w = .ok #[(0, 1), (1, 1), (2, 1)] w := fun w => by kernel_rfl
theorem ty_pl63 : ∀ w, (Eng.placesOf 63).run Tryd.prog w = .ok #[(0, 1), (1, 1), (2, 1), (3, 1)] w := fun w => by kernel_rfl
theorem ty_pl64 : ∀ w, (Eng.placesOf 64).run Tryd.prog w = .ok #[(0, 1), (1, 1), (2, 1), (3, 1)] w := fun w => by kernel_rfl
theorem ty_pl65 : ∀ w, (Eng.placesOf 65).run Tryd.prog w = .ok #[(0, 1), (1, 1)] w := fun w => by kernel_rfl
theorem ty_pl66 : ∀ w, (Eng.placesOf 66).run Tryd.prog w = .ok #[(0, 1), (1, 1)] w := fun w => by kernel_rfl
theorem ty_pl68 : ∀ w, (Eng.placesOf 68).run Tryd.prog w = .ok #[(0, 1), (1, 9), (10, 11), (21, 4), (25, 1), (26, 1)] w := fun w => by kernel_rfl
theorem ty_pl69 : ∀ w, (Eng.placesOf 69).run Tryd.prog w = .ok #[(0, 1), (1, 9), (10, 11), (21, 4), (25, 1), (26, 1)] w := fun w => by kernel_rfl
theorem ty_pl73 : ∀ w, (Eng.placesOf 73).run Tryd.prog w = .ok #[(0, 1), (1, 1), (2, 1)] w := fun w => by kernel_rfl
theorem ty_pl74 : ∀ w, (Eng.placesOf 74).run Tryd.prog w = .ok #[(0, 1), (1, 1), (2, 1), (3, 1), (4, 1), (5, 1), (6, 1), (7, 1)] w := fun w => by kernel_rfl
theorem ty_pl75 : ∀ w, (Eng.placesOf 75).run Tryd.prog w = .ok #[(0, 1), (1, 1), (2, 1), (3, 1), (4, 1), (5, 1), (6, 1), (7, 1)] w := fun w => by kernel_rfl
theorem ty_pl90 : ∀ w, (Eng.placesOf 90).run Tryd.prog w = .ok #[(0, 1), (1, 1), (2, 1), (3, 1), (4, 1), (5, 1), (6, 1)] w := fun w => by kernel_rfl
theorem ty_pl91 : ∀ w, (Eng.placesOf 91).run Tryd.prog w = .ok #[(0, 1), (1, 1), (2, 1), (3, 1), (4, 1), (5, 1), (6, 1)] w := fun w => by kernel_rfl
theorem ty_pl95 : ∀ w, (Eng.placesOf 95).run Tryd.prog w = .ok #[(0, 1), (1, 9), (10, 1)] w := fun w => by kernel_rfl
theorem ty_pl96 : ∀ w, (Eng.placesOf 96).run Tryd.prog w = .ok #[(0, 1), (1, 9), (10, 1)] w := fun w => by kernel_rfl
theorem ty_pl101 : ∀ w, (Eng.placesOf 101).run Tryd.prog w = .ok #[(0, 1), (1, 1), (2, 1), (3, 1)] w := fun w => by kernel_rfl
theorem ty_pl102 : ∀ w, (Eng.placesOf 102).run Tryd.prog w = .ok #[(0, 1), (1, 1), (2, 1), (3, 1)] w := fun w => by kernel_rfl
theorem ty_pl117 : ∀ w, (Eng.placesOf 117).run Tryd.prog w = .ok #[(0, 1), (1, 9), (10, 1)] w := fun w => by kernel_rfl
theorem ty_pl118 : ∀ w, (Eng.placesOf 118).run Tryd.prog w = .ok #[(0, 1), (1, 9), (10, 1)] w := fun w => by kernel_rfl
theorem ty_pl121 : ∀ w, (Eng.placesOf 121).run Tryd.prog w = .ok #[(0, 1), (1, 1), (2, 1), (3, 1), (4, 1)] w := fun w => by kernel_rfl
theorem ty_pl122 : ∀ w, (Eng.placesOf 122).run Tryd.prog w = .ok #[(0, 1), (1, 1), (2, 1), (3, 1), (4, 1)] w := fun w => by kernel_rfl
theorem ty_pl128 : ∀ w, (Eng.placesOf 128).run Tryd.prog w = .ok #[(0, 1), (1, 1), (2, 1), (3, 1)] w := fun w => by kernel_rfl
theorem ty_pl129 : ∀ w, (Eng.placesOf 129).run Tryd.prog w = .ok #[(0, 1), (1, 1), (2, 1), (3, 1)] w := fun w => by kernel_rfl
theorem ty_pl144 : ∀ w, (Eng.placesOf 144).run Tryd.prog w = .ok #[(0, 1), (1, 1), (2, 1), (3, 1), (4, 1)] w := fun w => by kernel_rfl
theorem ty_pl145 : ∀ w, (Eng.placesOf 145).run Tryd.prog w = .ok #[(0, 1), (1, 1), (2, 1), (3, 1), (4, 1)] w := fun w => by kernel_rfl
theorem ty_pl150 : ∀ w, (Eng.placesOf 150).run Tryd.prog w = .ok #[(0, 1)] w := fun w => by kernel_rfl
theorem ty_pl151 : ∀ w, (Eng.placesOf 151).run Tryd.prog w = .ok #[(0, 1)] w := fun w => by kernel_rfl
theorem ty_pl161 : ∀ w, (Eng.placesOf 161).run Tryd.prog w = .ok #[(0, 1)] w := fun w => by kernel_rfl
theorem ty_pl162 : ∀ w, (Eng.placesOf 162).run Tryd.prog w = .ok #[(0, 1)] w := fun w => by kernel_rfl
theorem ty_pl171 : ∀ w, (Eng.placesOf 171).run Tryd.prog w = .ok #[(0, 1)] w := fun w => by kernel_rfl
theorem ty_pl172 : ∀ w, (Eng.placesOf 172).run Tryd.prog w = .ok #[(0, 1)] w := fun w => by kernel_rfl
theorem ty_pl173 : ∀ w, (Eng.placesOf 173).run Tryd.prog w = .ok #[(0, 1), (1, 1)] w := fun w => by kernel_rfl
theorem ty_pl174 : ∀ w, (Eng.placesOf 174).run Tryd.prog w = .ok #[(0, 1), (1, 1)] w := fun w => by kernel_rfl
theorem ty_pl176 : ∀ w, (Eng.placesOf 176).run Tryd.prog w = .ok #[(0, 1)] w := fun w => by kernel_rfl
theorem ty_pl177 : ∀ w, (Eng.placesOf 177).run Tryd.prog w = .ok #[(0, 1)] w := fun w => by kernel_rfl
theorem ty_pl207 : ∀ w, (Eng.placesOf 207).run Tryd.prog w = .ok #[(0, 1), (1, 1), (2, 1), (3, 1)] w := fun w => by kernel_rfl
theorem ty_pl208 : ∀ w, (Eng.placesOf 208).run Tryd.prog w = .ok #[(0, 1), (1, 1), (2, 1), (3, 1)] w := fun w => by kernel_rfl
theorem ty_pl210 : ∀ w, (Eng.placesOf 210).run Tryd.prog w = .ok #[(0, 0)] w := fun w => by kernel_rfl
theorem ty_pl211 : ∀ w, (Eng.placesOf 211).run Tryd.prog w = .ok #[(0, 0)] w := fun w => by kernel_rfl
theorem ty_pl219 : ∀ w, (Eng.placesOf 219).run Tryd.prog w = .ok #[(0, 1), (1, 1), (2, 1), (3, 1), (4, 1), (5, 1), (6, 1), (7, 1), (8, 1), (9, 1), (10, 1)] w := fun w => by kernel_rfl
theorem ty_pl220 : ∀ w, (Eng.placesOf 220).run Tryd.prog w = .ok #[(0, 1), (1, 1), (2, 1), (3, 1), (4, 1), (5, 1), (6, 1), (7, 1), (8, 1), (9, 1), (10, 1)] w := fun w => by kernel_rfl
theorem ty_size2 : ∀ w, (sizeOf 2).run Tryd.prog w = .ok 1 w := fun w => by kernel_rfl
theorem ty_size3 : ∀ w, (sizeOf 3).run Tryd.prog w = .ok 1 w := fun w => by kernel_rfl
theorem ty_size4 : ∀ w, (sizeOf 4).run Tryd.prog w = .ok 1 w := fun w => by kernel_rfl
theorem ty_size5 : ∀ w, (sizeOf 5).run Tryd.prog w = .ok 1 w := fun w => by kernel_rfl
theorem ty_size6 : ∀ w, (sizeOf 6).run Tryd.prog w = .ok 1 w := fun w => by kernel_rfl
theorem ty_size7 : ∀ w, (sizeOf 7).run Tryd.prog w = .ok 4 w := fun w => by kernel_rfl
theorem ty_size8 : ∀ w, (sizeOf 8).run Tryd.prog w = .ok 4 w := fun w => by kernel_rfl
theorem ty_size9 : ∀ w, (sizeOf 9).run Tryd.prog w = .ok 1 w := fun w => by kernel_rfl
theorem ty_size10 : ∀ w, (sizeOf 10).run Tryd.prog w = .ok 1 w := fun w => by kernel_rfl
theorem ty_size11 : ∀ w, (sizeOf 11).run Tryd.prog w = .ok 1 w := fun w => by kernel_rfl
theorem ty_size12 : ∀ w, (sizeOf 12).run Tryd.prog w = .ok 1 w := fun w => by kernel_rfl
theorem ty_size13 : ∀ w, (sizeOf 13).run Tryd.prog w = .ok 2 w := fun w => by kernel_rfl
theorem ty_size14 : ∀ w, (sizeOf 14).run Tryd.prog w = .ok 2 w := fun w => by kernel_rfl
theorem ty_size15 : ∀ w, (sizeOf 15).run Tryd.prog w = .ok 1 w := fun w => by kernel_rfl
theorem ty_size16 : ∀ w, (sizeOf 16).run Tryd.prog w = .ok 1 w := fun w => by kernel_rfl
theorem ty_size17 : ∀ w, (sizeOf 17).run Tryd.prog w = .ok 1 w := fun w => by kernel_rfl
theorem ty_size18 : ∀ w, (sizeOf 18).run Tryd.prog w = .ok 1 w := fun w => by kernel_rfl
theorem ty_size19 : ∀ w, (sizeOf 19).run Tryd.prog w = .ok 1 w := fun w => by kernel_rfl
theorem ty_size21 : ∀ w, (sizeOf 21).run Tryd.prog w = .ok 1 w := fun w => by kernel_rfl
theorem ty_size22 : ∀ w, (sizeOf 22).run Tryd.prog w = .ok 1 w := fun w => by kernel_rfl
theorem ty_size23 : ∀ w, (sizeOf 23).run Tryd.prog w = .ok 1 w := fun w => by kernel_rfl
theorem ty_size24 : ∀ w, (sizeOf 24).run Tryd.prog w = .ok 4 w := fun w => by kernel_rfl
theorem ty_size25 : ∀ w, (sizeOf 25).run Tryd.prog w = .ok 4 w := fun w => by kernel_rfl
theorem ty_size26 : ∀ w, (sizeOf 26).run Tryd.prog w = .ok 9 w := fun w => by kernel_rfl
theorem ty_size27 : ∀ w, (sizeOf 27).run Tryd.prog w = .ok 9 w := fun w => by kernel_rfl
theorem ty_size30 : ∀ w, (sizeOf 30).run Tryd.prog w = .ok 1 w := fun w => by kernel_rfl
theorem ty_size31 : ∀ w, (sizeOf 31).run Tryd.prog w = .ok 1 w := fun w => by kernel_rfl
theorem ty_size35 : ∀ w, (sizeOf 35).run Tryd.prog w = .ok 11 w := fun w => by kernel_rfl
theorem ty_size36 : ∀ w, (sizeOf 36).run Tryd.prog w = .ok 11 w := fun w => by kernel_rfl
theorem ty_size45 : ∀ w, (sizeOf 45).run Tryd.prog w = .ok 1 w := fun w => by kernel_rfl
theorem ty_size46 : ∀ w, (sizeOf 46).run Tryd.prog w = .ok 1 w := fun w => by kernel_rfl
theorem ty_size47 : ∀ w, (sizeOf 47).run Tryd.prog w = .ok 4 w := fun w => by kernel_rfl
theorem ty_size48 : ∀ w, (sizeOf 48).run Tryd.prog w = .ok 4 w := fun w => by kernel_rfl
theorem ty_size49 : ∀ w, (sizeOf 49).run Tryd.prog w = .ok 1 w := fun w => by kernel_rfl
theorem ty_size53 : ∀ w, (sizeOf 53).run Tryd.prog w = .ok 3 w := fun w => by kernel_rfl
theorem ty_size54 : ∀ w, (sizeOf 54).run Tryd.prog w = .ok 3 w := fun w => by kernel_rfl
theorem ty_size57 : ∀ w, (sizeOf 57).run Tryd.prog w = .ok 1 w := fun w => by kernel_rfl
theorem ty_size58 : ∀ w, (sizeOf 58).run Tryd.prog w = .ok 1 w := fun w => by kernel_rfl
theorem ty_size61 : ∀ w, (sizeOf 61).run Tryd.prog w = .ok 1 w := fun w => by kernel_rfl
theorem ty_size62 : ∀ w, (sizeOf 62).run Tryd.prog w = .ok 1 w := fun w => by kernel_rfl
theorem ty_size63 : ∀ w, (sizeOf 63).run Tryd.prog w = .ok 4 w := fun w => by kernel_rfl
theorem ty_size64 : ∀ w, (sizeOf 64).run Tryd.prog w = .ok 4 w := fun w => by kernel_rfl
theorem ty_size65 : ∀ w, (sizeOf 65).run Tryd.prog w = .ok 2 w := fun w => by kernel_rfl
theorem ty_size66 : ∀ w, (sizeOf 66).run Tryd.prog w = .ok 2 w := fun w => by kernel_rfl
theorem ty_size67 : ∀ w, (sizeOf 67).run Tryd.prog w = .ok 1 w := fun w => by kernel_rfl
theorem ty_size68 : ∀ w, (sizeOf 68).run Tryd.prog w = .ok 27 w := fun w => by kernel_rfl
theorem ty_size69 : ∀ w, (sizeOf 69).run Tryd.prog w = .ok 27 w := fun w => by kernel_rfl
theorem ty_size73 : ∀ w, (sizeOf 73).run Tryd.prog w = .ok 3 w := fun w => by kernel_rfl
theorem ty_size74 : ∀ w, (sizeOf 74).run Tryd.prog w = .ok 8 w := fun w => by kernel_rfl
theorem ty_size75 : ∀ w, (sizeOf 75).run Tryd.prog w = .ok 8 w := fun w => by kernel_rfl
theorem ty_size85 : ∀ w, (sizeOf 85).run Tryd.prog w = .ok 1 w := fun w => by kernel_rfl
theorem ty_size88 : ∀ w, (sizeOf 88).run Tryd.prog w = .ok 1 w := fun w => by kernel_rfl
theorem ty_size89 : ∀ w, (sizeOf 89).run Tryd.prog w = .ok 1 w := fun w => by kernel_rfl
theorem ty_size90 : ∀ w, (sizeOf 90).run Tryd.prog w = .ok 7 w := fun w => by kernel_rfl
theorem ty_size91 : ∀ w, (sizeOf 91).run Tryd.prog w = .ok 7 w := fun w => by kernel_rfl
theorem ty_size95 : ∀ w, (sizeOf 95).run Tryd.prog w = .ok 11 w := fun w => by kernel_rfl
theorem ty_size96 : ∀ w, (sizeOf 96).run Tryd.prog w = .ok 11 w := fun w => by kernel_rfl
theorem ty_size101 : ∀ w, (sizeOf 101).run Tryd.prog w = .ok 4 w := fun w => by kernel_rfl
theorem ty_size102 : ∀ w, (sizeOf 102).run Tryd.prog w = .ok 4 w := fun w => by kernel_rfl
theorem ty_size105 : ∀ w, (sizeOf 105).run Tryd.prog w = .ok 1 w := fun w => by kernel_rfl
theorem ty_size106 : ∀ w, (sizeOf 106).run Tryd.prog w = .ok 1 w := fun w => by kernel_rfl
theorem ty_size111 : ∀ w, (sizeOf 111).run Tryd.prog w = .ok 1 w := fun w => by kernel_rfl
theorem ty_size114 : ∀ w, (sizeOf 114).run Tryd.prog w = .ok 1 w := fun w => by kernel_rfl
theorem ty_size117 : ∀ w, (sizeOf 117).run Tryd.prog w = .ok 11 w := fun w => by kernel_rfl
theorem ty_size118 : ∀ w, (sizeOf 118).run Tryd.prog w = .ok 11 w := fun w => by kernel_rfl
theorem ty_size121 : ∀ w, (sizeOf 121).run Tryd.prog w = .ok 5 w := fun w => by kernel_rfl
theorem ty_size122 : ∀ w, (sizeOf 122).run Tryd.prog w = .ok 5 w := fun w => by kernel_rfl
theorem ty_size123 : ∀ w, (sizeOf 123).run Tryd.prog w = .ok 40 w := fun w => by kernel_rfl
theorem ty_size128 : ∀ w, (sizeOf 128).run Tryd.prog w = .ok 4 w := fun w => by kernel_rfl
theorem ty_size129 : ∀ w, (sizeOf 129).run Tryd.prog w = .ok 4 w := fun w => by kernel_rfl
theorem ty_size144 : ∀ w, (sizeOf 144).run Tryd.prog w = .ok 5 w := fun w => by kernel_rfl
theorem ty_size145 : ∀ w, (sizeOf 145).run Tryd.prog w = .ok 5 w := fun w => by kernel_rfl
theorem ty_size146 : ∀ w, (sizeOf 146).run Tryd.prog w = .ok 8 w := fun w => by kernel_rfl
theorem ty_size148 : ∀ w, (sizeOf 148).run Tryd.prog w = .ok 1 w := fun w => by kernel_rfl
theorem ty_size150 : ∀ w, (sizeOf 150).run Tryd.prog w = .ok 1 w := fun w => by kernel_rfl
theorem ty_size151 : ∀ w, (sizeOf 151).run Tryd.prog w = .ok 1 w := fun w => by kernel_rfl
theorem ty_size161 : ∀ w, (sizeOf 161).run Tryd.prog w = .ok 1 w := fun w => by kernel_rfl
theorem ty_size162 : ∀ w, (sizeOf 162).run Tryd.prog w = .ok 1 w := fun w => by kernel_rfl
theorem ty_size171 : ∀ w, (sizeOf 171).run Tryd.prog w = .ok 1 w := fun w => by kernel_rfl
theorem ty_size172 : ∀ w, (sizeOf 172).run Tryd.prog w = .ok 1 w := fun w => by kernel_rfl
theorem ty_size173 : ∀ w, (sizeOf 173).run Tryd.prog w = .ok 2 w := fun w => by kernel_rfl
theorem ty_size174 : ∀ w, (sizeOf 174).run Tryd.prog w = .ok 2 w := fun w => by kernel_rfl
theorem ty_size175 : ∀ w, (sizeOf 175).run Tryd.prog w = .ok 1 w := fun w => by kernel_rfl
theorem ty_size176 : ∀ w, (sizeOf 176).run Tryd.prog w = .ok 1 w := fun w => by kernel_rfl
theorem ty_size177 : ∀ w, (sizeOf 177).run Tryd.prog w = .ok 1 w := fun w => by kernel_rfl
theorem ty_size181 : ∀ w, (sizeOf 181).run Tryd.prog w = .ok 4 w := fun w => by kernel_rfl
theorem ty_size194 : ∀ w, (sizeOf 194).run Tryd.prog w = .ok 1 w := fun w => by kernel_rfl
theorem ty_size195 : ∀ w, (sizeOf 195).run Tryd.prog w = .ok 1 w := fun w => by kernel_rfl
theorem ty_size196 : ∀ w, (sizeOf 196).run Tryd.prog w = .ok 1 w := fun w => by kernel_rfl
theorem ty_size204 : ∀ w, (sizeOf 204).run Tryd.prog w = .ok 64 w := fun w => by kernel_rfl
theorem ty_size205 : ∀ w, (sizeOf 205).run Tryd.prog w = .ok 2 w := fun w => by kernel_rfl
theorem ty_size207 : ∀ w, (sizeOf 207).run Tryd.prog w = .ok 4 w := fun w => by kernel_rfl
theorem ty_size208 : ∀ w, (sizeOf 208).run Tryd.prog w = .ok 4 w := fun w => by kernel_rfl
theorem ty_size209 : ∀ w, (sizeOf 209).run Tryd.prog w = .ok 0 w := fun w => by kernel_rfl
theorem ty_size210 : ∀ w, (sizeOf 210).run Tryd.prog w = .ok 0 w := fun w => by kernel_rfl
theorem ty_size211 : ∀ w, (sizeOf 211).run Tryd.prog w = .ok 0 w := fun w => by kernel_rfl
theorem ty_size212 : ∀ w, (sizeOf 212).run Tryd.prog w = .ok 1 w := fun w => by kernel_rfl
theorem ty_size213 : ∀ w, (sizeOf 213).run Tryd.prog w = .ok 1 w := fun w => by kernel_rfl
theorem ty_size214 : ∀ w, (sizeOf 214).run Tryd.prog w = .ok 1 w := fun w => by kernel_rfl
theorem ty_size216 : ∀ w, (sizeOf 216).run Tryd.prog w = .ok 1 w := fun w => by kernel_rfl
theorem ty_size217 : ∀ w, (sizeOf 217).run Tryd.prog w = .ok 1 w := fun w => by kernel_rfl
theorem ty_size218 : ∀ w, (sizeOf 218).run Tryd.prog w = .ok 1 w := fun w => by kernel_rfl
theorem ty_size219 : ∀ w, (sizeOf 219).run Tryd.prog w = .ok 11 w := fun w => by kernel_rfl
theorem ty_size220 : ∀ w, (sizeOf 220).run Tryd.prog w = .ok 11 w := fun w => by kernel_rfl
theorem ty_zero2 : ∀ w, (zeroValue 2).run Tryd.prog w = .ok (.int .i64 0) w := fun w => by kernel_rfl
theorem ty_zero3 : ∀ w, (zeroValue 3).run Tryd.prog w = .ok (.int .i64 0) w := fun w => by kernel_rfl
theorem ty_zero4 : ∀ w, (zeroValue 4).run Tryd.prog w = .ok (.bool false) w := fun w => by kernel_rfl
theorem ty_zero5 : ∀ w, (zeroValue 5).run Tryd.prog w = .ok (.int .u8 0) w := fun w => by kernel_rfl
theorem ty_zero6 : ∀ w, (zeroValue 6).run Tryd.prog w = .ok (.int .u8 0) w := fun w => by kernel_rfl
theorem ty_zero7 : ∀ w, (zeroValue 7).run Tryd.prog w = .ok (.agg #[(.int .i64 0), (.int .i64 0), (.bool false), (.int .u8 0)]) w := fun w => by kernel_rfl
theorem ty_zero8 : ∀ w, (zeroValue 8).run Tryd.prog w = .ok (.agg #[(.int .i64 0), (.int .i64 0), (.bool false), (.int .u8 0)]) w := fun w => by kernel_rfl
theorem ty_zero9 : ∀ w, (zeroValue 9).run Tryd.prog w = .ok (.string ⟨#[]⟩) w := fun w => by kernel_rfl
theorem ty_zero10 : ∀ w, (zeroValue 10).run Tryd.prog w = .ok (.string ⟨#[]⟩) w := fun w => by kernel_rfl
theorem ty_zero11 : ∀ w, (zeroValue 11).run Tryd.prog w = .ok (.string ⟨#[]⟩) w := fun w => by kernel_rfl
theorem ty_zero12 : ∀ w, (zeroValue 12).run Tryd.prog w = .ok (.int .u64 0) w := fun w => by kernel_rfl
theorem ty_zero13 : ∀ w, (zeroValue 13).run Tryd.prog w = .ok (.agg #[(.string ⟨#[]⟩), (.int .u64 0)]) w := fun w => by kernel_rfl
theorem ty_zero14 : ∀ w, (zeroValue 14).run Tryd.prog w = .ok (.agg #[(.string ⟨#[]⟩), (.int .u64 0)]) w := fun w => by kernel_rfl
theorem ty_zero15 : ∀ w, (zeroValue 15).run Tryd.prog w = .ok (.pointer none) w := fun w => by kernel_rfl
theorem ty_zero16 : ∀ w, (zeroValue 16).run Tryd.prog w = .ok (.pointer none) w := fun w => by kernel_rfl
theorem ty_zero17 : ∀ w, (zeroValue 17).run Tryd.prog w = .ok (.pointer none) w := fun w => by kernel_rfl
theorem ty_zero18 : ∀ w, (zeroValue 18).run Tryd.prog w = .ok (.agg #[(.pointer none)]) w := fun w => by kernel_rfl
theorem ty_zero19 : ∀ w, (zeroValue 19).run Tryd.prog w = .ok (.agg #[(.pointer none)]) w := fun w => by kernel_rfl
theorem ty_zero21 : ∀ w, (zeroValue 21).run Tryd.prog w = .ok (.int .i32 0) w := fun w => by kernel_rfl
theorem ty_zero22 : ∀ w, (zeroValue 22).run Tryd.prog w = .ok (.slice none 0 0) w := fun w => by kernel_rfl
theorem ty_zero23 : ∀ w, (zeroValue 23).run Tryd.prog w = .ok (.int .u64 0) w := fun w => by kernel_rfl
theorem ty_zero24 : ∀ w, (zeroValue 24).run Tryd.prog w = .ok (.agg #[(.slice none 0 0), (.int .i64 0), (.int .i64 0), (.int .u64 0)]) w := fun w => by kernel_rfl
theorem ty_zero25 : ∀ w, (zeroValue 25).run Tryd.prog w = .ok (.agg #[(.slice none 0 0), (.int .i64 0), (.int .i64 0), (.int .u64 0)]) w := fun w => by kernel_rfl
theorem ty_zero26 : ∀ w, (zeroValue 26).run Tryd.prog w = .ok (.agg #[(.int .i64 0), (.int .i64 0), (.int .i64 0), (.int .i64 0), (.int .i64 0), (.int .i64 0), (.int .i64 0), (.int .i64 0), (.int .i64 0)]) w := fun w => by kernel_rfl
theorem ty_zero27 : ∀ w, (zeroValue 27).run Tryd.prog w = .ok (.agg #[(.int .i64 0), (.int .i64 0), (.int .i64 0), (.int .i64 0), (.int .i64 0), (.int .i64 0), (.int .i64 0), (.int .i64 0), (.int .i64 0)]) w := fun w => by kernel_rfl
theorem ty_zero30 : ∀ w, (zeroValue 30).run Tryd.prog w = .ok (.pointer none) w := fun w => by kernel_rfl
theorem ty_zero31 : ∀ w, (zeroValue 31).run Tryd.prog w = .ok (.int .i64 0) w := fun w => by kernel_rfl
theorem ty_zero35 : ∀ w, (zeroValue 35).run Tryd.prog w = .ok (.agg #[(.pointer none), (.int .i64 0), (.int .i64 0), (.int .i64 0), (.int .i64 0), (.int .i64 0), (.int .i64 0), (.int .i64 0), (.int .i64 0), (.int .i64 0), (.int .i64 0)]) w := fun w => by kernel_rfl
theorem ty_zero36 : ∀ w, (zeroValue 36).run Tryd.prog w = .ok (.agg #[(.pointer none), (.int .i64 0), (.int .i64 0), (.int .i64 0), (.int .i64 0), (.int .i64 0), (.int .i64 0), (.int .i64 0), (.int .i64 0), (.int .i64 0), (.int .i64 0)]) w := fun w => by kernel_rfl
theorem ty_zero45 : ∀ w, (zeroValue 45).run Tryd.prog w = .ok (.slice none 0 0) w := fun w => by kernel_rfl
theorem ty_zero46 : ∀ w, (zeroValue 46).run Tryd.prog w = .ok (.slice none 0 0) w := fun w => by kernel_rfl
theorem ty_zero47 : ∀ w, (zeroValue 47).run Tryd.prog w = .ok (.agg #[(.slice none 0 0), (.slice none 0 0), (.int .u64 0), (.slice none 0 0)]) w := fun w => by kernel_rfl
theorem ty_zero48 : ∀ w, (zeroValue 48).run Tryd.prog w = .ok (.agg #[(.slice none 0 0), (.slice none 0 0), (.int .u64 0), (.slice none 0 0)]) w := fun w => by kernel_rfl
theorem ty_zero49 : ∀ w, (zeroValue 49).run Tryd.prog w = .ok (.pointer none) w := fun w => by kernel_rfl
theorem ty_zero53 : ∀ w, (zeroValue 53).run Tryd.prog w = .ok (.agg #[(.int .i64 0), (.int .i64 0), (.int .i64 0)]) w := fun w => by kernel_rfl
theorem ty_zero54 : ∀ w, (zeroValue 54).run Tryd.prog w = .ok (.agg #[(.int .i64 0), (.int .i64 0), (.int .i64 0)]) w := fun w => by kernel_rfl
theorem ty_zero57 : ∀ w, (zeroValue 57).run Tryd.prog w = .ok (.slice none 0 0) w := fun w => by kernel_rfl
theorem ty_zero58 : ∀ w, (zeroValue 58).run Tryd.prog w = .ok (.pointer none) w := fun w => by kernel_rfl
theorem ty_zero61 : ∀ w, (zeroValue 61).run Tryd.prog w = .ok (.slice none 0 0) w := fun w => by kernel_rfl
theorem ty_zero62 : ∀ w, (zeroValue 62).run Tryd.prog w = .ok (.slice none 0 0) w := fun w => by kernel_rfl
theorem ty_zero63 : ∀ w, (zeroValue 63).run Tryd.prog w = .ok (.agg #[(.slice none 0 0), (.int .i64 0), (.slice none 0 0), (.slice none 0 0)]) w := fun w => by kernel_rfl
theorem ty_zero64 : ∀ w, (zeroValue 64).run Tryd.prog w = .ok (.agg #[(.slice none 0 0), (.int .i64 0), (.slice none 0 0), (.slice none 0 0)]) w := fun w => by kernel_rfl
theorem ty_zero65 : ∀ w, (zeroValue 65).run Tryd.prog w = .ok (.agg #[(.int .i64 0), (.int .i64 0)]) w := fun w => by kernel_rfl
theorem ty_zero66 : ∀ w, (zeroValue 66).run Tryd.prog w = .ok (.agg #[(.int .i64 0), (.int .i64 0)]) w := fun w => by kernel_rfl
theorem ty_zero67 : ∀ w, (zeroValue 67).run Tryd.prog w = .ok (.slice none 0 0) w := fun w => by kernel_rfl
theorem ty_zero68 : ∀ w, (zeroValue 68).run Tryd.prog w = .ok (.agg #[(.pointer none), (.int .i64 0), (.int .i64 0), (.int .i64 0), (.int .i64 0), (.int .i64 0), (.int .i64 0), (.int .i64 0), (.int .i64 0), (.int .i64 0), (.pointer none), (.int .i64 0), (.int .i64 0), (.int .i64 0), (.int .i64 0), (.int .i64 0), (.int .i64 0), (.int .i64 0), (.int .i64 0), (.int .i64 0), (.int .i64 0), (.slice none 0 0), (.int .i64 0), (.slice none 0 0), (.slice none 0 0), (.slice none 0 0), (.int .i64 0)]) w := fun w => by kernel_rfl
theorem ty_zero69 : ∀ w, (zeroValue 69).run Tryd.prog w = .ok (.agg #[(.pointer none), (.int .i64 0), (.int .i64 0), (.int .i64 0), (.int .i64 0), (.int .i64 0), (.int .i64 0), (.int .i64 0), (.int .i64 0), (.int .i64 0), (.pointer none), (.int .i64 0), (.int .i64 0), (.int .i64 0), (.int .i64 0), (.int .i64 0), (.int .i64 0), (.int .i64 0), (.int .i64 0), (.int .i64 0), (.int .i64 0), (.slice none 0 0), (.int .i64 0), (.slice none 0 0), (.slice none 0 0), (.slice none 0 0), (.int .i64 0)]) w := fun w => by kernel_rfl
theorem ty_zero73 : ∀ w, (zeroValue 73).run Tryd.prog w = .ok (.agg #[(.int .i64 0), (.int .i64 0), (.int .i64 0)]) w := fun w => by kernel_rfl
theorem ty_zero74 : ∀ w, (zeroValue 74).run Tryd.prog w = .ok (.agg #[(.int .i64 0), (.int .i64 0), (.int .i64 0), (.int .i64 0), (.int .i64 0), (.int .i64 0), (.bool false), (.int .i64 0)]) w := fun w => by kernel_rfl
theorem ty_zero75 : ∀ w, (zeroValue 75).run Tryd.prog w = .ok (.agg #[(.int .i64 0), (.int .i64 0), (.int .i64 0), (.int .i64 0), (.int .i64 0), (.int .i64 0), (.bool false), (.int .i64 0)]) w := fun w => by kernel_rfl
theorem ty_zero85 : ∀ w, (zeroValue 85).run Tryd.prog w = .ok (.pointer none) w := fun w => by kernel_rfl
theorem ty_zero88 : ∀ w, (zeroValue 88).run Tryd.prog w = .ok (.map none) w := fun w => by kernel_rfl
theorem ty_zero89 : ∀ w, (zeroValue 89).run Tryd.prog w = .ok (.map none) w := fun w => by kernel_rfl
theorem ty_zero90 : ∀ w, (zeroValue 90).run Tryd.prog w = .ok (.agg #[(.int .i64 0), (.int .i64 0), (.pointer none), (.slice none 0 0), (.slice none 0 0), (.map none), (.map none)]) w := fun w => by kernel_rfl
theorem ty_zero91 : ∀ w, (zeroValue 91).run Tryd.prog w = .ok (.agg #[(.int .i64 0), (.int .i64 0), (.pointer none), (.slice none 0 0), (.slice none 0 0), (.map none), (.map none)]) w := fun w => by kernel_rfl
theorem ty_zero95 : ∀ w, (zeroValue 95).run Tryd.prog w = .ok (.agg #[(.pointer none), (.int .i64 0), (.int .i64 0), (.int .i64 0), (.int .i64 0), (.int .i64 0), (.int .i64 0), (.int .i64 0), (.int .i64 0), (.int .i64 0), (.int .i64 0)]) w := fun w => by kernel_rfl
theorem ty_zero96 : ∀ w, (zeroValue 96).run Tryd.prog w = .ok (.agg #[(.pointer none), (.int .i64 0), (.int .i64 0), (.int .i64 0), (.int .i64 0), (.int .i64 0), (.int .i64 0), (.int .i64 0), (.int .i64 0), (.int .i64 0), (.int .i64 0)]) w := fun w => by kernel_rfl
theorem ty_zero101 : ∀ w, (zeroValue 101).run Tryd.prog w = .ok (.agg #[(.int .i64 0), (.int .i64 0), (.bool false), (.int .i64 0)]) w := fun w => by kernel_rfl
theorem ty_zero102 : ∀ w, (zeroValue 102).run Tryd.prog w = .ok (.agg #[(.int .i64 0), (.int .i64 0), (.bool false), (.int .i64 0)]) w := fun w => by kernel_rfl
theorem ty_zero105 : ∀ w, (zeroValue 105).run Tryd.prog w = .ok (.slice none 0 0) w := fun w => by kernel_rfl
theorem ty_zero106 : ∀ w, (zeroValue 106).run Tryd.prog w = .ok (.int .u64 0) w := fun w => by kernel_rfl
theorem ty_zero111 : ∀ w, (zeroValue 111).run Tryd.prog w = .ok (.pointer none) w := fun w => by kernel_rfl
theorem ty_zero114 : ∀ w, (zeroValue 114).run Tryd.prog w = .ok (.pointer none) w := fun w => by kernel_rfl
theorem ty_zero117 : ∀ w, (zeroValue 117).run Tryd.prog w = .ok (.agg #[(.pointer none), (.int .i64 0), (.int .i64 0), (.int .i64 0), (.int .i64 0), (.int .i64 0), (.int .i64 0), (.int .i64 0), (.int .i64 0), (.int .i64 0), (.int .i64 0)]) w := fun w => by kernel_rfl
theorem ty_zero118 : ∀ w, (zeroValue 118).run Tryd.prog w = .ok (.agg #[(.pointer none), (.int .i64 0), (.int .i64 0), (.int .i64 0), (.int .i64 0), (.int .i64 0), (.int .i64 0), (.int .i64 0), (.int .i64 0), (.int .i64 0), (.int .i64 0)]) w := fun w => by kernel_rfl
theorem ty_zero121 : ∀ w, (zeroValue 121).run Tryd.prog w = .ok (.agg #[(.int .i64 0), (.int .i64 0), (.string ⟨#[]⟩), (.string ⟨#[]⟩), (.int .i64 0)]) w := fun w => by kernel_rfl
theorem ty_zero122 : ∀ w, (zeroValue 122).run Tryd.prog w = .ok (.agg #[(.int .i64 0), (.int .i64 0), (.string ⟨#[]⟩), (.string ⟨#[]⟩), (.int .i64 0)]) w := fun w => by kernel_rfl
theorem ty_zero123 : ∀ w, (zeroValue 123).run Tryd.prog w = .ok (.agg #[(.int .i64 0), (.int .i64 0), (.string ⟨#[]⟩), (.string ⟨#[]⟩), (.int .i64 0), (.int .i64 0), (.int .i64 0), (.string ⟨#[]⟩), (.string ⟨#[]⟩), (.int .i64 0), (.int .i64 0), (.int .i64 0), (.string ⟨#[]⟩), (.string ⟨#[]⟩), (.int .i64 0), (.int .i64 0), (.int .i64 0), (.string ⟨#[]⟩), (.string ⟨#[]⟩), (.int .i64 0), (.int .i64 0), (.int .i64 0), (.string ⟨#[]⟩), (.string ⟨#[]⟩), (.int .i64 0), (.int .i64 0), (.int .i64 0), (.string ⟨#[]⟩), (.string ⟨#[]⟩), (.int .i64 0), (.int .i64 0), (.int .i64 0), (.string ⟨#[]⟩), (.string ⟨#[]⟩), (.int .i64 0), (.int .i64 0), (.int .i64 0), (.string ⟨#[]⟩), (.string ⟨#[]⟩), (.int .i64 0)]) w := fun w => by kernel_rfl
theorem ty_zero128 : ∀ w, (zeroValue 128).run Tryd.prog w = .ok (.agg #[(.int .i64 0), (.int .i64 0), (.int .i64 0), (.bool false)]) w := fun w => by kernel_rfl
theorem ty_zero129 : ∀ w, (zeroValue 129).run Tryd.prog w = .ok (.agg #[(.int .i64 0), (.int .i64 0), (.int .i64 0), (.bool false)]) w := fun w => by kernel_rfl
theorem ty_zero144 : ∀ w, (zeroValue 144).run Tryd.prog w = .ok (.agg #[(.string ⟨#[]⟩), (.string ⟨#[]⟩), (.int .u64 0), (.int .i64 0), (.int .i64 0)]) w := fun w => by kernel_rfl
theorem ty_zero145 : ∀ w, (zeroValue 145).run Tryd.prog w = .ok (.agg #[(.string ⟨#[]⟩), (.string ⟨#[]⟩), (.int .u64 0), (.int .i64 0), (.int .i64 0)]) w := fun w => by kernel_rfl
theorem ty_zero146 : ∀ w, (zeroValue 146).run Tryd.prog w = .ok (.agg #[(.int .i64 0), (.int .i64 0), (.int .i64 0), (.int .i64 0), (.int .i64 0), (.int .i64 0), (.int .i64 0), (.int .i64 0)]) w := fun w => by kernel_rfl
theorem ty_zero148 : ∀ w, (zeroValue 148).run Tryd.prog w = .ok (.slice none 0 0) w := fun w => by kernel_rfl
theorem ty_zero150 : ∀ w, (zeroValue 150).run Tryd.prog w = .ok (.agg #[(.slice none 0 0)]) w := fun w => by kernel_rfl
theorem ty_zero151 : ∀ w, (zeroValue 151).run Tryd.prog w = .ok (.agg #[(.slice none 0 0)]) w := fun w => by kernel_rfl
theorem ty_zero161 : ∀ w, (zeroValue 161).run Tryd.prog w = .ok (.agg #[(.int .u64 0)]) w := fun w => by kernel_rfl
theorem ty_zero162 : ∀ w, (zeroValue 162).run Tryd.prog w = .ok (.agg #[(.int .u64 0)]) w := fun w => by kernel_rfl
theorem ty_zero171 : ∀ w, (zeroValue 171).run Tryd.prog w = .ok (.agg #[(.slice none 0 0)]) w := fun w => by kernel_rfl
theorem ty_zero172 : ∀ w, (zeroValue 172).run Tryd.prog w = .ok (.agg #[(.slice none 0 0)]) w := fun w => by kernel_rfl
theorem ty_zero173 : ∀ w, (zeroValue 173).run Tryd.prog w = .ok (.agg #[(.string ⟨#[]⟩), (.int .u64 0)]) w := fun w => by kernel_rfl
theorem ty_zero174 : ∀ w, (zeroValue 174).run Tryd.prog w = .ok (.agg #[(.string ⟨#[]⟩), (.int .u64 0)]) w := fun w => by kernel_rfl
theorem ty_zero175 : ∀ w, (zeroValue 175).run Tryd.prog w = .ok (.map none) w := fun w => by kernel_rfl
theorem ty_zero176 : ∀ w, (zeroValue 176).run Tryd.prog w = .ok (.agg #[(.map none)]) w := fun w => by kernel_rfl
theorem ty_zero177 : ∀ w, (zeroValue 177).run Tryd.prog w = .ok (.agg #[(.map none)]) w := fun w => by kernel_rfl
theorem ty_zero181 : ∀ w, (zeroValue 181).run Tryd.prog w = .ok (.agg #[(.int .i64 0), (.int .i64 0), (.int .i64 0), (.int .i64 0)]) w := fun w => by kernel_rfl
theorem ty_zero194 : ∀ w, (zeroValue 194).run Tryd.prog w = .ok (.slice none 0 0) w := fun w => by kernel_rfl
theorem ty_zero195 : ∀ w, (zeroValue 195).run Tryd.prog w = .ok (.slice none 0 0) w := fun w => by kernel_rfl
theorem ty_zero196 : ∀ w, (zeroValue 196).run Tryd.prog w = .ok (.slice none 0 0) w := fun w => by kernel_rfl
theorem ty_zero204 : ∀ w, (zeroValue 204).run Tryd.prog w = .ok (.agg #[(.int .u8 0), (.int .u8 0), (.int .u8 0), (.int .u8 0), (.int .u8 0), (.int .u8 0), (.int .u8 0), (.int .u8 0), (.int .u8 0), (.int .u8 0), (.int .u8 0), (.int .u8 0), (.int .u8 0), (.int .u8 0), (.int .u8 0), (.int .u8 0), (.int .u8 0), (.int .u8 0), (.int .u8 0), (.int .u8 0), (.int .u8 0), (.int .u8 0), (.int .u8 0), (.int .u8 0), (.int .u8 0), (.int .u8 0), (.int .u8 0), (.int .u8 0), (.int .u8 0), (.int .u8 0), (.int .u8 0), (.int .u8 0), (.int .u8 0), (.int .u8 0), (.int .u8 0), (.int .u8 0), (.int .u8 0), (.int .u8 0), (.int .u8 0), (.int .u8 0), (.int .u8 0), (.int .u8 0), (.int .u8 0), (.int .u8 0), (.int .u8 0), (.int .u8 0), (.int .u8 0), (.int .u8 0), (.int .u8 0), (.int .u8 0), (.int .u8 0), (.int .u8 0), (.int .u8 0), (.int .u8 0), (.int .u8 0), (.int .u8 0), (.int .u8 0), (.int .u8 0), (.int .u8 0), (.int .u8 0), (.int .u8 0), (.int .u8 0), (.int .u8 0), (.int .u8 0)]) w := fun w => by kernel_rfl
theorem ty_zero205 : ∀ w, (zeroValue 205).run Tryd.prog w = .ok (.agg #[(.int .u64 0), (.int .u64 0)]) w := fun w => by kernel_rfl
theorem ty_zero207 : ∀ w, (zeroValue 207).run Tryd.prog w = .ok (.agg #[(.pointer none), (.pointer none), (.pointer none), (.string ⟨#[]⟩)]) w := fun w => by kernel_rfl
theorem ty_zero208 : ∀ w, (zeroValue 208).run Tryd.prog w = .ok (.agg #[(.pointer none), (.pointer none), (.pointer none), (.string ⟨#[]⟩)]) w := fun w => by kernel_rfl
theorem ty_zero209 : ∀ w, (zeroValue 209).run Tryd.prog w = .ok (.agg #[]) w := fun w => by kernel_rfl
theorem ty_zero210 : ∀ w, (zeroValue 210).run Tryd.prog w = .ok (.agg #[]) w := fun w => by kernel_rfl
theorem ty_zero211 : ∀ w, (zeroValue 211).run Tryd.prog w = .ok (.agg #[]) w := fun w => by kernel_rfl
theorem ty_zero212 : ∀ w, (zeroValue 212).run Tryd.prog w = .ok (.int .u32 0) w := fun w => by kernel_rfl
theorem ty_zero213 : ∀ w, (zeroValue 213).run Tryd.prog w = .ok (.int .u8 0) w := fun w => by kernel_rfl
theorem ty_zero214 : ∀ w, (zeroValue 214).run Tryd.prog w = .ok (.int .u8 0) w := fun w => by kernel_rfl
theorem ty_zero216 : ∀ w, (zeroValue 216).run Tryd.prog w = .ok (.pointer none) w := fun w => by kernel_rfl
theorem ty_zero217 : ∀ w, (zeroValue 217).run Tryd.prog w = .ok (.int .i32 0) w := fun w => by kernel_rfl
theorem ty_zero218 : ∀ w, (zeroValue 218).run Tryd.prog w = .ok (.int .i32 0) w := fun w => by kernel_rfl
theorem ty_zero219 : ∀ w, (zeroValue 219).run Tryd.prog w = .ok (.agg #[(.int .u64 0), (.int .u64 0), (.int .u32 0), (.int .u8 0), (.int .u8 0), (.int .u8 0), (.int .u8 0), .nilFunc, (.pointer none), (.int .i32 0), (.int .i32 0)]) w := fun w => by kernel_rfl
theorem ty_zero220 : ∀ w, (zeroValue 220).run Tryd.prog w = .ok (.agg #[(.int .u64 0), (.int .u64 0), (.int .u32 0), (.int .u8 0), (.int .u8 0), (.int .u8 0), (.int .u8 0), .nilFunc, (.pointer none), (.int .i32 0), (.int .i32 0)]) w := fun w => by kernel_rfl
theorem ty_info2 : ∃ i, Tryd.prog.info? 2 = some i ∧ i.zero = some (.int .i64 0) ∧ i.size = 1 ∧ i.bytes = 8 := Eng.info_parts (show (Tryd.prog.info? 2).map (fun i => (i.zero, i.size, i.bytes)) = some (some (.int .i64 0), 1, 8) by kernel_rfl)
theorem ty_info3 : ∃ i, Tryd.prog.info? 3 = some i ∧ i.zero = some (.int .i64 0) ∧ i.size = 1 ∧ i.bytes = 8 := Eng.info_parts (show (Tryd.prog.info? 3).map (fun i => (i.zero, i.size, i.bytes)) = some (some (.int .i64 0), 1, 8) by kernel_rfl)
theorem ty_info4 : ∃ i, Tryd.prog.info? 4 = some i ∧ i.zero = some (.bool false) ∧ i.size = 1 ∧ i.bytes = 1 := Eng.info_parts (show (Tryd.prog.info? 4).map (fun i => (i.zero, i.size, i.bytes)) = some (some (.bool false), 1, 1) by kernel_rfl)
theorem ty_info5 : ∃ i, Tryd.prog.info? 5 = some i ∧ i.zero = some (.int .u8 0) ∧ i.size = 1 ∧ i.bytes = 1 := Eng.info_parts (show (Tryd.prog.info? 5).map (fun i => (i.zero, i.size, i.bytes)) = some (some (.int .u8 0), 1, 1) by kernel_rfl)
theorem ty_info6 : ∃ i, Tryd.prog.info? 6 = some i ∧ i.zero = some (.int .u8 0) ∧ i.size = 1 ∧ i.bytes = 1 := Eng.info_parts (show (Tryd.prog.info? 6).map (fun i => (i.zero, i.size, i.bytes)) = some (some (.int .u8 0), 1, 1) by kernel_rfl)
theorem ty_info7 : ∃ i, Tryd.prog.info? 7 = some i ∧ i.zero = some (.agg #[(.int .i64 0), (.int .i64 0), (.bool false), (.int .u8 0)]) ∧ i.size = 4 ∧ i.bytes = 24 := Eng.info_parts (show (Tryd.prog.info? 7).map (fun i => (i.zero, i.size, i.bytes)) = some (some (.agg #[(.int .i64 0), (.int .i64 0), (.bool false), (.int .u8 0)]), 4, 24) by kernel_rfl)
theorem ty_info8 : ∃ i, Tryd.prog.info? 8 = some i ∧ i.zero = some (.agg #[(.int .i64 0), (.int .i64 0), (.bool false), (.int .u8 0)]) ∧ i.size = 4 ∧ i.bytes = 24 := Eng.info_parts (show (Tryd.prog.info? 8).map (fun i => (i.zero, i.size, i.bytes)) = some (some (.agg #[(.int .i64 0), (.int .i64 0), (.bool false), (.int .u8 0)]), 4, 24) by kernel_rfl)
theorem ty_info9 : ∃ i, Tryd.prog.info? 9 = some i ∧ i.zero = some (.string ⟨#[]⟩) ∧ i.size = 1 ∧ i.bytes = 16 := Eng.info_parts (show (Tryd.prog.info? 9).map (fun i => (i.zero, i.size, i.bytes)) = some (some (.string ⟨#[]⟩), 1, 16) by kernel_rfl)
theorem ty_info10 : ∃ i, Tryd.prog.info? 10 = some i ∧ i.zero = some (.string ⟨#[]⟩) ∧ i.size = 1 ∧ i.bytes = 16 := Eng.info_parts (show (Tryd.prog.info? 10).map (fun i => (i.zero, i.size, i.bytes)) = some (some (.string ⟨#[]⟩), 1, 16) by kernel_rfl)
theorem ty_info11 : ∃ i, Tryd.prog.info? 11 = some i ∧ i.zero = some (.string ⟨#[]⟩) ∧ i.size = 1 ∧ i.bytes = 16 := Eng.info_parts (show (Tryd.prog.info? 11).map (fun i => (i.zero, i.size, i.bytes)) = some (some (.string ⟨#[]⟩), 1, 16) by kernel_rfl)
theorem ty_info12 : ∃ i, Tryd.prog.info? 12 = some i ∧ i.zero = some (.int .u64 0) ∧ i.size = 1 ∧ i.bytes = 8 := Eng.info_parts (show (Tryd.prog.info? 12).map (fun i => (i.zero, i.size, i.bytes)) = some (some (.int .u64 0), 1, 8) by kernel_rfl)
theorem ty_info13 : ∃ i, Tryd.prog.info? 13 = some i ∧ i.zero = some (.agg #[(.string ⟨#[]⟩), (.int .u64 0)]) ∧ i.size = 2 ∧ i.bytes = 24 := Eng.info_parts (show (Tryd.prog.info? 13).map (fun i => (i.zero, i.size, i.bytes)) = some (some (.agg #[(.string ⟨#[]⟩), (.int .u64 0)]), 2, 24) by kernel_rfl)
theorem ty_info14 : ∃ i, Tryd.prog.info? 14 = some i ∧ i.zero = some (.agg #[(.string ⟨#[]⟩), (.int .u64 0)]) ∧ i.size = 2 ∧ i.bytes = 24 := Eng.info_parts (show (Tryd.prog.info? 14).map (fun i => (i.zero, i.size, i.bytes)) = some (some (.agg #[(.string ⟨#[]⟩), (.int .u64 0)]), 2, 24) by kernel_rfl)
theorem ty_info15 : ∃ i, Tryd.prog.info? 15 = some i ∧ i.zero = some (.pointer none) ∧ i.size = 1 ∧ i.bytes = 8 := Eng.info_parts (show (Tryd.prog.info? 15).map (fun i => (i.zero, i.size, i.bytes)) = some (some (.pointer none), 1, 8) by kernel_rfl)
theorem ty_info16 : ∃ i, Tryd.prog.info? 16 = some i ∧ i.zero = some (.pointer none) ∧ i.size = 1 ∧ i.bytes = 8 := Eng.info_parts (show (Tryd.prog.info? 16).map (fun i => (i.zero, i.size, i.bytes)) = some (some (.pointer none), 1, 8) by kernel_rfl)
theorem ty_info17 : ∃ i, Tryd.prog.info? 17 = some i ∧ i.zero = some (.pointer none) ∧ i.size = 1 ∧ i.bytes = 8 := Eng.info_parts (show (Tryd.prog.info? 17).map (fun i => (i.zero, i.size, i.bytes)) = some (some (.pointer none), 1, 8) by kernel_rfl)
theorem ty_info18 : ∃ i, Tryd.prog.info? 18 = some i ∧ i.zero = some (.agg #[(.pointer none)]) ∧ i.size = 1 ∧ i.bytes = 8 := Eng.info_parts (show (Tryd.prog.info? 18).map (fun i => (i.zero, i.size, i.bytes)) = some (some (.agg #[(.pointer none)]), 1, 8) by kernel_rfl)
theorem ty_info19 : ∃ i, Tryd.prog.info? 19 = some i ∧ i.zero = some (.agg #[(.pointer none)]) ∧ i.size = 1 ∧ i.bytes = 8 := Eng.info_parts (show (Tryd.prog.info? 19).map (fun i => (i.zero, i.size, i.bytes)) = some (some (.agg #[(.pointer none)]), 1, 8) by kernel_rfl)
theorem ty_info21 : ∃ i, Tryd.prog.info? 21 = some i ∧ i.zero = some (.int .i32 0) ∧ i.size = 1 ∧ i.bytes = 4 := Eng.info_parts (show (Tryd.prog.info? 21).map (fun i => (i.zero, i.size, i.bytes)) = some (some (.int .i32 0), 1, 4) by kernel_rfl)
theorem ty_info22 : ∃ i, Tryd.prog.info? 22 = some i ∧ i.zero = some (.slice none 0 0) ∧ i.size = 1 ∧ i.bytes = 24 := Eng.info_parts (show (Tryd.prog.info? 22).map (fun i => (i.zero, i.size, i.bytes)) = some (some (.slice none 0 0), 1, 24) by kernel_rfl)
theorem ty_info23 : ∃ i, Tryd.prog.info? 23 = some i ∧ i.zero = some (.int .u64 0) ∧ i.size = 1 ∧ i.bytes = 8 := Eng.info_parts (show (Tryd.prog.info? 23).map (fun i => (i.zero, i.size, i.bytes)) = some (some (.int .u64 0), 1, 8) by kernel_rfl)
theorem ty_info24 : ∃ i, Tryd.prog.info? 24 = some i ∧ i.zero = some (.agg #[(.slice none 0 0), (.int .i64 0), (.int .i64 0), (.int .u64 0)]) ∧ i.size = 4 ∧ i.bytes = 48 := Eng.info_parts (show (Tryd.prog.info? 24).map (fun i => (i.zero, i.size, i.bytes)) = some (some (.agg #[(.slice none 0 0), (.int .i64 0), (.int .i64 0), (.int .u64 0)]), 4, 48) by kernel_rfl)
theorem ty_info25 : ∃ i, Tryd.prog.info? 25 = some i ∧ i.zero = some (.agg #[(.slice none 0 0), (.int .i64 0), (.int .i64 0), (.int .u64 0)]) ∧ i.size = 4 ∧ i.bytes = 48 := Eng.info_parts (show (Tryd.prog.info? 25).map (fun i => (i.zero, i.size, i.bytes)) = some (some (.agg #[(.slice none 0 0), (.int .i64 0), (.int .i64 0), (.int .u64 0)]), 4, 48) by kernel_rfl)
theorem ty_info26 : ∃ i, Tryd.prog.info? 26 = some i ∧ i.zero = some (.agg #[(.int .i64 0), (.int .i64 0), (.int .i64 0), (.int .i64 0), (.int .i64 0), (.int .i64 0), (.int .i64 0), (.int .i64 0), (.int .i64 0)]) ∧ i.size = 9 ∧ i.bytes = 72 := Eng.info_parts (show (Tryd.prog.info? 26).map (fun i => (i.zero, i.size, i.bytes)) = some (some (.agg #[(.int .i64 0), (.int .i64 0), (.int .i64 0), (.int .i64 0), (.int .i64 0), (.int .i64 0), (.int .i64 0), (.int .i64 0), (.int .i64 0)]), 9, 72) by kernel_rfl)
theorem ty_info27 : ∃ i, Tryd.prog.info? 27 = some i ∧ i.zero = some (.agg #[(.int .i64 0), (.int .i64 0), (.int .i64 0), (.int .i64 0), (.int .i64 0), (.int .i64 0), (.int .i64 0), (.int .i64 0), (.int .i64 0)]) ∧ i.size = 9 ∧ i.bytes = 72 := Eng.info_parts (show (Tryd.prog.info? 27).map (fun i => (i.zero, i.size, i.bytes)) = some (some (.agg #[(.int .i64 0), (.int .i64 0), (.int .i64 0), (.int .i64 0), (.int .i64 0), (.int .i64 0), (.int .i64 0), (.int .i64 0), (.int .i64 0)]), 9, 72) by kernel_rfl)
theorem ty_info30 : ∃ i, Tryd.prog.info? 30 = some i ∧ i.zero = some (.pointer none) ∧ i.size = 1 ∧ i.bytes = 8 := Eng.info_parts (show (Tryd.prog.info? 30).map (fun i => (i.zero, i.size, i.bytes)) = some (some (.pointer none), 1, 8) by kernel_rfl)
theorem ty_info31 : ∃ i, Tryd.prog.info? 31 = some i ∧ i.zero = some (.int .i64 0) ∧ i.size = 1 ∧ i.bytes = 8 := Eng.info_parts (show (Tryd.prog.info? 31).map (fun i => (i.zero, i.size, i.bytes)) = some (some (.int .i64 0), 1, 8) by kernel_rfl)
theorem ty_info35 : ∃ i, Tryd.prog.info? 35 = some i ∧ i.zero = some (.agg #[(.pointer none), (.int .i64 0), (.int .i64 0), (.int .i64 0), (.int .i64 0), (.int .i64 0), (.int .i64 0), (.int .i64 0), (.int .i64 0), (.int .i64 0), (.int .i64 0)]) ∧ i.size = 11 ∧ i.bytes = 88 := Eng.info_parts (show (Tryd.prog.info? 35).map (fun i => (i.zero, i.size, i.bytes)) = some (some (.agg #[(.pointer none), (.int .i64 0), (.int .i64 0), (.int .i64 0), (.int .i64 0), (.int .i64 0), (.int .i64 0), (.int .i64 0), (.int .i64 0), (.int .i64 0), (.int .i64 0)]), 11, 88) by kernel_rfl)
theorem ty_info36 : ∃ i, Tryd.prog.info? 36 = some i ∧ i.zero = some (.agg #[(.pointer none), (.int .i64 0), (.int .i64 0), (.int .i64 0), (.int .i64 0), (.int .i64 0), (.int .i64 0), (.int .i64 0), (.int .i64 0), (.int .i64 0), (.int .i64 0)]) ∧ i.size = 11 ∧ i.bytes = 88 := Eng.info_parts (show (Tryd.prog.info? 36).map (fun i => (i.zero, i.size, i.bytes)) = some (some (.agg #[(.pointer none), (.int .i64 0), (.int .i64 0), (.int .i64 0), (.int .i64 0), (.int .i64 0), (.int .i64 0), (.int .i64 0), (.int .i64 0), (.int .i64 0), (.int .i64 0)]), 11, 88) by kernel_rfl)
theorem ty_info45 : ∃ i, Tryd.prog.info? 45 = some i ∧ i.zero = some (.slice none 0 0) ∧ i.size = 1 ∧ i.bytes = 24 := Eng.info_parts (show (Tryd.prog.info? 45).map (fun i => (i.zero, i.size, i.bytes)) = some (some (.slice none 0 0), 1, 24) by kernel_rfl)
theorem ty_info46 : ∃ i, Tryd.prog.info? 46 = some i ∧ i.zero = some (.slice none 0 0) ∧ i.size = 1 ∧ i.bytes = 24 := Eng.info_parts (show (Tryd.prog.info? 46).map (fun i => (i.zero, i.size, i.bytes)) = some (some (.slice none 0 0), 1, 24) by kernel_rfl)
theorem ty_info47 : ∃ i, Tryd.prog.info? 47 = some i ∧ i.zero = some (.agg #[(.slice none 0 0), (.slice none 0 0), (.int .u64 0), (.slice none 0 0)]) ∧ i.size = 4 ∧ i.bytes = 80 := Eng.info_parts (show (Tryd.prog.info? 47).map (fun i => (i.zero, i.size, i.bytes)) = some (some (.agg #[(.slice none 0 0), (.slice none 0 0), (.int .u64 0), (.slice none 0 0)]), 4, 80) by kernel_rfl)
theorem ty_info48 : ∃ i, Tryd.prog.info? 48 = some i ∧ i.zero = some (.agg #[(.slice none 0 0), (.slice none 0 0), (.int .u64 0), (.slice none 0 0)]) ∧ i.size = 4 ∧ i.bytes = 80 := Eng.info_parts (show (Tryd.prog.info? 48).map (fun i => (i.zero, i.size, i.bytes)) = some (some (.agg #[(.slice none 0 0), (.slice none 0 0), (.int .u64 0), (.slice none 0 0)]), 4, 80) by kernel_rfl)
theorem ty_info49 : ∃ i, Tryd.prog.info? 49 = some i ∧ i.zero = some (.pointer none) ∧ i.size = 1 ∧ i.bytes = 8 := Eng.info_parts (show (Tryd.prog.info? 49).map (fun i => (i.zero, i.size, i.bytes)) = some (some (.pointer none), 1, 8) by kernel_rfl)
theorem ty_info53 : ∃ i, Tryd.prog.info? 53 = some i ∧ i.zero = some (.agg #[(.int .i64 0), (.int .i64 0), (.int .i64 0)]) ∧ i.size = 3 ∧ i.bytes = 24 := Eng.info_parts (show (Tryd.prog.info? 53).map (fun i => (i.zero, i.size, i.bytes)) = some (some (.agg #[(.int .i64 0), (.int .i64 0), (.int .i64 0)]), 3, 24) by kernel_rfl)
theorem ty_info54 : ∃ i, Tryd.prog.info? 54 = some i ∧ i.zero = some (.agg #[(.int .i64 0), (.int .i64 0), (.int .i64 0)]) ∧ i.size = 3 ∧ i.bytes = 24 := Eng.info_parts (show (Tryd.prog.info? 54).map (fun i => (i.zero, i.size, i.bytes)) = some (some (.agg #[(.int .i64 0), (.int .i64 0), (.int .i64 0)]), 3, 24) by kernel_rfl)
theorem ty_info57 : ∃ i, Tryd.prog.info? 57 = some i ∧ i.zero = some (.slice none 0 0) ∧ i.size = 1 ∧ i.bytes = 24 := Eng.info_parts (show (Tryd.prog.info? 57).map (fun i => (i.zero, i.size, i.bytes)) = some (some (.slice none 0 0), 1, 24) by kernel_rfl)
theorem ty_info58 : ∃ i, Tryd.prog.info? 58 = some i ∧ i.zero = some (.pointer none) ∧ i.size = 1 ∧ i.bytes = 8 := Eng.info_parts (show (Tryd.prog.info? 58).map (fun i => (i.zero, i.size, i.bytes)) = some (some (.pointer none), 1, 8) by kernel_rfl)
theorem ty_info61 : ∃ i, Tryd.prog.info? 61 = some i ∧ i.zero = some (.slice none 0 0) ∧ i.size = 1 ∧ i.bytes = 24 := Eng.info_parts (show (Tryd.prog.info? 61).map (fun i => (i.zero, i.size, i.bytes)) = some (some (.slice none 0 0), 1, 24) by kernel_rfl)
theorem ty_info62 : ∃ i, Tryd.prog.info? 62 = some i ∧ i.zero = some (.slice none 0 0) ∧ i.size = 1 ∧ i.bytes = 24 := Eng.info_parts (show (Tryd.prog.info? 62).map (fun i => (i.zero, i.size, i.bytes)) = some (some (.slice none 0 0), 1, 24) by kernel_rfl)
theorem ty_info63 : ∃ i, Tryd.prog.info? 63 = some i ∧ i.zero = some (.agg #[(.slice none 0 0), (.int .i64 0), (.slice none 0 0), (.slice none 0 0)]) ∧ i.size = 4 ∧ i.bytes = 80 := Eng.info_parts (show (Tryd.prog.info? 63).map (fun i => (i.zero, i.size, i.bytes)) = some (some (.agg #[(.slice none 0 0), (.int .i64 0), (.slice none 0 0), (.slice none 0 0)]), 4, 80) by kernel_rfl)
theorem ty_info64 : ∃ i, Tryd.prog.info? 64 = some i ∧ i.zero = some (.agg #[(.slice none 0 0), (.int .i64 0), (.slice none 0 0), (.slice none 0 0)]) ∧ i.size = 4 ∧ i.bytes = 80 := Eng.info_parts (show (Tryd.prog.info? 64).map (fun i => (i.zero, i.size, i.bytes)) = some (some (.agg #[(.slice none 0 0), (.int .i64 0), (.slice none 0 0), (.slice none 0 0)]), 4, 80) by kernel_rfl)
theorem ty_info65 : ∃ i, Tryd.prog.info? 65 = some i ∧ i.zero = some (.agg #[(.int .i64 0), (.int .i64 0)]) ∧ i.size = 2 ∧ i.bytes = 16 := Eng.info_parts (show (Tryd.prog.info? 65).map (fun i => (i.zero, i.size, i.bytes)) = some (some (.agg #[(.int .i64 0), (.int .i64 0)]), 2, 16) by kernel_rfl)
theorem ty_info66 : ∃ i, Tryd.prog.info? 66 = some i ∧ i.zero = some (.agg #[(.int .i64 0), (.int .i64 0)]) ∧ i.size = 2 ∧ i.bytes = 16 := Eng.info_parts (show (Tryd.prog.info? 66).map (fun i => (i.zero, i.size, i.bytes)) = some (some (.agg #[(.int .i64 0), (.int .i64 0)]), 2, 16) by kernel_rfl)
theorem ty_info67 : ∃ i, Tryd.prog.info? 67 = some i ∧ i.zero = some (.slice none 0 0) ∧ i.size = 1 ∧ i.bytes = 24 := Eng.info_parts (show (Tryd.prog.info? 67).map (fun i => (i.zero, i.size, i.bytes)) = some (some (.slice none 0 0), 1, 24) by kernel_rfl)
theorem ty_info68 : ∃ i, Tryd.prog.info? 68 = some i ∧ i.zero = some (.agg #[(.pointer none), (.int .i64 0), (.int .i64 0), (.int .i64 0), (.int .i64 0), (.int .i64 0), (.int .i64 0), (.int .i64 0), (.int .i64 0), (.int .i64 0), (.pointer none), (.int .i64 0), (.int .i64 0), (.int .i64 0), (.int .i64 0), (.int .i64 0), (.int .i64 0), (.int .i64 0), (.int .i64 0), (.int .i64 0), (.int .i64 0), (.slice none 0 0), (.int .i64 0), (.slice none 0 0), (.slice none 0 0), (.slice none 0 0), (.int .i64 0)]) ∧ i.size = 27 ∧ i.bytes = 280 := Eng.info_parts (show (Tryd.prog.info? 68).map (fun i => (i.zero, i.size, i.bytes)) = some (some (.agg #[(.pointer none), (.int .i64 0), (.int .i64 0), (.int .i64 0), (.int .i64 0), (.int .i64 0), (.int .i64 0), (.int .i64 0), (.int .i64 0), (.int .i64 0), (.pointer none), (.int .i64 0), (.int .i64 0), (.int .i64 0), (.int .i64 0), (.int .i64 0), (.int .i64 0), (.int .i64 0), (.int .i64 0), (.int .i64 0), (.int .i64 0), (.slice none 0 0), (.int .i64 0), (.slice none 0 0), (.slice none 0 0), (.slice none 0 0), (.int .i64 0)]), 27, 280) by kernel_rfl)
theorem ty_info69 : ∃ i, Tryd.prog.info? 69 = some i ∧ i.zero = some (.agg #[(.pointer none), (.int .i64 0), (.int .i64 0), (.int .i64 0), (.int .i64 0), (.int .i64 0), (.int .i64 0), (.int .i64 0), (.int .i64 0), (.int .i64 0), (.pointer none), (.int .i64 0), (.int .i64 0), (.int .i64 0), (.int .i64 0), (.int .i64 0), (.int .i64 0), (.int .i64 0), (.int .i64 0), (.int .i64 0), (.int .i64 0), (.slice none 0 0), (.int .i64 0), (.slice none 0 0), (.slice none 0 0), (.slice none 0 0), (.int .i64 0)]) ∧ i.size = 27 ∧ i.bytes = 280 := Eng.info_parts (show (Tryd.prog.info? 69).map (fun i => (i.zero, i.size, i.bytes)) = some (some (.agg #[(.pointer none), (.int .i64 0), (.int .i64 0), (.int .i64 0), (.int .i64 0), (.int .i64 0), (.int .i64 0), (.int .i64 0), (.int .i64 0), (.int .i64 0), (.pointer none), (.int .i64 0), (.int .i64 0), (.int .i64 0), (.int .i64 0), (.int .i64 0), (.int .i64 0), (.int .i64 0), (.int .i64 0), (.int .i64 0), (.int .i64 0), (.slice none 0 0), (.int .i64 0), (.slice none 0 0), (.slice none 0 0), (.slice none 0 0), (.int .i64 0)]), 27, 280) by kernel_rfl)
theorem ty_info73 : ∃ i, Tryd.prog.info? 73 = some i ∧ i.zero = some (.agg #[(.int .i64 0), (.int .i64 0), (.int .i64 0)]) ∧ i.size = 3 ∧ i.bytes = 24 := Eng.info_parts (show (Tryd.prog.info? 73).map (fun i => (i.zero, i.size, i.bytes)) = some (some (.agg #[(.int .i64 0), (.int .i64 0), (.int .i64 0)]), 3, 24) by kernel_rfl)
theorem ty_info74 : ∃ i, Tryd.prog.info? 74 = some i ∧ i.zero = some (.agg #[(.int .i64 0), (.int .i64 0), (.int .i64 0), (.int .i64 0), (.int .i64 0), (.int .i64 0), (.bool false), (.int .i64 0)]) ∧ i.size = 8 ∧ i.bytes = 64 := Eng.info_parts (show (Tryd.prog.info? 74).map (fun i => (i.zero, i.size, i.bytes)) = some (some (.agg #[(.int .i64 0), (.int .i64 0), (.int .i64 0), (.int .i64 0), (.int .i64 0), (.int .i64 0), (.bool false), (.int .i64 0)]), 8, 64) by kernel_rfl)
theorem ty_info75 : ∃ i, Tryd.prog.info? 75 = some i ∧ i.zero = some (.agg #[(.int .i64 0), (.int .i64 0), (.int .i64 0), (.int .i64 0), (.int .i64 0), (.int .i64 0), (.bool false), (.int .i64 0)]) ∧ i.size = 8 ∧ i.bytes = 64 := Eng.info_parts (show (Tryd.prog.info? 75).map (fun i => (i.zero, i.size, i.bytes)) = some (some (.agg #[(.int .i64 0), (.int .i64 0), (.int .i64 0), (.int .i64 0), (.int .i64 0), (.int .i64 0), (.bool false), (.int .i64 0)]), 8, 64) by kernel_rfl)
theorem ty_info85 : ∃ i, Tryd.prog.info? 85 = some i ∧ i.zero = some (.pointer none) ∧ i.size = 1 ∧ i.bytes = 8 := Eng.info_parts (show (Tryd.prog.info? 85).map (fun i => (i.zero, i.size, i.bytes)) = some (some (.pointer none), 1, 8) by kernel_rfl)
theorem ty_info88 : ∃ i, Tryd.prog.info? 88 = some i ∧ i.zero = some (.map none) ∧ i.size = 1 ∧ i.bytes = 8 := Eng.info_parts (show (Tryd.prog.info? 88).map (fun i => (i.zero, i.size, i.bytes)) = some (some (.map none), 1, 8) by kernel_rfl)
theorem ty_info89 : ∃ i, Tryd.prog.info? 89 = some i ∧ i.zero = some (.map none) ∧ i.size = 1 ∧ i.bytes = 8 := Eng.info_parts (show (Tryd.prog.info? 89).map (fun i => (i.zero, i.size, i.bytes)) = some (some (.map none), 1, 8) by kernel_rfl)
theorem ty_info90 : ∃ i, Tryd.prog.info? 90 = some i ∧ i.zero = some (.agg #[(.int .i64 0), (.int .i64 0), (.pointer none), (.slice none 0 0), (.slice none 0 0), (.map none), (.map none)]) ∧ i.size = 7 ∧ i.bytes = 88 := Eng.info_parts (show (Tryd.prog.info? 90).map (fun i => (i.zero, i.size, i.bytes)) = some (some (.agg #[(.int .i64 0), (.int .i64 0), (.pointer none), (.slice none 0 0), (.slice none 0 0), (.map none), (.map none)]), 7, 88) by kernel_rfl)
theorem ty_info91 : ∃ i, Tryd.prog.info? 91 = some i ∧ i.zero = some (.agg #[(.int .i64 0), (.int .i64 0), (.pointer none), (.slice none 0 0), (.slice none 0 0), (.map none), (.map none)]) ∧ i.size = 7 ∧ i.bytes = 88 := Eng.info_parts (show (Tryd.prog.info? 91).map (fun i => (i.zero, i.size, i.bytes)) = some (some (.agg #[(.int .i64 0), (.int .i64 0), (.pointer none), (.slice none 0 0), (.slice none 0 0), (.map none), (.map none)]), 7, 88) by kernel_rfl)
theorem ty_info95 : ∃ i, Tryd.prog.info? 95 = some i ∧ i.zero = some (.agg #[(.pointer none), (.int .i64 0), (.int .i64 0), (.int .i64 0), (.int .i64 0), (.int .i64 0), (.int .i64 0), (.int .i64 0), (.int .i64 0), (.int .i64 0), (.int .i64 0)]) ∧ i.size = 11 ∧ i.bytes = 88 := Eng.info_parts (show (Tryd.prog.info? 95).map (fun i => (i.zero, i.size, i.bytes)) = some (some (.agg #[(.pointer none), (.int .i64 0), (.int .i64 0), (.int .i64 0), (.int .i64 0), (.int .i64 0), (.int .i64 0), (.int .i64 0), (.int .i64 0), (.int .i64 0), (.int .i64 0)]), 11, 88) by kernel_rfl)
theorem ty_info96 : ∃ i, Tryd.prog.info? 96 = some i ∧ i.zero = some (.agg #[(.pointer none), (.int .i64 0), (.int .i64 0), (.int .i64 0), (.int .i64 0), (.int .i64 0), (.int .i64 0), (.int .i64 0), (.int .i64 0), (.int .i64 0), (.int .i64 0)]) ∧ i.size = 11 ∧ i.bytes = 88 := Eng.info_parts (show (Tryd.prog.info? 96).map (fun i => (i.zero, i.size, i.bytes)) = some (some (.agg #[(.pointer none), (.int .i64 0), (.int .i64 0), (.int .i64 0), (.int .i64 0), (.int .i64 0), (.int .i64 0), (.int .i64 0), (.int .i64 0), (.int .i64 0), (.int .i64 0)]), 11, 88) by kernel_rfl)
theorem ty_info101 : ∃ i, Tryd.prog.info? 101 = some i ∧ i.zero = some (.agg #[(.int .i64 0), (.int .i64 0), (.bool false), (.int .i64 0)]) ∧ i.size = 4 ∧ i.bytes = 32 := Eng.info_parts (show (Tryd.prog.info? 101).map (fun i => (i.zero, i.size, i.bytes)) = some (some (.agg #[(.int .i64 0), (.int .i64 0), (.bool false), (.int .i64 0)]), 4, 32) by kernel_rfl)
theorem ty_info102 : ∃ i, Tryd.prog.info? 102 = some i ∧ i.zero = some (.agg #[(.int .i64 0), (.int .i64 0), (.bool false), (.int .i64 0)]) ∧ i.size = 4 ∧ i.bytes = 32 := Eng.info_parts (show (Tryd.prog.info? 102).map (fun i => (i.zero, i.size, i.bytes)) = some (some (.agg #[(.int .i64 0), (.int .i64 0), (.bool false), (.int .i64 0)]), 4, 32) by kernel_rfl)
theorem ty_info105 : ∃ i, Tryd.prog.info? 105 = some i ∧ i.zero = some (.slice none 0 0) ∧ i.size = 1 ∧ i.bytes = 24 := Eng.info_parts (show (Tryd.prog.info? 105).map (fun i => (i.zero, i.size, i.bytes)) = some (some (.slice none 0 0), 1, 24) by kernel_rfl)
theorem ty_info106 : ∃ i, Tryd.prog.info? 106 = some i ∧ i.zero = some (.int .u64 0) ∧ i.size = 1 ∧ i.bytes = 8 := Eng.info_parts (show (Tryd.prog.info? 106).map (fun i => (i.zero, i.size, i.bytes)) = some (some (.int .u64 0), 1, 8) by kernel_rfl)
theorem ty_info111 : ∃ i, Tryd.prog.info? 111 = some i ∧ i.zero = some (.pointer none) ∧ i.size = 1 ∧ i.bytes = 8 := Eng.info_parts (show (Tryd.prog.info? 111).map (fun i => (i.zero, i.size, i.bytes)) = some (some (.pointer none), 1, 8) by kernel_rfl)
theorem ty_info114 : ∃ i, Tryd.prog.info? 114 = some i ∧ i.zero = some (.pointer none) ∧ i.size = 1 ∧ i.bytes = 8 := Eng.info_parts (show (Tryd.prog.info? 114).map (fun i => (i.zero, i.size, i.bytes)) = some (some (.pointer none), 1, 8) by kernel_rfl)
theorem ty_info117 : ∃ i, Tryd.prog.info? 117 = some i ∧ i.zero = some (.agg #[(.pointer none), (.int .i64 0), (.int .i64 0), (.int .i64 0), (.int .i64 0), (.int .i64 0), (.int .i64 0), (.int .i64 0), (.int .i64 0), (.int .i64 0), (.int .i64 0)]) ∧ i.size = 11 ∧ i.bytes = 88 := Eng.info_parts (show (Tryd.prog.info? 117).map (fun i => (i.zero, i.size, i.bytes)) = some (some (.agg #[(.pointer none), (.int .i64 0), (.int .i64 0), (.int .i64 0), (.int .i64 0), (.int .i64 0), (.int .i64 0), (.int .i64 0), (.int .i64 0), (.int .i64 0), (.int .i64 0)]), 11, 88) by kernel_rfl)
theorem ty_info118 : ∃ i, Tryd.prog.info? 118 = some i ∧ i.zero = some (.agg #[(.pointer none), (.int .i64 0), (.int .i64 0), (.int .i64 0), (.int .i64 0), (.int .i64 0), (.int .i64 0), (.int .i64 0), (.int .i64 0), (.int .i64 0), (.int .i64 0)]) ∧ i.size = 11 ∧ i.bytes = 88 := Eng.info_parts (show (Tryd.prog.info? 118).map (fun i => (i.zero, i.size, i.bytes)) = some (some (.agg #[(.pointer none), (.int .i64 0), (.int .i64 0), (.int .i64 0), (.int .i64 0), (.int .i64 0), (.int .i64 0), (.int .i64 0), (.int .i64 0), (.int .i64 0), (.int .i64 0)]), 11, 88) by kernel_rfl)
theorem ty_info121 : ∃ i, Tryd.prog.info? 121 = some i ∧ i.zero = some (.agg #[(.int .i64 0), (.int .i64 0), (.string ⟨#[]⟩), (.string ⟨#[]⟩), (.int .i64 0)]) ∧ i.size = 5 ∧ i.bytes = 56 := Eng.info_parts (show (Tryd.prog.info? 121).map (fun i => (i.zero, i.size, i.bytes)) = some (some (.agg #[(.int .i64 0), (.int .i64 0), (.string ⟨#[]⟩), (.string ⟨#[]⟩), (.int .i64 0)]), 5, 56) by kernel_rfl)
theorem ty_info122 : ∃ i, Tryd.prog.info? 122 = some i ∧ i.zero = some (.agg #[(.int .i64 0), (.int .i64 0), (.string ⟨#[]⟩), (.string ⟨#[]⟩), (.int .i64 0)]) ∧ i.size = 5 ∧ i.bytes = 56 := Eng.info_parts (show (Tryd.prog.info? 122).map (fun i => (i.zero, i.size, i.bytes)) = some (some (.agg #[(.int .i64 0), (.int .i64 0), (.string ⟨#[]⟩), (.string ⟨#[]⟩), (.int .i64 0)]), 5, 56) by kernel_rfl)
theorem ty_info123 : ∃ i, Tryd.prog.info? 123 = some i ∧ i.zero = some (.agg #[(.int .i64 0), (.int .i64 0), (.string ⟨#[]⟩), (.string ⟨#[]⟩), (.int .i64 0), (.int .i64 0), (.int .i64 0), (.string ⟨#[]⟩), (.string ⟨#[]⟩), (.int .i64 0), (.int .i64 0), (.int .i64 0), (.string ⟨#[]⟩), (.string ⟨#[]⟩), (.int .i64 0), (.int .i64 0), (.int .i64 0), (.string ⟨#[]⟩), (.string ⟨#[]⟩), (.int .i64 0), (.int .i64 0), (.int .i64 0), (.string ⟨#[]⟩), (.string ⟨#[]⟩), (.int .i64 0), (.int .i64 0), (.int .i64 0), (.string ⟨#[]⟩), (.string ⟨#[]⟩), (.int .i64 0), (.int .i64 0), (.int .i64 0), (.string ⟨#[]⟩), (.string ⟨#[]⟩), (.int .i64 0), (.int .i64 0), (.int .i64 0), (.string ⟨#[]⟩), (.string ⟨#[]⟩), (.int .i64 0)]) ∧ i.size = 40 ∧ i.bytes = 448 := Eng.info_parts (show (Tryd.prog.info? 123).map (fun i => (i.zero, i.size, i.bytes)) = some (some (.agg #[(.int .i64 0), (.int .i64 0), (.string ⟨#[]⟩), (.string ⟨#[]⟩), (.int .i64 0), (.int .i64 0), (.int .i64 0), (.string ⟨#[]⟩), (.string ⟨#[]⟩), (.int .i64 0), (.int .i64 0), (.int .i64 0), (.string ⟨#[]⟩), (.string ⟨#[]⟩), (.int .i64 0), (.int .i64 0), (.int .i64 0), (.string ⟨#[]⟩), (.string ⟨#[]⟩), (.int .i64 0), (.int .i64 0), (.int .i64 0), (.string ⟨#[]⟩), (.string ⟨#[]⟩), (.int .i64 0), (.int .i64 0), (.int .i64 0), (.string ⟨#[]⟩), (.string ⟨#[]⟩), (.int .i64 0), (.int .i64 0), (.int .i64 0), (.string ⟨#[]⟩), (.string ⟨#[]⟩), (.int .i64 0), (.int .i64 0), (.int .i64 0), (.string ⟨#[]⟩), (.string ⟨#[]⟩), (.int .i64 0)]), 40, 448) by kernel_rfl)
theorem ty_info128 : ∃ i, Tryd.prog.info? 128 = some i ∧ i.zero = some (.agg #[(.int .i64 0), (.int .i64 0), (.int .i64 0), (.bool false)]) ∧ i.size = 4 ∧ i.bytes = 32 := Eng.info_parts (show (Tryd.prog.info? 128).map (fun i => (i.zero, i.size, i.bytes)) = some (some (.agg #[(.int .i64 0), (.int .i64 0), (.int .i64 0), (.bool false)]), 4, 32) by kernel_rfl)
theorem ty_info129 : ∃ i, Tryd.prog.info? 129 = some i ∧ i.zero = some (.agg #[(.int .i64 0), (.int .i64 0), (.int .i64 0), (.bool false)]) ∧ i.size = 4 ∧ i.bytes = 32 := Eng.info_parts (show (Tryd.prog.info? 129).map (fun i => (i.zero, i.size, i.bytes)) = some (some (.agg #[(.int .i64 0), (.int .i64 0), (.int .i64 0), (.bool false)]), 4, 32) by kernel_rfl)
theorem ty_info144 : ∃ i, Tryd.prog.info? 144 = some i ∧ i.zero = some (.agg #[(.string ⟨#[]⟩), (.string ⟨#[]⟩), (.int .u64 0), (.int .i64 0), (.int .i64 0)]) ∧ i.size = 5 ∧ i.bytes = 56 := Eng.info_parts (show (Tryd.prog.info? 144).map (fun i => (i.zero, i.size, i.bytes)) = some (some (.agg #[(.string ⟨#[]⟩), (.string ⟨#[]⟩), (.int .u64 0), (.int .i64 0), (.int .i64 0)]), 5, 56) by kernel_rfl)
theorem ty_info145 : ∃ i, Tryd.prog.info? 145 = some i ∧ i.zero = some (.agg #[(.string ⟨#[]⟩), (.string ⟨#[]⟩), (.int .u64 0), (.int .i64 0), (.int .i64 0)]) ∧ i.size = 5 ∧ i.bytes = 56 := Eng.info_parts (show (Tryd.prog.info? 145).map (fun i => (i.zero, i.size, i.bytes)) = some (some (.agg #[(.string ⟨#[]⟩), (.string ⟨#[]⟩), (.int .u64 0), (.int .i64 0), (.int .i64 0)]), 5, 56) by kernel_rfl)
theorem ty_info146 : ∃ i, Tryd.prog.info? 146 = some i ∧ i.zero = some (.agg #[(.int .i64 0), (.int .i64 0), (.int .i64 0), (.int .i64 0), (.int .i64 0), (.int .i64 0), (.int .i64 0), (.int .i64 0)]) ∧ i.size = 8 ∧ i.bytes = 64 := Eng.info_parts (show (Tryd.prog.info? 146).map (fun i => (i.zero, i.size, i.bytes)) = some (some (.agg #[(.int .i64 0), (.int .i64 0), (.int .i64 0), (.int .i64 0), (.int .i64 0), (.int .i64 0), (.int .i64 0), (.int .i64 0)]), 8, 64) by kernel_rfl)
theorem ty_info148 : ∃ i, Tryd.prog.info? 148 = some i ∧ i.zero = some (.slice none 0 0) ∧ i.size = 1 ∧ i.bytes = 24 := Eng.info_parts (show (Tryd.prog.info? 148).map (fun i => (i.zero, i.size, i.bytes)) = some (some (.slice none 0 0), 1, 24) by kernel_rfl)
theorem ty_info150 : ∃ i, Tryd.prog.info? 150 = some i ∧ i.zero = some (.agg #[(.slice none 0 0)]) ∧ i.size = 1 ∧ i.bytes = 24 := Eng.info_parts (show (Tryd.prog.info? 150).map (fun i => (i.zero, i.size, i.bytes)) = some (some (.agg #[(.slice none 0 0)]), 1, 24) by kernel_rfl)
theorem ty_info151 : ∃ i, Tryd.prog.info? 151 = some i ∧ i.zero = some (.agg #[(.slice none 0 0)]) ∧ i.size = 1 ∧ i.bytes = 24 := Eng.info_parts (show (Tryd.prog.info? 151).map (fun i => (i.zero, i.size, i.bytes)) = some (some (.agg #[(.slice none 0 0)]), 1, 24) by kernel_rfl)
theorem ty_info161 : ∃ i, Tryd.prog.info? 161 = some i ∧ i.zero = some (.agg #[(.int .u64 0)]) ∧ i.size = 1 ∧ i.bytes = 8 := Eng.info_parts (show (Tryd.prog.info? 161).map (fun i => (i.zero, i.size, i.bytes)) = some (some (.agg #[(.int .u64 0)]), 1, 8) by kernel_rfl)
theorem ty_info162 : ∃ i, Tryd.prog.info? 162 = some i ∧ i.zero = some (.agg #[(.int .u64 0)]) ∧ i.size = 1 ∧ i.bytes = 8 := Eng.info_parts (show (Tryd.prog.info? 162).map (fun i => (i.zero, i.size, i.bytes)) = some (some (.agg #[(.int .u64 0)]), 1, 8) by kernel_rfl)
theorem ty_info171 : ∃ i, Tryd.prog.info? 171 = some i ∧ i.zero = some (.agg #[(.slice none 0 0)]) ∧ i.size = 1 ∧ i.bytes = 24 := Eng.info_parts (show (Tryd.prog.info? 171).map (fun i => (i.zero, i.size, i.bytes)) = some (some (.agg #[(.slice none 0 0)]), 1, 24) by kernel_rfl)
theorem ty_info172 : ∃ i, Tryd.prog.info? 172 = some i ∧ i.zero = some (.agg #[(.slice none 0 0)]) ∧ i.size = 1 ∧ i.bytes = 24 := Eng.info_parts (show (Tryd.prog.info? 172).map (fun i => (i.zero, i.size, i.bytes)) = some (some (.agg #[(.slice none 0 0)]), 1, 24) by kernel_rfl)
theorem ty_info173 : ∃ i, Tryd.prog.info? 173 = some i ∧ i.zero = some (.agg #[(.string ⟨#[]⟩), (.int .u64 0)]) ∧ i.size = 2 ∧ i.bytes = 24 := Eng.info_parts (show (Tryd.prog.info? 173).map (fun i => (i.zero, i.size, i.bytes)) = some (some (.agg #[(.string ⟨#[]⟩), (.int .u64 0)]), 2, 24) by kernel_rfl)
theorem ty_info174 : ∃ i, Tryd.prog.info? 174 = some i ∧ i.zero = some (.agg #[(.string ⟨#[]⟩), (.int .u64 0)]) ∧ i.size = 2 ∧ i.bytes = 24 := Eng.info_parts (show (Tryd.prog.info? 174).map (fun i => (i.zero, i.size, i.bytes)) = some (some (.agg #[(.string ⟨#[]⟩), (.int .u64 0)]), 2, 24) by kernel_rfl)
theorem ty_info175 : ∃ i, Tryd.prog.info? 175 = some i ∧ i.zero = some (.map none) ∧ i.size = 1 ∧ i.bytes = 8 := Eng.info_parts (show (Tryd.prog.info? 175).map (fun i => (i.zero, i.size, i.bytes)) = some (some (.map none), 1, 8) by kernel_rfl)
theorem ty_info176 : ∃ i, Tryd.prog.info? 176 = some i ∧ i.zero = some (.agg #[(.map none)]) ∧ i.size = 1 ∧ i.bytes = 8 := Eng.info_parts (show (Tryd.prog.info? 176).map (fun i => (i.zero, i.size, i.bytes)) = some (some (.agg #[(.map none)]), 1, 8) by kernel_rfl)
theorem ty_info177 : ∃ i, Tryd.prog.info? 177 = some i ∧ i.zero = some (.agg #[(.map none)]) ∧ i.size = 1 ∧ i.bytes = 8 := Eng.info_parts (show (Tryd.prog.info? 177).map (fun i => (i.zero, i.size, i.bytes)) = some (some (.agg #[(.map none)]), 1, 8) by kernel_rfl)
theorem ty_info181 : ∃ i, Tryd.prog.info? 181 = some i ∧ i.zero = some (.agg #[(.int .i64 0), (.int .i64 0), (.int .i64 0), (.int .i64 0)]) ∧ i.size = 4 ∧ i.bytes = 32 := Eng.info_parts (show (Tryd.prog.info? 181).map (fun i => (i.zero, i.size, i.bytes)) = some (some (.agg #[(.int .i64 0), (.int .i64 0), (.int .i64 0), (.int .i64 0)]), 4, 32) by kernel_rfl)
theorem ty_info194 : ∃ i, Tryd.prog.info? 194 = some i ∧ i.zero = some (.slice none 0 0) ∧ i.size = 1 ∧ i.bytes = 24 := Eng.info_parts (show (Tryd.prog.info? 194).map (fun i => (i.zero, i.size, i.bytes)) = some (some (.slice none 0 0), 1, 24) by kernel_rfl)
theorem ty_info195 : ∃ i, Tryd.prog.info? 195 = some i ∧ i.zero = some (.slice none 0 0) ∧ i.size = 1 ∧ i.bytes = 24 := Eng.info_parts (show (Tryd.prog.info? 195).map (fun i => (i.zero, i.size, i.bytes)) = some (some (.slice none 0 0), 1, 24) by kernel_rfl)
theorem ty_info196 : ∃ i, Tryd.prog.info? 196 = some i ∧ i.zero = some (.slice none 0 0) ∧ i.size = 1 ∧ i.bytes = 24 := Eng.info_parts (show (Tryd.prog.info? 196).map (fun i => (i.zero, i.size, i.bytes)) = some (some (.slice none 0 0), 1, 24) by kernel_rfl)
theorem ty_info204 : ∃ i, Tryd.prog.info? 204 = some i ∧ i.zero = some (.agg #[(.int .u8 0), (.int .u8 0), (.int .u8 0), (.int .u8 0), (.int .u8 0), (.int .u8 0), (.int .u8 0), (.int .u8 0), (.int .u8 0), (.int .u8 0), (.int .u8 0), (.int .u8 0), (.int .u8 0), (.int .u8 0), (.int .u8 0), (.int .u8 0), (.int .u8 0), (.int .u8 0), (.int .u8 0), (.int .u8 0), (.int .u8 0), (.int .u8 0), (.int .u8 0), (.int .u8 0), (.int .u8 0), (.int .u8 0), (.int .u8 0), (.int .u8 0), (.int .u8 0), (.int .u8 0), (.int .u8 0), (.int .u8 0), (.int .u8 0), (.int .u8 0), (.int .u8 0), (.int .u8 0), (.int .u8 0), (.int .u8 0), (.int .u8 0), (.int .u8 0), (.int .u8 0), (.int .u8 0), (.int .u8 0), (.int .u8 0), (.int .u8 0), (.int .u8 0), (.int .u8 0), (.int .u8 0), (.int .u8 0), (.int .u8 0), (.int .u8 0), (.int .u8 0), (.int .u8 0), (.int .u8 0), (.int .u8 0), (.int .u8 0), (.int .u8 0), (.int .u8 0), (.int .u8 0), (.int .u8 0), (.int .u8 0), (.int .u8 0), (.int .u8 0), (.int .u8 0)]) ∧ i.size = 64 ∧ i.bytes = 64 := Eng.info_parts (show (Tryd.prog.info? 204).map (fun i => (i.zero, i.size, i.bytes)) = some (some (.agg #[(.int .u8 0), (.int .u8 0), (.int .u8 0), (.int .u8 0), (.int .u8 0), (.int .u8 0), (.int .u8 0), (.int .u8 0), (.int .u8 0), (.int .u8 0), (.int .u8 0), (.int .u8 0), (.int .u8 0), (.int .u8 0), (.int .u8 0), (.int .u8 0), (.int .u8 0), (.int .u8 0), (.int .u8 0), (.int .u8 0), (.int .u8 0), (.int .u8 0), (.int .u8 0), (.int .u8 0), (.int .u8 0), (.int .u8 0), (.int .u8 0), (.int .u8 0), (.int .u8 0), (.int .u8 0), (.int .u8 0), (.int .u8 0), (.int .u8 0), (.int .u8 0), (.int .u8 0), (.int .u8 0), (.int .u8 0), (.int .u8 0), (.int .u8 0), (.int .u8 0), (.int .u8 0), (.int .u8 0), (.int .u8 0), (.int .u8 0), (.int .u8 0), (.int .u8 0), (.int .u8 0), (.int .u8 0), (.int .u8 0), (.int .u8 0), (.int .u8 0), (.int .u8 0), (.int .u8 0), (.int .u8 0), (.int .u8 0), (.int .u8 0), (.int .u8 0), (.int .u8 0), (.int .u8 0), (.int .u8 0), (.int .u8 0), (.int .u8 0), (.int .u8 0), (.int .u8 0)]), 64, 64) by kernel_rfl)
theorem ty_info205 : ∃ i, Tryd.prog.info? 205 = some i ∧ i.zero = some (.agg #[(.int .u64 0), (.int .u64 0)]) ∧ i.size = 2 ∧ i.bytes = 16 := Eng.info_parts (show (Tryd.prog.info? 205).map (fun i => (i.zero, i.size, i.bytes)) = some (some (.agg #[(.int .u64 0), (.int .u64 0)]), 2, 16) by kernel_rfl)
theorem ty_info207 : ∃ i, Tryd.prog.info? 207 = some i ∧ i.zero = some (.agg #[(.pointer none), (.pointer none), (.pointer none), (.string ⟨#[]⟩)]) ∧ i.size = 4 ∧ i.bytes = 40 := Eng.info_parts (show (Tryd.prog.info? 207).map (fun i => (i.zero, i.size, i.bytes)) = some (some (.agg #[(.pointer none), (.pointer none), (.pointer none), (.string ⟨#[]⟩)]), 4, 40) by kernel_rfl)
theorem ty_info208 : ∃ i, Tryd.prog.info? 208 = some i ∧ i.zero = some (.agg #[(.pointer none), (.pointer none), (.pointer none), (.string ⟨#[]⟩)]) ∧ i.size = 4 ∧ i.bytes = 40 := Eng.info_parts (show (Tryd.prog.info? 208).map (fun i => (i.zero, i.size, i.bytes)) = some (some (.agg #[(.pointer none), (.pointer none), (.pointer none), (.string ⟨#[]⟩)]), 4, 40) by kernel_rfl)
theorem ty_info209 : ∃ i, Tryd.prog.info? 209 = some i ∧ i.zero = some (.agg #[]) ∧ i.size = 0 ∧ i.bytes = 0 := Eng.info_parts (show (Tryd.prog.info? 209).map (fun i => (i.zero, i.size, i.bytes)) = some (some (.agg #[]), 0, 0) by kernel_rfl)
theorem ty_info210 : ∃ i, Tryd.prog.info? 210 = some i ∧ i.zero = some (.agg #[]) ∧ i.size = 0 ∧ i.bytes = 0 := Eng.info_parts (show (Tryd.prog.info? 210).map (fun i => (i.zero, i.size, i.bytes)) = some (some (.agg #[]), 0, 0) by kernel_rfl)
theorem ty_info211 : ∃ i, Tryd.prog.info? 211 = some i ∧ i.zero = some (.agg #[]) ∧ i.size = 0 ∧ i.bytes = 0 := Eng.info_parts (show (Tryd.prog.info? 211).map (fun i => (i.zero, i.size, i.bytes)) = some (some (.agg #[]), 0, 0) by kernel_rfl)
theorem ty_info212 : ∃ i, Tryd.prog.info? 212 = some i ∧ i.zero = some (.int .u32 0) ∧ i.size = 1 ∧ i.bytes = 4 := Eng.info_parts (show (Tryd.prog.info? 212).map (fun i => (i.zero, i.size, i.bytes)) = some (some (.int .u32 0), 1, 4) by kernel_rfl)
theorem ty_info213 : ∃ i, Tryd.prog.info? 213 = some i ∧ i.zero = some (.int .u8 0) ∧ i.size = 1 ∧ i.bytes = 1 := Eng.info_parts (show (Tryd.prog.info? 213).map (fun i => (i.zero, i.size, i.bytes)) = some (some (.int .u8 0), 1, 1) by kernel_rfl)
theorem ty_info214 : ∃ i, Tryd.prog.info? 214 = some i ∧ i.zero = some (.int .u8 0) ∧ i.size = 1 ∧ i.bytes = 1 := Eng.info_parts (show (Tryd.prog.info? 214).map (fun i => (i.zero, i.size, i.bytes)) = some (some (.int .u8 0), 1, 1) by kernel_rfl)
theorem ty_info216 : ∃ i, Tryd.prog.info? 216 = some i ∧ i.zero = some (.pointer none) ∧ i.size = 1 ∧ i.bytes = 8 := Eng.info_parts (show (Tryd.prog.info? 216).map (fun i => (i.zero, i.size, i.bytes)) = some (some (.pointer none), 1, 8) by kernel_rfl)
theorem ty_info217 : ∃ i, Tryd.prog.info? 217 = some i ∧ i.zero = some (.int .i32 0) ∧ i.size = 1 ∧ i.bytes = 4 := Eng.info_parts (show (Tryd.prog.info? 217).map (fun i => (i.zero, i.size, i.bytes)) = some (some (.int .i32 0), 1, 4) by kernel_rfl)
theorem ty_info218 : ∃ i, Tryd.prog.info? 218 = some i ∧ i.zero = some (.int .i32 0) ∧ i.size = 1 ∧ i.bytes = 4 := Eng.info_parts (show (Tryd.prog.info? 218).map (fun i => (i.zero, i.size, i.bytes)) = some (some (.int .i32 0), 1, 4) by kernel_rfl)
theorem ty_info219 : ∃ i, Tryd.prog.info? 219 = some i ∧ i.zero = some (.agg #[(.int .u64 0), (.int .u64 0), (.int .u32 0), (.int .u8 0), (.int .u8 0), (.int .u8 0), (.int .u8 0), .nilFunc, (.pointer none), (.int .i32 0), (.int .i32 0)]) ∧ i.size = 11 ∧ i.bytes = 48 := Eng.info_parts (show (Tryd.prog.info? 219).map (fun i => (i.zero, i.size, i.bytes)) = some (some (.agg #[(.int .u64 0), (.int .u64 0), (.int .u32 0), (.int .u8 0), (.int .u8 0), (.int .u8 0), (.int .u8 0), .nilFunc, (.pointer none), (.int .i32 0), (.int .i32 0)]), 11, 48) by kernel_rfl)
theorem ty_info220 : ∃ i, Tryd.prog.info? 220 = some i ∧ i.zero = some (.agg #[(.int .u64 0), (.int .u64 0), (.int .u32 0), (.int .u8 0), (.int .u8 0), (.int .u8 0), (.int .u8 0), .nilFunc, (.pointer none), (.int .i32 0), (.int .i32 0)]) ∧ i.size = 11 ∧ i.bytes = 48 := Eng.info_parts (show (Tryd.prog.info? 220).map (fun i => (i.zero, i.size, i.bytes)) = some (some (.agg #[(.int .u64 0), (.int .u64 0), (.int .u32 0), (.int .u8 0), (.int .u8 0), (.int .u8 0), (.int .u8 0), .nilFunc, (.pointer none), (.int .i32 0), (.int .i32 0)]), 11, 48) by kernel_rfl)
theorem en3 : ∀ args w, (callFunc 3 args).run Tryd.prog w = .ok (.enter 3 args) w := fun args w => enters_of Tryd.func3 (by kernel_rfl) rfl args w
theorem en4 : ∀ args w, (callFunc 4 args).run Tryd.prog w = .ok (.enter 4 args) w := fun args w => enters_of Tryd.func4 (by kernel_rfl) rfl args w
theorem en5 : ∀ args w, (callFunc 5 args).run Tryd.prog w = .ok (.enter 5 args) w := fun args w => enters_of Tryd.func5 (by kernel_rfl) rfl args w
theorem en6 : ∀ args w, (callFunc 6 args).run Tryd.prog w = .ok (.enter 6 args) w := fun args w => enters_of Tryd.func6 (by kernel_rfl) rfl args w
theorem en7 : ∀ args w, (callFunc 7 args).run Tryd.prog w = .ok (.enter 7 args) w := fun args w => enters_of Tryd.func7 (by kernel_rfl) rfl args w
theorem en8 : ∀ args w, (callFunc 8 args).run Tryd.prog w = .ok (.enter 8 args) w := fun args w => enters_of Tryd.func8 (by kernel_rfl) rfl args w
theorem en9 : ∀ args w, (callFunc 9 args).run Tryd.prog w = .ok (.enter 9 args) w := fun args w => enters_of Tryd.func9 (by kernel_rfl) rfl args w
theorem en10 : ∀ args w, (callFunc 10 args).run Tryd.prog w = .ok (.enter 10 args) w := fun args w => enters_of Tryd.func10 (by kernel_rfl) rfl args w
theorem en11 : ∀ args w, (callFunc 11 args).run Tryd.prog w = .ok (.enter 11 args) w := fun args w => enters_of Tryd.func11 (by kernel_rfl) rfl args w
theorem en12 : ∀ args w, (callFunc 12 args).run Tryd.prog w = .ok (.enter 12 args) w := fun args w => enters_of Tryd.func12 (by kernel_rfl) rfl args w
theorem en13 : ∀ args w, (callFunc 13 args).run Tryd.prog w = .ok (.enter 13 args) w := fun args w => enters_of Tryd.func13 (by kernel_rfl) rfl args w
theorem en14 : ∀ args w, (callFunc 14 args).run Tryd.prog w = .ok (.enter 14 args) w := fun args w => enters_of Tryd.func14 (by kernel_rfl) rfl args w
theorem en15 : ∀ args w, (callFunc 15 args).run Tryd.prog w = .ok (.enter 15 args) w := fun args w => enters_of Tryd.func15 (by kernel_rfl) rfl args w
theorem en16 : ∀ args w, (callFunc 16 args).run Tryd.prog w = .ok (.enter 16 args) w := fun args w => enters_of Tryd.func16 (by kernel_rfl) rfl args w
theorem en17 : ∀ args w, (callFunc 17 args).run Tryd.prog w = .ok (.enter 17 args) w := fun args w => enters_of Tryd.func17 (by kernel_rfl) rfl args w
theorem en18 : ∀ args w, (callFunc 18 args).run Tryd.prog w = .ok (.enter 18 args) w := fun args w => enters_of Tryd.func18 (by kernel_rfl) rfl args w
theorem en19 : ∀ args w, (callFunc 19 args).run Tryd.prog w = .ok (.enter 19 args) w := fun args w => enters_of Tryd.func19 (by kernel_rfl) rfl args w
theorem en20 : ∀ args w, (callFunc 20 args).run Tryd.prog w = .ok (.enter 20 args) w := fun args w => enters_of Tryd.func20 (by kernel_rfl) rfl args w
theorem en21 : ∀ args w, (callFunc 21 args).run Tryd.prog w = .ok (.enter 21 args) w := fun args w => enters_of Tryd.func21 (by kernel_rfl) rfl args w
theorem en22 : ∀ args w, (callFunc 22 args).run Tryd.prog w = .ok (.enter 22 args) w := fun args w => enters_of Tryd.func22 (by kernel_rfl) rfl args w
theorem en23 : ∀ args w, (callFunc 23 args).run Tryd.prog w = .ok (.enter 23 args) w := fun args w => enters_of Tryd.func23 (by kernel_rfl) rfl args w
theorem en24 : ∀ args w, (callFunc 24 args).run Tryd.prog w = .ok (.enter 24 args) w := fun args w => enters_of Tryd.func24 (by kernel_rfl) rfl args w
theorem en25 : ∀ args w, (callFunc 25 args).run Tryd.prog w = .ok (.enter 25 args) w := fun args w => enters_of Tryd.func25 (by kernel_rfl) rfl args w
theorem en26 : ∀ args w, (callFunc 26 args).run Tryd.prog w = .ok (.enter 26 args) w := fun args w => enters_of Tryd.func26 (by kernel_rfl) rfl args w
theorem en27 : ∀ args w, (callFunc 27 args).run Tryd.prog w = .ok (.enter 27 args) w := fun args w => enters_of Tryd.func27 (by kernel_rfl) rfl args w
theorem en28 : ∀ args w, (callFunc 28 args).run Tryd.prog w = .ok (.enter 28 args) w := fun args w => enters_of Tryd.func28 (by kernel_rfl) rfl args w
theorem en29 : ∀ args w, (callFunc 29 args).run Tryd.prog w = .ok (.enter 29 args) w := fun args w => enters_of Tryd.func29 (by kernel_rfl) rfl args w
theorem en30 : ∀ args w, (callFunc 30 args).run Tryd.prog w = .ok (.enter 30 args) w := fun args w => enters_of Tryd.func30 (by kernel_rfl) rfl args w
theorem en31 : ∀ args w, (callFunc 31 args).run Tryd.prog w = .ok (.enter 31 args) w := fun args w => enters_of Tryd.func31 (by kernel_rfl) rfl args w
theorem en32 : ∀ args w, (callFunc 32 args).run Tryd.prog w = .ok (.enter 32 args) w := fun args w => enters_of Tryd.func32 (by kernel_rfl) rfl args w
theorem en33 : ∀ args w, (callFunc 33 args).run Tryd.prog w = .ok (.enter 33 args) w := fun args w => enters_of Tryd.func33 (by kernel_rfl) rfl args w
theorem en34 : ∀ args w, (callFunc 34 args).run Tryd.prog w = .ok (.enter 34 args) w := fun args w => enters_of Tryd.func34 (by kernel_rfl) rfl args w
theorem en35 : ∀ args w, (callFunc 35 args).run Tryd.prog w = .ok (.enter 35 args) w := fun args w => enters_of Tryd.func35 (by kernel_rfl) rfl args w
theorem en36 : ∀ args w, (callFunc 36 args).run Tryd.prog w = .ok (.enter 36 args) w := fun args w => enters_of Tryd.func36 (by kernel_rfl) rfl args w
theorem en37 : ∀ args w, (callFunc 37 args).run Tryd.prog w = .ok (.enter 37 args) w := fun args w => enters_of Tryd.func37 (by kernel_rfl) rfl args w
theorem en38 : ∀ args w, (callFunc 38 args).run Tryd.prog w = .ok (.enter 38 args) w := fun args w => enters_of Tryd.func38 (by kernel_rfl) rfl args w
theorem en39 : ∀ args w, (callFunc 39 args).run Tryd.prog w = .ok (.enter 39 args) w := fun args w => enters_of Tryd.func39 (by kernel_rfl) rfl args w
theorem en40 : ∀ args w, (callFunc 40 args).run Tryd.prog w = .ok (.enter 40 args) w := fun args w => enters_of Tryd.func40 (by kernel_rfl) rfl args w
theorem en41 : ∀ args w, (callFunc 41 args).run Tryd.prog w = .ok (.enter 41 args) w := fun args w => enters_of Tryd.func41 (by kernel_rfl) rfl args w
theorem en42 : ∀ args w, (callFunc 42 args).run Tryd.prog w = .ok (.enter 42 args) w := fun args w => enters_of Tryd.func42 (by kernel_rfl) rfl args w
theorem en43 : ∀ args w, (callFunc 43 args).run Tryd.prog w = .ok (.enter 43 args) w := fun args w => enters_of Tryd.func43 (by kernel_rfl) rfl args w
theorem en44 : ∀ args w, (callFunc 44 args).run Tryd.prog w = .ok (.enter 44 args) w := fun args w => enters_of Tryd.func44 (by kernel_rfl) rfl args w
theorem en45 : ∀ args w, (callFunc 45 args).run Tryd.prog w = .ok (.enter 45 args) w := fun args w => enters_of Tryd.func45 (by kernel_rfl) rfl args w
theorem en46 : ∀ args w, (callFunc 46 args).run Tryd.prog w = .ok (.enter 46 args) w := fun args w => enters_of Tryd.func46 (by kernel_rfl) rfl args w
theorem en47 : ∀ args w, (callFunc 47 args).run Tryd.prog w = .ok (.enter 47 args) w := fun args w => enters_of Tryd.func47 (by kernel_rfl) rfl args w
theorem en48 : ∀ args w, (callFunc 48 args).run Tryd.prog w = .ok (.enter 48 args) w := fun args w => enters_of Tryd.func48 (by kernel_rfl) rfl args w
theorem en49 : ∀ args w, (callFunc 49 args).run Tryd.prog w = .ok (.enter 49 args) w := fun args w => enters_of Tryd.func49 (by kernel_rfl) rfl args w
theorem en50 : ∀ args w, (callFunc 50 args).run Tryd.prog w = .ok (.enter 50 args) w := fun args w => enters_of Tryd.func50 (by kernel_rfl) rfl args w
theorem en51 : ∀ args w, (callFunc 51 args).run Tryd.prog w = .ok (.enter 51 args) w := fun args w => enters_of Tryd.func51 (by kernel_rfl) rfl args w
theorem en52 : ∀ args w, (callFunc 52 args).run Tryd.prog w = .ok (.enter 52 args) w := fun args w => enters_of Tryd.func52 (by kernel_rfl) rfl args w
theorem en53 : ∀ args w, (callFunc 53 args).run Tryd.prog w = .ok (.enter 53 args) w := fun args w => enters_of Tryd.func53 (by kernel_rfl) rfl args w
theorem en54 : ∀ args w, (callFunc 54 args).run Tryd.prog w = .ok (.enter 54 args) w := fun args w => enters_of Tryd.func54 (by kernel_rfl) rfl args w
theorem en55 : ∀ args w, (callFunc 55 args).run Tryd.prog w = .ok (.enter 55 args) w := fun args w => enters_of Tryd.func55 (by kernel_rfl) rfl args w
theorem en56 : ∀ args w, (callFunc 56 args).run Tryd.prog w = .ok (.enter 56 args) w := fun args w => enters_of Tryd.func56 (by kernel_rfl) rfl args w
theorem en57 : ∀ args w, (callFunc 57 args).run Tryd.prog w = .ok (.enter 57 args) w := fun args w => enters_of Tryd.func57 (by kernel_rfl) rfl args w
theorem en58 : ∀ args w, (callFunc 58 args).run Tryd.prog w = .ok (.enter 58 args) w := fun args w => enters_of Tryd.func58 (by kernel_rfl) rfl args w
theorem en59 : ∀ args w, (callFunc 59 args).run Tryd.prog w = .ok (.enter 59 args) w := fun args w => enters_of Tryd.func59 (by kernel_rfl) rfl args w
theorem en60 : ∀ args w, (callFunc 60 args).run Tryd.prog w = .ok (.enter 60 args) w := fun args w => enters_of Tryd.func60 (by kernel_rfl) rfl args w
theorem en61 : ∀ args w, (callFunc 61 args).run Tryd.prog w = .ok (.enter 61 args) w := fun args w => enters_of Tryd.func61 (by kernel_rfl) rfl args w
theorem en62 : ∀ args w, (callFunc 62 args).run Tryd.prog w = .ok (.enter 62 args) w := fun args w => enters_of Tryd.func62 (by kernel_rfl) rfl args w
theorem en63 : ∀ args w, (callFunc 63 args).run Tryd.prog w = .ok (.enter 63 args) w := fun args w => enters_of Tryd.func63 (by kernel_rfl) rfl args w
theorem en64 : ∀ args w, (callFunc 64 args).run Tryd.prog w = .ok (.enter 64 args) w := fun args w => enters_of Tryd.func64 (by kernel_rfl) rfl args w
theorem en65 : ∀ args w, (callFunc 65 args).run Tryd.prog w = .ok (.enter 65 args) w := fun args w => enters_of Tryd.func65 (by kernel_rfl) rfl args w
theorem en66 : ∀ args w, (callFunc 66 args).run Tryd.prog w = .ok (.enter 66 args) w := fun args w => enters_of Tryd.func66 (by kernel_rfl) rfl args w
theorem en67 : ∀ args w, (callFunc 67 args).run Tryd.prog w = .ok (.enter 67 args) w := fun args w => enters_of Tryd.func67 (by kernel_rfl) rfl args w
theorem en68 : ∀ args w, (callFunc 68 args).run Tryd.prog w = .ok (.enter 68 args) w := fun args w => enters_of Tryd.func68 (by kernel_rfl) rfl args w
theorem en69 : ∀ args w, (callFunc 69 args).run Tryd.prog w = .ok (.enter 69 args) w := fun args w => enters_of Tryd.func69 (by kernel_rfl) rfl args w
theorem en70 : ∀ args w, (callFunc 70 args).run Tryd.prog w = .ok (.enter 70 args) w := fun args w => enters_of Tryd.func70 (by kernel_rfl) rfl args w
theorem en71 : ∀ args w, (callFunc 71 args).run Tryd.prog w = .ok (.enter 71 args) w := fun args w => enters_of Tryd.func71 (by kernel_rfl) rfl args w
theorem en72 : ∀ args w, (callFunc 72 args).run Tryd.prog w = .ok (.enter 72 args) w := fun args w => enters_of Tryd.func72 (by kernel_rfl) rfl args w
theorem en73 : ∀ args w, (callFunc 73 args).run Tryd.prog w = .ok (.enter 73 args) w := fun args w => enters_of Tryd.func73 (by kernel_rfl) rfl args w
theorem en74 : ∀ args w, (callFunc 74 args).run Tryd.prog w = .ok (.enter 74 args) w := fun args w => enters_of Tryd.func74 (by kernel_rfl) rfl args w
theorem en75 : ∀ args w, (callFunc 75 args).run Tryd.prog w = .ok (.enter 75 args) w := fun args w => enters_of Tryd.func75 (by kernel_rfl) rfl args w
theorem en76 : ∀ args w, (callFunc 76 args).run Tryd.prog w = .ok (.enter 76 args) w := fun args w => enters_of Tryd.func76 (by kernel_rfl) rfl args w
theorem en77 : ∀ args w, (callFunc 77 args).run Tryd.prog w = .ok (.enter 77 args) w := fun args w => enters_of Tryd.func77 (by kernel_rfl) rfl args w
theorem en78 : ∀ args w, (callFunc 78 args).run Tryd.prog w = .ok (.enter 78 args) w := fun args w => enters_of Tryd.func78 (by kernel_rfl) rfl args w
theorem en79 : ∀ args w, (callFunc 79 args).run Tryd.prog w = .ok (.enter 79 args) w := fun args w => enters_of Tryd.func79 (by kernel_rfl) rfl args w
theorem en80 : ∀ args w, (callFunc 80 args).run Tryd.prog w = .ok (.enter 80 args) w := fun args w => enters_of Tryd.func80 (by kernel_rfl) rfl args w
theorem en81 : ∀ args w, (callFunc 81 args).run Tryd.prog w = .ok (.enter 81 args) w := fun args w => enters_of Tryd.func81 (by kernel_rfl) rfl args w
theorem en82 : ∀ args w, (callFunc 82 args).run Tryd.prog w = .ok (.enter 82 args) w := fun args w => enters_of Tryd.func82 (by kernel_rfl) rfl args w
theorem en83 : ∀ args w, (callFunc 83 args).run Tryd.prog w = .ok (.enter 83 args) w := fun args w => enters_of Tryd.func83 (by kernel_rfl) rfl args w
theorem en84 : ∀ args w, (callFunc 84 args).run Tryd.prog w = .ok (.enter 84 args) w := fun args w => enters_of Tryd.func84 (by kernel_rfl) rfl args w
theorem en85 : ∀ args w, (callFunc 85 args).run Tryd.prog w = .ok (.enter 85 args) w := fun args w => enters_of Tryd.func85 (by kernel_rfl) rfl args w
theorem en86 : ∀ args w, (callFunc 86 args).run Tryd.prog w = .ok (.enter 86 args) w := fun args w => enters_of Tryd.func86 (by kernel_rfl) rfl args w
theorem en87 : ∀ args w, (callFunc 87 args).run Tryd.prog w = .ok (.enter 87 args) w := fun args w => enters_of Tryd.func87 (by kernel_rfl) rfl args w
theorem en88 : ∀ args w, (callFunc 88 args).run Tryd.prog w = .ok (.enter 88 args) w := fun args w => enters_of Tryd.func88 (by kernel_rfl) rfl args w
theorem en89 : ∀ args w, (callFunc 89 args).run Tryd.prog w = .ok (.enter 89 args) w := fun args w => enters_of Tryd.func89 (by kernel_rfl) rfl args w
theorem en90 : ∀ args w, (callFunc 90 args).run Tryd.prog w = .ok (.enter 90 args) w := fun args w => enters_of Tryd.func90 (by kernel_rfl) rfl args w
theorem en91 : ∀ args w, (callFunc 91 args).run Tryd.prog w = .ok (.enter 91 args) w := fun args w => enters_of Tryd.func91 (by kernel_rfl) rfl args w
theorem en92 : ∀ args w, (callFunc 92 args).run Tryd.prog w = .ok (.enter 92 args) w := fun args w => enters_of Tryd.func92 (by kernel_rfl) rfl args w
theorem en93 : ∀ args w, (callFunc 93 args).run Tryd.prog w = .ok (.enter 93 args) w := fun args w => enters_of Tryd.func93 (by kernel_rfl) rfl args w
theorem en94 : ∀ args w, (callFunc 94 args).run Tryd.prog w = .ok (.enter 94 args) w := fun args w => enters_of Tryd.func94 (by kernel_rfl) rfl args w
theorem en95 : ∀ args w, (callFunc 95 args).run Tryd.prog w = .ok (.enter 95 args) w := fun args w => enters_of Tryd.func95 (by kernel_rfl) rfl args w
theorem en96 : ∀ args w, (callFunc 96 args).run Tryd.prog w = .ok (.enter 96 args) w := fun args w => enters_of Tryd.func96 (by kernel_rfl) rfl args w
theorem en97 : ∀ args w, (callFunc 97 args).run Tryd.prog w = .ok (.enter 97 args) w := fun args w => enters_of Tryd.func97 (by kernel_rfl) rfl args w
theorem en98 : ∀ args w, (callFunc 98 args).run Tryd.prog w = .ok (.enter 98 args) w := fun args w => enters_of Tryd.func98 (by kernel_rfl) rfl args w
theorem en99 : ∀ args w, (callFunc 99 args).run Tryd.prog w = .ok (.enter 99 args) w := fun args w => enters_of Tryd.func99 (by kernel_rfl) rfl args w
theorem en100 : ∀ args w, (callFunc 100 args).run Tryd.prog w = .ok (.enter 100 args) w := fun args w => enters_of Tryd.func100 (by kernel_rfl) rfl args w
theorem en101 : ∀ args w, (callFunc 101 args).run Tryd.prog w = .ok (.enter 101 args) w := fun args w => enters_of Tryd.func101 (by kernel_rfl) rfl args w
theorem en102 : ∀ args w, (callFunc 102 args).run Tryd.prog w = .ok (.enter 102 args) w := fun args w => enters_of Tryd.func102 (by kernel_rfl) rfl args w
theorem en103 : ∀ args w, (callFunc 103 args).run Tryd.prog w = .ok (.enter 103 args) w := fun args w => enters_of Tryd.func103 (by kernel_rfl) rfl args w
theorem en104 : ∀ args w, (callFunc 104 args).run Tryd.prog w = .ok (.enter 104 args) w := fun args w => enters_of Tryd.func104 (by kernel_rfl) rfl args w
theorem en105 : ∀ args w, (callFunc 105 args).run Tryd.prog w = .ok (.enter 105 args) w := fun args w => enters_of Tryd.func105 (by kernel_rfl) rfl args w
theorem en106 : ∀ args w, (callFunc 106 args).run Tryd.prog w = .ok (.enter 106 args) w := fun args w => enters_of Tryd.func106 (by kernel_rfl) rfl args w
theorem en107 : ∀ args w, (callFunc 107 args).run Tryd.prog w = .ok (.enter 107 args) w := fun args w => enters_of Tryd.func107 (by kernel_rfl) rfl args w
theorem en108 : ∀ args w, (callFunc 108 args).run Tryd.prog w = .ok (.enter 108 args) w := fun args w => enters_of Tryd.func108 (by kernel_rfl) rfl args w
theorem en109 : ∀ args w, (callFunc 109 args).run Tryd.prog w = .ok (.enter 109 args) w := fun args w => enters_of Tryd.func109 (by kernel_rfl) rfl args w
theorem en110 : ∀ args w, (callFunc 110 args).run Tryd.prog w = .ok (.enter 110 args) w := fun args w => enters_of Tryd.func110 (by kernel_rfl) rfl args w
theorem en111 : ∀ args w, (callFunc 111 args).run Tryd.prog w = .ok (.enter 111 args) w := fun args w => enters_of Tryd.func111 (by kernel_rfl) rfl args w
theorem en112 : ∀ args w, (callFunc 112 args).run Tryd.prog w = .ok (.enter 112 args) w := fun args w => enters_of Tryd.func112 (by kernel_rfl) rfl args w
theorem en113 : ∀ args w, (callFunc 113 args).run Tryd.prog w = .ok (.enter 113 args) w := fun args w => enters_of Tryd.func113 (by kernel_rfl) rfl args w
theorem en114 : ∀ args w, (callFunc 114 args).run Tryd.prog w = .ok (.enter 114 args) w := fun args w => enters_of Tryd.func114 (by kernel_rfl) rfl args w
theorem en115 : ∀ args w, (callFunc 115 args).run Tryd.prog w = .ok (.enter 115 args) w := fun args w => enters_of Tryd.func115 (by kernel_rfl) rfl args w
theorem en116 : ∀ args w, (callFunc 116 args).run Tryd.prog w = .ok (.enter 116 args) w := fun args w => enters_of Tryd.func116 (by kernel_rfl) rfl args w
theorem en117 : ∀ args w, (callFunc 117 args).run Tryd.prog w = .ok (.enter 117 args) w := fun args w => enters_of Tryd.func117 (by kernel_rfl) rfl args w
theorem en118 : ∀ args w, (callFunc 118 args).run Tryd.prog w = .ok (.enter 118 args) w := fun args w => enters_of Tryd.func118 (by kernel_rfl) rfl args w
theorem en119 : ∀ args w, (callFunc 119 args).run Tryd.prog w = .ok (.enter 119 args) w := fun args w => enters_of Tryd.func119 (by kernel_rfl) rfl args w
theorem en120 : ∀ args w, (callFunc 120 args).run Tryd.prog w = .ok (.enter 120 args) w := fun args w => enters_of Tryd.func120 (by kernel_rfl) rfl args w
theorem en121 : ∀ args w, (callFunc 121 args).run Tryd.prog w = .ok (.enter 121 args) w := fun args w => enters_of Tryd.func121 (by kernel_rfl) rfl args w
theorem en122 : ∀ args w, (callFunc 122 args).run Tryd.prog w = .ok (.enter 122 args) w := fun args w => enters_of Tryd.func122 (by kernel_rfl) rfl args w
theorem en123 : ∀ args w, (callFunc 123 args).run Tryd.prog w = .ok (.enter 123 args) w := fun args w => enters_of Tryd.func123 (by kernel_rfl) rfl args w
theorem en124 : ∀ args w, (callFunc 124 args).run Tryd.prog w = .ok (.enter 124 args) w := fun args w => enters_of Tryd.func124 (by kernel_rfl) rfl args w
theorem en125 : ∀ args w, (callFunc 125 args).run Tryd.prog w = .ok (.enter 125 args) w := fun args w => enters_of Tryd.func125 (by kernel_rfl) rfl args w
theorem en126 : ∀ args w, (callFunc 126 args).run Tryd.prog w = .ok (.enter 126 args) w := fun args w => enters_of Tryd.func126 (by kernel_rfl) rfl args w
theorem en127 : ∀ args w, (callFunc 127 args).run Tryd.prog w = .ok (.enter 127 args) w := fun args w => enters_of Tryd.func127 (by kernel_rfl) rfl args w
theorem en128 : ∀ args w, (callFunc 128 args).run Tryd.prog w = .ok (.enter 128 args) w := fun args w => enters_of Tryd.func128 (by kernel_rfl) rfl args w
end Go.Proofs.YthdmlgnhmbobaaaDoor.Ty
