/- Closed facts on the types and the functions of this translation, each by the kernel. -/
import Derived.Test.YthdmlgnhmbobaaaGreatDoorProg
import Derived.Test.YthdmlgnhmbobaaaGreatDoorEngOps
import Derived.Test.YthdmlgnhmbobaaaGreatDoorEngMore
import Derived.Test.YthdmlgnhmbobaaaGreatDoorEngDraw
import Derived.Test.YthdmlgnhmbobaaaGreatDoorEngMap
import Derived.Test.YthdmlgnhmbobaaaGreatDoorEngStr
import Derived.KernelRfl
import Derived.Shelf.Abstract
import Derived.RowKit3
import Derived.Laws.OwnMore
set_option linter.unusedVariables false
namespace Go.Proofs.YthdmlgnhmbobaaaGreatDoor.Ty
open Go.RowKit Go.Proofs
theorem mixed : Tryz.prog.follows .mixedOrders = true := by kernel_rfl
theorem ty_agg2 : ∀ w, (isAgg 2).run Tryz.prog w = .ok false w := fun w => by kernel_rfl
theorem ty_agg3 : ∀ w, (isAgg 3).run Tryz.prog w = .ok false w := fun w => by kernel_rfl
theorem ty_agg4 : ∀ w, (isAgg 4).run Tryz.prog w = .ok false w := fun w => by kernel_rfl
theorem ty_agg5 : ∀ w, (isAgg 5).run Tryz.prog w = .ok false w := fun w => by kernel_rfl
theorem ty_agg6 : ∀ w, (isAgg 6).run Tryz.prog w = .ok false w := fun w => by kernel_rfl
theorem ty_agg7 : ∀ w, (isAgg 7).run Tryz.prog w = .ok true w := fun w => by kernel_rfl
theorem ty_agg8 : ∀ w, (isAgg 8).run Tryz.prog w = .ok true w := fun w => by kernel_rfl
theorem ty_agg9 : ∀ w, (isAgg 9).run Tryz.prog w = .ok false w := fun w => by kernel_rfl
theorem ty_agg10 : ∀ w, (isAgg 10).run Tryz.prog w = .ok false w := fun w => by kernel_rfl
theorem ty_agg11 : ∀ w, (isAgg 11).run Tryz.prog w = .ok false w := fun w => by kernel_rfl
theorem ty_agg12 : ∀ w, (isAgg 12).run Tryz.prog w = .ok false w := fun w => by kernel_rfl
theorem ty_agg13 : ∀ w, (isAgg 13).run Tryz.prog w = .ok true w := fun w => by kernel_rfl
theorem ty_agg14 : ∀ w, (isAgg 14).run Tryz.prog w = .ok true w := fun w => by kernel_rfl
theorem ty_agg15 : ∀ w, (isAgg 15).run Tryz.prog w = .ok false w := fun w => by kernel_rfl
theorem ty_agg16 : ∀ w, (isAgg 16).run Tryz.prog w = .ok false w := fun w => by kernel_rfl
theorem ty_agg17 : ∀ w, (isAgg 17).run Tryz.prog w = .ok false w := fun w => by kernel_rfl
theorem ty_agg18 : ∀ w, (isAgg 18).run Tryz.prog w = .ok true w := fun w => by kernel_rfl
theorem ty_agg19 : ∀ w, (isAgg 19).run Tryz.prog w = .ok true w := fun w => by kernel_rfl
theorem ty_agg21 : ∀ w, (isAgg 21).run Tryz.prog w = .ok false w := fun w => by kernel_rfl
theorem ty_agg22 : ∀ w, (isAgg 22).run Tryz.prog w = .ok false w := fun w => by kernel_rfl
theorem ty_agg23 : ∀ w, (isAgg 23).run Tryz.prog w = .ok false w := fun w => by kernel_rfl
theorem ty_agg24 : ∀ w, (isAgg 24).run Tryz.prog w = .ok false w := fun w => by kernel_rfl
theorem ty_agg25 : ∀ w, (isAgg 25).run Tryz.prog w = .ok false w := fun w => by kernel_rfl
theorem ty_agg26 : ∀ w, (isAgg 26).run Tryz.prog w = .ok true w := fun w => by kernel_rfl
theorem ty_agg27 : ∀ w, (isAgg 27).run Tryz.prog w = .ok true w := fun w => by kernel_rfl
theorem ty_agg28 : ∀ w, (isAgg 28).run Tryz.prog w = .ok false w := fun w => by kernel_rfl
theorem ty_agg31 : ∀ w, (isAgg 31).run Tryz.prog w = .ok true w := fun w => by kernel_rfl
theorem ty_agg32 : ∀ w, (isAgg 32).run Tryz.prog w = .ok true w := fun w => by kernel_rfl
theorem ty_agg34 : ∀ w, (isAgg 34).run Tryz.prog w = .ok false w := fun w => by kernel_rfl
theorem ty_agg35 : ∀ w, (isAgg 35).run Tryz.prog w = .ok true w := fun w => by kernel_rfl
theorem ty_agg36 : ∀ w, (isAgg 36).run Tryz.prog w = .ok true w := fun w => by kernel_rfl
theorem ty_agg37 : ∀ w, (isAgg 37).run Tryz.prog w = .ok false w := fun w => by kernel_rfl
theorem ty_agg38 : ∀ w, (isAgg 38).run Tryz.prog w = .ok true w := fun w => by kernel_rfl
theorem ty_agg39 : ∀ w, (isAgg 39).run Tryz.prog w = .ok true w := fun w => by kernel_rfl
theorem ty_agg40 : ∀ w, (isAgg 40).run Tryz.prog w = .ok true w := fun w => by kernel_rfl
theorem ty_agg41 : ∀ w, (isAgg 41).run Tryz.prog w = .ok true w := fun w => by kernel_rfl
theorem ty_agg42 : ∀ w, (isAgg 42).run Tryz.prog w = .ok true w := fun w => by kernel_rfl
theorem ty_agg48 : ∀ w, (isAgg 48).run Tryz.prog w = .ok true w := fun w => by kernel_rfl
theorem ty_agg49 : ∀ w, (isAgg 49).run Tryz.prog w = .ok true w := fun w => by kernel_rfl
theorem ty_agg50 : ∀ w, (isAgg 50).run Tryz.prog w = .ok false w := fun w => by kernel_rfl
theorem ty_agg56 : ∀ w, (isAgg 56).run Tryz.prog w = .ok false w := fun w => by kernel_rfl
theorem ty_agg57 : ∀ w, (isAgg 57).run Tryz.prog w = .ok false w := fun w => by kernel_rfl
theorem ty_agg58 : ∀ w, (isAgg 58).run Tryz.prog w = .ok true w := fun w => by kernel_rfl
theorem ty_agg59 : ∀ w, (isAgg 59).run Tryz.prog w = .ok true w := fun w => by kernel_rfl
theorem ty_agg60 : ∀ w, (isAgg 60).run Tryz.prog w = .ok false w := fun w => by kernel_rfl
theorem ty_agg63 : ∀ w, (isAgg 63).run Tryz.prog w = .ok true w := fun w => by kernel_rfl
theorem ty_agg67 : ∀ w, (isAgg 67).run Tryz.prog w = .ok true w := fun w => by kernel_rfl
theorem ty_agg68 : ∀ w, (isAgg 68).run Tryz.prog w = .ok true w := fun w => by kernel_rfl
theorem ty_agg69 : ∀ w, (isAgg 69).run Tryz.prog w = .ok false w := fun w => by kernel_rfl
theorem ty_agg70 : ∀ w, (isAgg 70).run Tryz.prog w = .ok true w := fun w => by kernel_rfl
theorem ty_agg71 : ∀ w, (isAgg 71).run Tryz.prog w = .ok true w := fun w => by kernel_rfl
theorem ty_agg72 : ∀ w, (isAgg 72).run Tryz.prog w = .ok true w := fun w => by kernel_rfl
theorem ty_agg73 : ∀ w, (isAgg 73).run Tryz.prog w = .ok true w := fun w => by kernel_rfl
theorem ty_agg74 : ∀ w, (isAgg 74).run Tryz.prog w = .ok true w := fun w => by kernel_rfl
theorem ty_agg75 : ∀ w, (isAgg 75).run Tryz.prog w = .ok true w := fun w => by kernel_rfl
theorem ty_agg89 : ∀ w, (isAgg 89).run Tryz.prog w = .ok false w := fun w => by kernel_rfl
theorem ty_agg107 : ∀ w, (isAgg 107).run Tryz.prog w = .ok true w := fun w => by kernel_rfl
theorem ty_agg116 : ∀ w, (isAgg 116).run Tryz.prog w = .ok true w := fun w => by kernel_rfl
theorem ty_agg117 : ∀ w, (isAgg 117).run Tryz.prog w = .ok true w := fun w => by kernel_rfl
theorem ty_agg118 : ∀ w, (isAgg 118).run Tryz.prog w = .ok true w := fun w => by kernel_rfl
theorem ty_agg121 : ∀ w, (isAgg 121).run Tryz.prog w = .ok true w := fun w => by kernel_rfl
theorem ty_agg122 : ∀ w, (isAgg 122).run Tryz.prog w = .ok true w := fun w => by kernel_rfl
theorem ty_agg125 : ∀ w, (isAgg 125).run Tryz.prog w = .ok true w := fun w => by kernel_rfl
theorem ty_agg126 : ∀ w, (isAgg 126).run Tryz.prog w = .ok true w := fun w => by kernel_rfl
theorem ty_agg131 : ∀ w, (isAgg 131).run Tryz.prog w = .ok false w := fun w => by kernel_rfl
theorem ty_agg132 : ∀ w, (isAgg 132).run Tryz.prog w = .ok false w := fun w => by kernel_rfl
theorem ty_agg136 : ∀ w, (isAgg 136).run Tryz.prog w = .ok false w := fun w => by kernel_rfl
theorem ty_agg141 : ∀ w, (isAgg 141).run Tryz.prog w = .ok true w := fun w => by kernel_rfl
theorem ty_agg142 : ∀ w, (isAgg 142).run Tryz.prog w = .ok true w := fun w => by kernel_rfl
theorem ty_agg143 : ∀ w, (isAgg 143).run Tryz.prog w = .ok true w := fun w => by kernel_rfl
theorem ty_agg144 : ∀ w, (isAgg 144).run Tryz.prog w = .ok true w := fun w => by kernel_rfl
theorem ty_agg145 : ∀ w, (isAgg 145).run Tryz.prog w = .ok false w := fun w => by kernel_rfl
theorem ty_agg148 : ∀ w, (isAgg 148).run Tryz.prog w = .ok false w := fun w => by kernel_rfl
theorem ty_agg149 : ∀ w, (isAgg 149).run Tryz.prog w = .ok false w := fun w => by kernel_rfl
theorem ty_agg150 : ∀ w, (isAgg 150).run Tryz.prog w = .ok true w := fun w => by kernel_rfl
theorem ty_agg151 : ∀ w, (isAgg 151).run Tryz.prog w = .ok true w := fun w => by kernel_rfl
theorem ty_agg152 : ∀ w, (isAgg 152).run Tryz.prog w = .ok false w := fun w => by kernel_rfl
theorem ty_agg153 : ∀ w, (isAgg 153).run Tryz.prog w = .ok true w := fun w => by kernel_rfl
theorem ty_agg154 : ∀ w, (isAgg 154).run Tryz.prog w = .ok true w := fun w => by kernel_rfl
theorem ty_agg184 : ∀ w, (isAgg 184).run Tryz.prog w = .ok true w := fun w => by kernel_rfl
theorem ty_agg185 : ∀ w, (isAgg 185).run Tryz.prog w = .ok true w := fun w => by kernel_rfl
theorem ty_agg192 : ∀ w, (isAgg 192).run Tryz.prog w = .ok false w := fun w => by kernel_rfl
theorem ty_agg195 : ∀ w, (isAgg 195).run Tryz.prog w = .ok false w := fun w => by kernel_rfl
theorem ty_agg196 : ∀ w, (isAgg 196).run Tryz.prog w = .ok false w := fun w => by kernel_rfl
theorem ty_agg200 : ∀ w, (isAgg 200).run Tryz.prog w = .ok true w := fun w => by kernel_rfl
theorem ty_agg201 : ∀ w, (isAgg 201).run Tryz.prog w = .ok true w := fun w => by kernel_rfl
theorem ty_agg207 : ∀ w, (isAgg 207).run Tryz.prog w = .ok true w := fun w => by kernel_rfl
theorem ty_agg208 : ∀ w, (isAgg 208).run Tryz.prog w = .ok true w := fun w => by kernel_rfl
theorem ty_agg209 : ∀ w, (isAgg 209).run Tryz.prog w = .ok true w := fun w => by kernel_rfl
theorem ty_agg210 : ∀ w, (isAgg 210).run Tryz.prog w = .ok true w := fun w => by kernel_rfl
theorem ty_agg211 : ∀ w, (isAgg 211).run Tryz.prog w = .ok true w := fun w => by kernel_rfl
theorem ty_agg212 : ∀ w, (isAgg 212).run Tryz.prog w = .ok false w := fun w => by kernel_rfl
theorem ty_agg213 : ∀ w, (isAgg 213).run Tryz.prog w = .ok false w := fun w => by kernel_rfl
theorem ty_agg214 : ∀ w, (isAgg 214).run Tryz.prog w = .ok false w := fun w => by kernel_rfl
theorem ty_agg216 : ∀ w, (isAgg 216).run Tryz.prog w = .ok false w := fun w => by kernel_rfl
theorem ty_agg217 : ∀ w, (isAgg 217).run Tryz.prog w = .ok false w := fun w => by kernel_rfl
theorem ty_agg218 : ∀ w, (isAgg 218).run Tryz.prog w = .ok false w := fun w => by kernel_rfl
theorem ty_agg219 : ∀ w, (isAgg 219).run Tryz.prog w = .ok true w := fun w => by kernel_rfl
theorem ty_agg220 : ∀ w, (isAgg 220).run Tryz.prog w = .ok true w := fun w => by kernel_rfl
theorem ty_guard32 : Tryz.prog.eqGuardType Tryz.prog.depth 32 = false := by kernel_rfl
theorem ty_held32 : Tryz.prog.stoodInHeld 32 = false := by kernel_rfl
theorem ty_guard36 : Tryz.prog.eqGuardType Tryz.prog.depth 36 = false := by kernel_rfl
theorem ty_held36 : Tryz.prog.stoodInHeld 36 = false := by kernel_rfl
theorem ty_guard41 : Tryz.prog.eqGuardType Tryz.prog.depth 41 = false := by kernel_rfl
theorem ty_held41 : Tryz.prog.stoodInHeld 41 = false := by kernel_rfl
theorem ty_guard49 : Tryz.prog.eqGuardType Tryz.prog.depth 49 = false := by kernel_rfl
theorem ty_held49 : Tryz.prog.stoodInHeld 49 = false := by kernel_rfl
theorem ty_guard63 : Tryz.prog.eqGuardType Tryz.prog.depth 63 = false := by kernel_rfl
theorem ty_held63 : Tryz.prog.stoodInHeld 63 = false := by kernel_rfl
theorem ty_guard73 : Tryz.prog.eqGuardType Tryz.prog.depth 73 = false := by kernel_rfl
theorem ty_held73 : Tryz.prog.stoodInHeld 73 = false := by kernel_rfl
theorem ty_guard75 : Tryz.prog.eqGuardType Tryz.prog.depth 75 = false := by kernel_rfl
theorem ty_held75 : Tryz.prog.stoodInHeld 75 = false := by kernel_rfl
theorem ty_guard118 : Tryz.prog.eqGuardType Tryz.prog.depth 118 = false := by kernel_rfl
theorem ty_held118 : Tryz.prog.stoodInHeld 118 = false := by kernel_rfl
theorem ty_guard126 : Tryz.prog.eqGuardType Tryz.prog.depth 126 = false := by kernel_rfl
theorem ty_held126 : Tryz.prog.stoodInHeld 126 = false := by kernel_rfl
theorem ty_guard144 : Tryz.prog.eqGuardType Tryz.prog.depth 144 = false := by kernel_rfl
theorem ty_held144 : Tryz.prog.stoodInHeld 144 = false := by kernel_rfl
theorem ty_pl7 : ∀ w, (Eng.placesOf 7).run Tryz.prog w = .ok #[(0, 1), (1, 1), (2, 1), (3, 1)] w := fun w => by kernel_rfl
theorem ty_pl8 : ∀ w, (Eng.placesOf 8).run Tryz.prog w = .ok #[(0, 1), (1, 1), (2, 1), (3, 1)] w := fun w => by kernel_rfl
theorem ty_pl13 : ∀ w, (Eng.placesOf 13).run Tryz.prog w = .ok #[(0, 1), (1, 1)] w := fun w => by kernel_rfl
theorem ty_pl14 : ∀ w, (Eng.placesOf 14).run Tryz.prog w = .ok #[(0, 1), (1, 1)] w := fun w => by kernel_rfl
theorem ty_pl18 : ∀ w, (Eng.placesOf 18).run Tryz.prog w = .ok #[(0, 1)] w := fun w => by kernel_rfl
theorem ty_pl19 : ∀ w, (Eng.placesOf 19).run Tryz.prog w = .ok #[(0, 1)] w := fun w => by kernel_rfl
theorem ty_pl26 : ∀ w, (Eng.placesOf 26).run Tryz.prog w = .ok #[(0, 1), (1, 1), (2, 1), (3, 1)] w := fun w => by kernel_rfl
theorem ty_pl27 : ∀ w, (Eng.placesOf 27).run Tryz.prog w = .ok #[(0, 1), (1, 1), (2, 1), (3, 1)] w := fun w => by kernel_rfl
theorem ty_pl31 : ∀ w, (Eng.placesOf 31).run Tryz.prog w = .ok #[(0, 1), (1, 1), (2, 1)] w := fun w => by kernel_rfl
theorem ty_pl32 : ∀ w, (Eng.placesOf 32).run Tryz.prog w = .ok #[(0, 1), (1, 1), (2, 1)] w := fun w => by kernel_rfl
theorem ty_pl35 : ∀ w, (Eng.placesOf 35).run Tryz.prog w = .ok #[(0, 1), (1, 1), (2, 1), (3, 1), (4, 1), (5, 1), (6, 1), (7, 1), (8, 1)] w := fun w => by kernel_rfl
theorem ty_pl36 : ∀ w, (Eng.placesOf 36).run Tryz.prog w = .ok #[(0, 1), (1, 1), (2, 1), (3, 1), (4, 1), (5, 1), (6, 1), (7, 1), (8, 1)] w := fun w => by kernel_rfl
theorem ty_pl38 : ∀ w, (Eng.placesOf 38).run Tryz.prog w = .ok #[(0, 1), (1, 9), (10, 1)] w := fun w => by kernel_rfl
theorem ty_pl39 : ∀ w, (Eng.placesOf 39).run Tryz.prog w = .ok #[(0, 1), (1, 9), (10, 1)] w := fun w => by kernel_rfl
theorem ty_pl40 : ∀ w, (Eng.placesOf 40).run Tryz.prog w = .ok #[(0, 1), (1, 1), (2, 1), (3, 1), (4, 1)] w := fun w => by kernel_rfl
theorem ty_pl41 : ∀ w, (Eng.placesOf 41).run Tryz.prog w = .ok #[(0, 1), (1, 1), (2, 1), (3, 1), (4, 1)] w := fun w => by kernel_rfl
theorem ty_pl48 : ∀ w, (Eng.placesOf 48).run Tryz.prog w = .ok #[(0, 1), (1, 1), (2, 1), (3, 1)] w := fun w => by kernel_rfl
theorem ty_pl49 : ∀ w, (Eng.placesOf 49).run Tryz.prog w = .ok #[(0, 1), (1, 1), (2, 1), (3, 1)] w := fun w => by kernel_rfl
theorem ty_pl58 : ∀ w, (Eng.placesOf 58).run Tryz.prog w = .ok #[(0, 1), (1, 1), (2, 1), (3, 1)] w := fun w => by kernel_rfl
theorem ty_pl59 : ∀ w, (Eng.placesOf 59).run Tryz.prog w = .ok #[(0, 1), (1, 1), (2, 1), (3, 1)] w := fun w => by kernel_rfl
theorem ty_pl63 : ∀ w, (Eng.placesOf 63).run Tryz.prog w = .ok #[(0, 1), (1, 1), (2, 1)] w := fun w => by kernel_rfl
theorem ty_pl67 : ∀ w, (Eng.placesOf 67).run Tryz.prog w = .ok #[(0, 1), (1, 9), (10, 1)] w := fun w => by kernel_rfl
theorem ty_pl68 : ∀ w, (Eng.placesOf 68).run Tryz.prog w = .ok #[(0, 1), (1, 9), (10, 1)] w := fun w => by kernel_rfl
theorem ty_pl70 : ∀ w, (Eng.placesOf 70).run Tryz.prog w = .ok #[(0, 1), (1, 9), (10, 11), (21, 4), (25, 1), (26, 1)] w := fun w => by kernel_rfl
theorem ty_pl71 : ∀ w, (Eng.placesOf 71).run Tryz.prog w = .ok #[(0, 1), (1, 9), (10, 11), (21, 4), (25, 1), (26, 1)] w := fun w => by kernel_rfl
theorem ty_pl72 : ∀ w, (Eng.placesOf 72).run Tryz.prog w = .ok #[(0, 1), (1, 1), (2, 1), (3, 1), (4, 1)] w := fun w => by kernel_rfl
theorem ty_pl73 : ∀ w, (Eng.placesOf 73).run Tryz.prog w = .ok #[(0, 1), (1, 1), (2, 1), (3, 1), (4, 1)] w := fun w => by kernel_rfl
theorem ty_pl74 : ∀ w, (Eng.placesOf 74).run Tryz.prog w = .ok #[(0, 1), (1, 1), (2, 1), (3, 1), (4, 1), (5, 1), (6, 1), (7, 1)] w := fun w => by kernel_rfl
theorem ty_pl75 : ∀ w, (Eng.placesOf 75).run Tryz.prog w = .ok #[(0, 1), (1, 1), (2, 1), (3, 1), (4, 1), (5, 1), (6, 1), (7, 1)] w := fun w => by kernel_rfl
theorem ty_pl117 : ∀ w, (Eng.placesOf 117).run Tryz.prog w = .ok #[(0, 1), (1, 1), (2, 1), (3, 1)] w := fun w => by kernel_rfl
theorem ty_pl118 : ∀ w, (Eng.placesOf 118).run Tryz.prog w = .ok #[(0, 1), (1, 1), (2, 1), (3, 1)] w := fun w => by kernel_rfl
theorem ty_pl121 : ∀ w, (Eng.placesOf 121).run Tryz.prog w = .ok #[(0, 1), (1, 9), (10, 1)] w := fun w => by kernel_rfl
theorem ty_pl122 : ∀ w, (Eng.placesOf 122).run Tryz.prog w = .ok #[(0, 1), (1, 9), (10, 1)] w := fun w => by kernel_rfl
theorem ty_pl125 : ∀ w, (Eng.placesOf 125).run Tryz.prog w = .ok #[(0, 1)] w := fun w => by kernel_rfl
theorem ty_pl126 : ∀ w, (Eng.placesOf 126).run Tryz.prog w = .ok #[(0, 1)] w := fun w => by kernel_rfl
theorem ty_pl141 : ∀ w, (Eng.placesOf 141).run Tryz.prog w = .ok #[(0, 1)] w := fun w => by kernel_rfl
theorem ty_pl142 : ∀ w, (Eng.placesOf 142).run Tryz.prog w = .ok #[(0, 1)] w := fun w => by kernel_rfl
theorem ty_pl143 : ∀ w, (Eng.placesOf 143).run Tryz.prog w = .ok #[(0, 1), (1, 1)] w := fun w => by kernel_rfl
theorem ty_pl144 : ∀ w, (Eng.placesOf 144).run Tryz.prog w = .ok #[(0, 1), (1, 1)] w := fun w => by kernel_rfl
theorem ty_pl150 : ∀ w, (Eng.placesOf 150).run Tryz.prog w = .ok #[(0, 1), (1, 1), (2, 1), (3, 1), (4, 1), (5, 1), (6, 1)] w := fun w => by kernel_rfl
theorem ty_pl151 : ∀ w, (Eng.placesOf 151).run Tryz.prog w = .ok #[(0, 1), (1, 1), (2, 1), (3, 1), (4, 1), (5, 1), (6, 1)] w := fun w => by kernel_rfl
theorem ty_pl153 : ∀ w, (Eng.placesOf 153).run Tryz.prog w = .ok #[(0, 1)] w := fun w => by kernel_rfl
theorem ty_pl154 : ∀ w, (Eng.placesOf 154).run Tryz.prog w = .ok #[(0, 1)] w := fun w => by kernel_rfl
theorem ty_pl184 : ∀ w, (Eng.placesOf 184).run Tryz.prog w = .ok #[(0, 1)] w := fun w => by kernel_rfl
theorem ty_pl185 : ∀ w, (Eng.placesOf 185).run Tryz.prog w = .ok #[(0, 1)] w := fun w => by kernel_rfl
theorem ty_pl207 : ∀ w, (Eng.placesOf 207).run Tryz.prog w = .ok #[(0, 1), (1, 1), (2, 1), (3, 1)] w := fun w => by kernel_rfl
theorem ty_pl208 : ∀ w, (Eng.placesOf 208).run Tryz.prog w = .ok #[(0, 1), (1, 1), (2, 1), (3, 1)] w := fun w => by kernel_rfl
theorem ty_pl210 : ∀ w, (Eng.placesOf 210).run Tryz.prog w = .ok #[(0, 0)] w := fun w => by kernel_rfl
theorem ty_pl211 : ∀ w, (Eng.placesOf 211).run Tryz.prog w = .ok #[(0, 0)] w := fun w => by kernel_rfl
theorem ty_pl219 : ∀ w, (Eng.placesOf 219).run Tryz.prog w = .ok #[(0, 1), (1, 1), (2, 1), (3, 1), (4, 1), (5, 1), (6, 1), (7, 1), (8, 1), (9, 1), (10, 1)] w := fun w => by kernel_rfl
theorem ty_pl220 : ∀ w, (Eng.placesOf 220).run Tryz.prog w = .ok #[(0, 1), (1, 1), (2, 1), (3, 1), (4, 1), (5, 1), (6, 1), (7, 1), (8, 1), (9, 1), (10, 1)] w := fun w => by kernel_rfl
theorem ty_size2 : ∀ w, (sizeOf 2).run Tryz.prog w = .ok 1 w := fun w => by kernel_rfl
theorem ty_size3 : ∀ w, (sizeOf 3).run Tryz.prog w = .ok 1 w := fun w => by kernel_rfl
theorem ty_size4 : ∀ w, (sizeOf 4).run Tryz.prog w = .ok 1 w := fun w => by kernel_rfl
theorem ty_size5 : ∀ w, (sizeOf 5).run Tryz.prog w = .ok 1 w := fun w => by kernel_rfl
theorem ty_size6 : ∀ w, (sizeOf 6).run Tryz.prog w = .ok 1 w := fun w => by kernel_rfl
theorem ty_size7 : ∀ w, (sizeOf 7).run Tryz.prog w = .ok 4 w := fun w => by kernel_rfl
theorem ty_size8 : ∀ w, (sizeOf 8).run Tryz.prog w = .ok 4 w := fun w => by kernel_rfl
theorem ty_size9 : ∀ w, (sizeOf 9).run Tryz.prog w = .ok 1 w := fun w => by kernel_rfl
theorem ty_size10 : ∀ w, (sizeOf 10).run Tryz.prog w = .ok 1 w := fun w => by kernel_rfl
theorem ty_size11 : ∀ w, (sizeOf 11).run Tryz.prog w = .ok 1 w := fun w => by kernel_rfl
theorem ty_size12 : ∀ w, (sizeOf 12).run Tryz.prog w = .ok 1 w := fun w => by kernel_rfl
theorem ty_size13 : ∀ w, (sizeOf 13).run Tryz.prog w = .ok 2 w := fun w => by kernel_rfl
theorem ty_size14 : ∀ w, (sizeOf 14).run Tryz.prog w = .ok 2 w := fun w => by kernel_rfl
theorem ty_size15 : ∀ w, (sizeOf 15).run Tryz.prog w = .ok 1 w := fun w => by kernel_rfl
theorem ty_size16 : ∀ w, (sizeOf 16).run Tryz.prog w = .ok 1 w := fun w => by kernel_rfl
theorem ty_size17 : ∀ w, (sizeOf 17).run Tryz.prog w = .ok 1 w := fun w => by kernel_rfl
theorem ty_size18 : ∀ w, (sizeOf 18).run Tryz.prog w = .ok 1 w := fun w => by kernel_rfl
theorem ty_size19 : ∀ w, (sizeOf 19).run Tryz.prog w = .ok 1 w := fun w => by kernel_rfl
theorem ty_size21 : ∀ w, (sizeOf 21).run Tryz.prog w = .ok 1 w := fun w => by kernel_rfl
theorem ty_size22 : ∀ w, (sizeOf 22).run Tryz.prog w = .ok 1 w := fun w => by kernel_rfl
theorem ty_size23 : ∀ w, (sizeOf 23).run Tryz.prog w = .ok 1 w := fun w => by kernel_rfl
theorem ty_size24 : ∀ w, (sizeOf 24).run Tryz.prog w = .ok 1 w := fun w => by kernel_rfl
theorem ty_size25 : ∀ w, (sizeOf 25).run Tryz.prog w = .ok 1 w := fun w => by kernel_rfl
theorem ty_size26 : ∀ w, (sizeOf 26).run Tryz.prog w = .ok 4 w := fun w => by kernel_rfl
theorem ty_size27 : ∀ w, (sizeOf 27).run Tryz.prog w = .ok 4 w := fun w => by kernel_rfl
theorem ty_size28 : ∀ w, (sizeOf 28).run Tryz.prog w = .ok 1 w := fun w => by kernel_rfl
theorem ty_size31 : ∀ w, (sizeOf 31).run Tryz.prog w = .ok 3 w := fun w => by kernel_rfl
theorem ty_size32 : ∀ w, (sizeOf 32).run Tryz.prog w = .ok 3 w := fun w => by kernel_rfl
theorem ty_size34 : ∀ w, (sizeOf 34).run Tryz.prog w = .ok 1 w := fun w => by kernel_rfl
theorem ty_size35 : ∀ w, (sizeOf 35).run Tryz.prog w = .ok 9 w := fun w => by kernel_rfl
theorem ty_size36 : ∀ w, (sizeOf 36).run Tryz.prog w = .ok 9 w := fun w => by kernel_rfl
theorem ty_size37 : ∀ w, (sizeOf 37).run Tryz.prog w = .ok 1 w := fun w => by kernel_rfl
theorem ty_size38 : ∀ w, (sizeOf 38).run Tryz.prog w = .ok 11 w := fun w => by kernel_rfl
theorem ty_size39 : ∀ w, (sizeOf 39).run Tryz.prog w = .ok 11 w := fun w => by kernel_rfl
theorem ty_size40 : ∀ w, (sizeOf 40).run Tryz.prog w = .ok 5 w := fun w => by kernel_rfl
theorem ty_size41 : ∀ w, (sizeOf 41).run Tryz.prog w = .ok 5 w := fun w => by kernel_rfl
theorem ty_size42 : ∀ w, (sizeOf 42).run Tryz.prog w = .ok 40 w := fun w => by kernel_rfl
theorem ty_size48 : ∀ w, (sizeOf 48).run Tryz.prog w = .ok 4 w := fun w => by kernel_rfl
theorem ty_size49 : ∀ w, (sizeOf 49).run Tryz.prog w = .ok 4 w := fun w => by kernel_rfl
theorem ty_size50 : ∀ w, (sizeOf 50).run Tryz.prog w = .ok 1 w := fun w => by kernel_rfl
theorem ty_size56 : ∀ w, (sizeOf 56).run Tryz.prog w = .ok 1 w := fun w => by kernel_rfl
theorem ty_size57 : ∀ w, (sizeOf 57).run Tryz.prog w = .ok 1 w := fun w => by kernel_rfl
theorem ty_size58 : ∀ w, (sizeOf 58).run Tryz.prog w = .ok 4 w := fun w => by kernel_rfl
theorem ty_size59 : ∀ w, (sizeOf 59).run Tryz.prog w = .ok 4 w := fun w => by kernel_rfl
theorem ty_size60 : ∀ w, (sizeOf 60).run Tryz.prog w = .ok 1 w := fun w => by kernel_rfl
theorem ty_size63 : ∀ w, (sizeOf 63).run Tryz.prog w = .ok 3 w := fun w => by kernel_rfl
theorem ty_size67 : ∀ w, (sizeOf 67).run Tryz.prog w = .ok 11 w := fun w => by kernel_rfl
theorem ty_size68 : ∀ w, (sizeOf 68).run Tryz.prog w = .ok 11 w := fun w => by kernel_rfl
theorem ty_size69 : ∀ w, (sizeOf 69).run Tryz.prog w = .ok 1 w := fun w => by kernel_rfl
theorem ty_size70 : ∀ w, (sizeOf 70).run Tryz.prog w = .ok 27 w := fun w => by kernel_rfl
theorem ty_size71 : ∀ w, (sizeOf 71).run Tryz.prog w = .ok 27 w := fun w => by kernel_rfl
theorem ty_size72 : ∀ w, (sizeOf 72).run Tryz.prog w = .ok 5 w := fun w => by kernel_rfl
theorem ty_size73 : ∀ w, (sizeOf 73).run Tryz.prog w = .ok 5 w := fun w => by kernel_rfl
theorem ty_size74 : ∀ w, (sizeOf 74).run Tryz.prog w = .ok 8 w := fun w => by kernel_rfl
theorem ty_size75 : ∀ w, (sizeOf 75).run Tryz.prog w = .ok 8 w := fun w => by kernel_rfl
theorem ty_size89 : ∀ w, (sizeOf 89).run Tryz.prog w = .ok 1 w := fun w => by kernel_rfl
theorem ty_size107 : ∀ w, (sizeOf 107).run Tryz.prog w = .ok 4 w := fun w => by kernel_rfl
theorem ty_size116 : ∀ w, (sizeOf 116).run Tryz.prog w = .ok 8 w := fun w => by kernel_rfl
theorem ty_size117 : ∀ w, (sizeOf 117).run Tryz.prog w = .ok 4 w := fun w => by kernel_rfl
theorem ty_size118 : ∀ w, (sizeOf 118).run Tryz.prog w = .ok 4 w := fun w => by kernel_rfl
theorem ty_size121 : ∀ w, (sizeOf 121).run Tryz.prog w = .ok 11 w := fun w => by kernel_rfl
theorem ty_size122 : ∀ w, (sizeOf 122).run Tryz.prog w = .ok 11 w := fun w => by kernel_rfl
theorem ty_size125 : ∀ w, (sizeOf 125).run Tryz.prog w = .ok 1 w := fun w => by kernel_rfl
theorem ty_size126 : ∀ w, (sizeOf 126).run Tryz.prog w = .ok 1 w := fun w => by kernel_rfl
theorem ty_size131 : ∀ w, (sizeOf 131).run Tryz.prog w = .ok 1 w := fun w => by kernel_rfl
theorem ty_size132 : ∀ w, (sizeOf 132).run Tryz.prog w = .ok 1 w := fun w => by kernel_rfl
theorem ty_size136 : ∀ w, (sizeOf 136).run Tryz.prog w = .ok 1 w := fun w => by kernel_rfl
theorem ty_size141 : ∀ w, (sizeOf 141).run Tryz.prog w = .ok 1 w := fun w => by kernel_rfl
theorem ty_size142 : ∀ w, (sizeOf 142).run Tryz.prog w = .ok 1 w := fun w => by kernel_rfl
theorem ty_size143 : ∀ w, (sizeOf 143).run Tryz.prog w = .ok 2 w := fun w => by kernel_rfl
theorem ty_size144 : ∀ w, (sizeOf 144).run Tryz.prog w = .ok 2 w := fun w => by kernel_rfl
theorem ty_size145 : ∀ w, (sizeOf 145).run Tryz.prog w = .ok 1 w := fun w => by kernel_rfl
theorem ty_size148 : ∀ w, (sizeOf 148).run Tryz.prog w = .ok 1 w := fun w => by kernel_rfl
theorem ty_size149 : ∀ w, (sizeOf 149).run Tryz.prog w = .ok 1 w := fun w => by kernel_rfl
theorem ty_size150 : ∀ w, (sizeOf 150).run Tryz.prog w = .ok 7 w := fun w => by kernel_rfl
theorem ty_size151 : ∀ w, (sizeOf 151).run Tryz.prog w = .ok 7 w := fun w => by kernel_rfl
theorem ty_size152 : ∀ w, (sizeOf 152).run Tryz.prog w = .ok 1 w := fun w => by kernel_rfl
theorem ty_size153 : ∀ w, (sizeOf 153).run Tryz.prog w = .ok 1 w := fun w => by kernel_rfl
theorem ty_size154 : ∀ w, (sizeOf 154).run Tryz.prog w = .ok 1 w := fun w => by kernel_rfl
theorem ty_size184 : ∀ w, (sizeOf 184).run Tryz.prog w = .ok 1 w := fun w => by kernel_rfl
theorem ty_size185 : ∀ w, (sizeOf 185).run Tryz.prog w = .ok 1 w := fun w => by kernel_rfl
theorem ty_size192 : ∀ w, (sizeOf 192).run Tryz.prog w = .ok 1 w := fun w => by kernel_rfl
theorem ty_size195 : ∀ w, (sizeOf 195).run Tryz.prog w = .ok 1 w := fun w => by kernel_rfl
theorem ty_size196 : ∀ w, (sizeOf 196).run Tryz.prog w = .ok 1 w := fun w => by kernel_rfl
theorem ty_size200 : ∀ w, (sizeOf 200).run Tryz.prog w = .ok 2 w := fun w => by kernel_rfl
theorem ty_size201 : ∀ w, (sizeOf 201).run Tryz.prog w = .ok 64 w := fun w => by kernel_rfl
theorem ty_size207 : ∀ w, (sizeOf 207).run Tryz.prog w = .ok 4 w := fun w => by kernel_rfl
theorem ty_size208 : ∀ w, (sizeOf 208).run Tryz.prog w = .ok 4 w := fun w => by kernel_rfl
theorem ty_size209 : ∀ w, (sizeOf 209).run Tryz.prog w = .ok 0 w := fun w => by kernel_rfl
theorem ty_size210 : ∀ w, (sizeOf 210).run Tryz.prog w = .ok 0 w := fun w => by kernel_rfl
theorem ty_size211 : ∀ w, (sizeOf 211).run Tryz.prog w = .ok 0 w := fun w => by kernel_rfl
theorem ty_size212 : ∀ w, (sizeOf 212).run Tryz.prog w = .ok 1 w := fun w => by kernel_rfl
theorem ty_size213 : ∀ w, (sizeOf 213).run Tryz.prog w = .ok 1 w := fun w => by kernel_rfl
theorem ty_size214 : ∀ w, (sizeOf 214).run Tryz.prog w = .ok 1 w := fun w => by kernel_rfl
theorem ty_size216 : ∀ w, (sizeOf 216).run Tryz.prog w = .ok 1 w := fun w => by kernel_rfl
theorem ty_size217 : ∀ w, (sizeOf 217).run Tryz.prog w = .ok 1 w := fun w => by kernel_rfl
theorem ty_size218 : ∀ w, (sizeOf 218).run Tryz.prog w = .ok 1 w := fun w => by kernel_rfl
theorem ty_size219 : ∀ w, (sizeOf 219).run Tryz.prog w = .ok 11 w := fun w => by kernel_rfl
theorem ty_size220 : ∀ w, (sizeOf 220).run Tryz.prog w = .ok 11 w := fun w => by kernel_rfl
theorem ty_zero2 : ∀ w, (zeroValue 2).run Tryz.prog w = .ok (.int .i64 0) w := fun w => by kernel_rfl
theorem ty_zero3 : ∀ w, (zeroValue 3).run Tryz.prog w = .ok (.int .i64 0) w := fun w => by kernel_rfl
theorem ty_zero4 : ∀ w, (zeroValue 4).run Tryz.prog w = .ok (.bool false) w := fun w => by kernel_rfl
theorem ty_zero5 : ∀ w, (zeroValue 5).run Tryz.prog w = .ok (.int .u8 0) w := fun w => by kernel_rfl
theorem ty_zero6 : ∀ w, (zeroValue 6).run Tryz.prog w = .ok (.int .u8 0) w := fun w => by kernel_rfl
theorem ty_zero7 : ∀ w, (zeroValue 7).run Tryz.prog w = .ok (.agg #[(.int .i64 0), (.int .i64 0), (.bool false), (.int .u8 0)]) w := fun w => by kernel_rfl
theorem ty_zero8 : ∀ w, (zeroValue 8).run Tryz.prog w = .ok (.agg #[(.int .i64 0), (.int .i64 0), (.bool false), (.int .u8 0)]) w := fun w => by kernel_rfl
theorem ty_zero9 : ∀ w, (zeroValue 9).run Tryz.prog w = .ok (.string ⟨#[]⟩) w := fun w => by kernel_rfl
theorem ty_zero10 : ∀ w, (zeroValue 10).run Tryz.prog w = .ok (.string ⟨#[]⟩) w := fun w => by kernel_rfl
theorem ty_zero11 : ∀ w, (zeroValue 11).run Tryz.prog w = .ok (.string ⟨#[]⟩) w := fun w => by kernel_rfl
theorem ty_zero12 : ∀ w, (zeroValue 12).run Tryz.prog w = .ok (.int .u64 0) w := fun w => by kernel_rfl
theorem ty_zero13 : ∀ w, (zeroValue 13).run Tryz.prog w = .ok (.agg #[(.string ⟨#[]⟩), (.int .u64 0)]) w := fun w => by kernel_rfl
theorem ty_zero14 : ∀ w, (zeroValue 14).run Tryz.prog w = .ok (.agg #[(.string ⟨#[]⟩), (.int .u64 0)]) w := fun w => by kernel_rfl
theorem ty_zero15 : ∀ w, (zeroValue 15).run Tryz.prog w = .ok (.pointer none) w := fun w => by kernel_rfl
theorem ty_zero16 : ∀ w, (zeroValue 16).run Tryz.prog w = .ok (.pointer none) w := fun w => by kernel_rfl
theorem ty_zero17 : ∀ w, (zeroValue 17).run Tryz.prog w = .ok (.pointer none) w := fun w => by kernel_rfl
theorem ty_zero18 : ∀ w, (zeroValue 18).run Tryz.prog w = .ok (.agg #[(.pointer none)]) w := fun w => by kernel_rfl
theorem ty_zero19 : ∀ w, (zeroValue 19).run Tryz.prog w = .ok (.agg #[(.pointer none)]) w := fun w => by kernel_rfl
theorem ty_zero21 : ∀ w, (zeroValue 21).run Tryz.prog w = .ok (.int .i32 0) w := fun w => by kernel_rfl
theorem ty_zero22 : ∀ w, (zeroValue 22).run Tryz.prog w = .ok (.slice none 0 0) w := fun w => by kernel_rfl
theorem ty_zero23 : ∀ w, (zeroValue 23).run Tryz.prog w = .ok (.slice none 0 0) w := fun w => by kernel_rfl
theorem ty_zero24 : ∀ w, (zeroValue 24).run Tryz.prog w = .ok (.int .u64 0) w := fun w => by kernel_rfl
theorem ty_zero25 : ∀ w, (zeroValue 25).run Tryz.prog w = .ok (.slice none 0 0) w := fun w => by kernel_rfl
theorem ty_zero26 : ∀ w, (zeroValue 26).run Tryz.prog w = .ok (.agg #[(.slice none 0 0), (.slice none 0 0), (.int .u64 0), (.slice none 0 0)]) w := fun w => by kernel_rfl
theorem ty_zero27 : ∀ w, (zeroValue 27).run Tryz.prog w = .ok (.agg #[(.slice none 0 0), (.slice none 0 0), (.int .u64 0), (.slice none 0 0)]) w := fun w => by kernel_rfl
theorem ty_zero28 : ∀ w, (zeroValue 28).run Tryz.prog w = .ok (.pointer none) w := fun w => by kernel_rfl
theorem ty_zero31 : ∀ w, (zeroValue 31).run Tryz.prog w = .ok (.agg #[(.int .i64 0), (.int .i64 0), (.int .i64 0)]) w := fun w => by kernel_rfl
theorem ty_zero32 : ∀ w, (zeroValue 32).run Tryz.prog w = .ok (.agg #[(.int .i64 0), (.int .i64 0), (.int .i64 0)]) w := fun w => by kernel_rfl
theorem ty_zero34 : ∀ w, (zeroValue 34).run Tryz.prog w = .ok (.pointer none) w := fun w => by kernel_rfl
theorem ty_zero35 : ∀ w, (zeroValue 35).run Tryz.prog w = .ok (.agg #[(.int .i64 0), (.int .i64 0), (.int .i64 0), (.int .i64 0), (.int .i64 0), (.int .i64 0), (.int .i64 0), (.int .i64 0), (.int .i64 0)]) w := fun w => by kernel_rfl
theorem ty_zero36 : ∀ w, (zeroValue 36).run Tryz.prog w = .ok (.agg #[(.int .i64 0), (.int .i64 0), (.int .i64 0), (.int .i64 0), (.int .i64 0), (.int .i64 0), (.int .i64 0), (.int .i64 0), (.int .i64 0)]) w := fun w => by kernel_rfl
theorem ty_zero37 : ∀ w, (zeroValue 37).run Tryz.prog w = .ok (.pointer none) w := fun w => by kernel_rfl
theorem ty_zero38 : ∀ w, (zeroValue 38).run Tryz.prog w = .ok (.agg #[(.pointer none), (.int .i64 0), (.int .i64 0), (.int .i64 0), (.int .i64 0), (.int .i64 0), (.int .i64 0), (.int .i64 0), (.int .i64 0), (.int .i64 0), (.int .i64 0)]) w := fun w => by kernel_rfl
theorem ty_zero39 : ∀ w, (zeroValue 39).run Tryz.prog w = .ok (.agg #[(.pointer none), (.int .i64 0), (.int .i64 0), (.int .i64 0), (.int .i64 0), (.int .i64 0), (.int .i64 0), (.int .i64 0), (.int .i64 0), (.int .i64 0), (.int .i64 0)]) w := fun w => by kernel_rfl
theorem ty_zero40 : ∀ w, (zeroValue 40).run Tryz.prog w = .ok (.agg #[(.int .i64 0), (.int .i64 0), (.string ⟨#[]⟩), (.string ⟨#[]⟩), (.int .i64 0)]) w := fun w => by kernel_rfl
theorem ty_zero41 : ∀ w, (zeroValue 41).run Tryz.prog w = .ok (.agg #[(.int .i64 0), (.int .i64 0), (.string ⟨#[]⟩), (.string ⟨#[]⟩), (.int .i64 0)]) w := fun w => by kernel_rfl
theorem ty_zero42 : ∀ w, (zeroValue 42).run Tryz.prog w = .ok (.agg #[(.int .i64 0), (.int .i64 0), (.string ⟨#[]⟩), (.string ⟨#[]⟩), (.int .i64 0), (.int .i64 0), (.int .i64 0), (.string ⟨#[]⟩), (.string ⟨#[]⟩), (.int .i64 0), (.int .i64 0), (.int .i64 0), (.string ⟨#[]⟩), (.string ⟨#[]⟩), (.int .i64 0), (.int .i64 0), (.int .i64 0), (.string ⟨#[]⟩), (.string ⟨#[]⟩), (.int .i64 0), (.int .i64 0), (.int .i64 0), (.string ⟨#[]⟩), (.string ⟨#[]⟩), (.int .i64 0), (.int .i64 0), (.int .i64 0), (.string ⟨#[]⟩), (.string ⟨#[]⟩), (.int .i64 0), (.int .i64 0), (.int .i64 0), (.string ⟨#[]⟩), (.string ⟨#[]⟩), (.int .i64 0), (.int .i64 0), (.int .i64 0), (.string ⟨#[]⟩), (.string ⟨#[]⟩), (.int .i64 0)]) w := fun w => by kernel_rfl
theorem ty_zero48 : ∀ w, (zeroValue 48).run Tryz.prog w = .ok (.agg #[(.int .i64 0), (.int .i64 0), (.int .i64 0), (.bool false)]) w := fun w => by kernel_rfl
theorem ty_zero49 : ∀ w, (zeroValue 49).run Tryz.prog w = .ok (.agg #[(.int .i64 0), (.int .i64 0), (.int .i64 0), (.bool false)]) w := fun w => by kernel_rfl
theorem ty_zero50 : ∀ w, (zeroValue 50).run Tryz.prog w = .ok (.int .i64 0) w := fun w => by kernel_rfl
theorem ty_zero56 : ∀ w, (zeroValue 56).run Tryz.prog w = .ok (.slice none 0 0) w := fun w => by kernel_rfl
theorem ty_zero57 : ∀ w, (zeroValue 57).run Tryz.prog w = .ok (.slice none 0 0) w := fun w => by kernel_rfl
theorem ty_zero58 : ∀ w, (zeroValue 58).run Tryz.prog w = .ok (.agg #[(.slice none 0 0), (.int .i64 0), (.slice none 0 0), (.slice none 0 0)]) w := fun w => by kernel_rfl
theorem ty_zero59 : ∀ w, (zeroValue 59).run Tryz.prog w = .ok (.agg #[(.slice none 0 0), (.int .i64 0), (.slice none 0 0), (.slice none 0 0)]) w := fun w => by kernel_rfl
theorem ty_zero60 : ∀ w, (zeroValue 60).run Tryz.prog w = .ok (.pointer none) w := fun w => by kernel_rfl
theorem ty_zero63 : ∀ w, (zeroValue 63).run Tryz.prog w = .ok (.agg #[(.int .i64 0), (.int .i64 0), (.int .i64 0)]) w := fun w => by kernel_rfl
theorem ty_zero67 : ∀ w, (zeroValue 67).run Tryz.prog w = .ok (.agg #[(.pointer none), (.int .i64 0), (.int .i64 0), (.int .i64 0), (.int .i64 0), (.int .i64 0), (.int .i64 0), (.int .i64 0), (.int .i64 0), (.int .i64 0), (.int .i64 0)]) w := fun w => by kernel_rfl
theorem ty_zero68 : ∀ w, (zeroValue 68).run Tryz.prog w = .ok (.agg #[(.pointer none), (.int .i64 0), (.int .i64 0), (.int .i64 0), (.int .i64 0), (.int .i64 0), (.int .i64 0), (.int .i64 0), (.int .i64 0), (.int .i64 0), (.int .i64 0)]) w := fun w => by kernel_rfl
theorem ty_zero69 : ∀ w, (zeroValue 69).run Tryz.prog w = .ok (.slice none 0 0) w := fun w => by kernel_rfl
theorem ty_zero70 : ∀ w, (zeroValue 70).run Tryz.prog w = .ok (.agg #[(.pointer none), (.int .i64 0), (.int .i64 0), (.int .i64 0), (.int .i64 0), (.int .i64 0), (.int .i64 0), (.int .i64 0), (.int .i64 0), (.int .i64 0), (.pointer none), (.int .i64 0), (.int .i64 0), (.int .i64 0), (.int .i64 0), (.int .i64 0), (.int .i64 0), (.int .i64 0), (.int .i64 0), (.int .i64 0), (.int .i64 0), (.slice none 0 0), (.int .i64 0), (.slice none 0 0), (.slice none 0 0), (.slice none 0 0), (.int .i64 0)]) w := fun w => by kernel_rfl
theorem ty_zero71 : ∀ w, (zeroValue 71).run Tryz.prog w = .ok (.agg #[(.pointer none), (.int .i64 0), (.int .i64 0), (.int .i64 0), (.int .i64 0), (.int .i64 0), (.int .i64 0), (.int .i64 0), (.int .i64 0), (.int .i64 0), (.pointer none), (.int .i64 0), (.int .i64 0), (.int .i64 0), (.int .i64 0), (.int .i64 0), (.int .i64 0), (.int .i64 0), (.int .i64 0), (.int .i64 0), (.int .i64 0), (.slice none 0 0), (.int .i64 0), (.slice none 0 0), (.slice none 0 0), (.slice none 0 0), (.int .i64 0)]) w := fun w => by kernel_rfl
theorem ty_zero72 : ∀ w, (zeroValue 72).run Tryz.prog w = .ok (.agg #[(.string ⟨#[]⟩), (.string ⟨#[]⟩), (.int .u64 0), (.int .i64 0), (.int .i64 0)]) w := fun w => by kernel_rfl
theorem ty_zero73 : ∀ w, (zeroValue 73).run Tryz.prog w = .ok (.agg #[(.string ⟨#[]⟩), (.string ⟨#[]⟩), (.int .u64 0), (.int .i64 0), (.int .i64 0)]) w := fun w => by kernel_rfl
theorem ty_zero74 : ∀ w, (zeroValue 74).run Tryz.prog w = .ok (.agg #[(.int .i64 0), (.int .i64 0), (.int .i64 0), (.int .i64 0), (.int .i64 0), (.int .i64 0), (.bool false), (.int .i64 0)]) w := fun w => by kernel_rfl
theorem ty_zero75 : ∀ w, (zeroValue 75).run Tryz.prog w = .ok (.agg #[(.int .i64 0), (.int .i64 0), (.int .i64 0), (.int .i64 0), (.int .i64 0), (.int .i64 0), (.bool false), (.int .i64 0)]) w := fun w => by kernel_rfl
theorem ty_zero89 : ∀ w, (zeroValue 89).run Tryz.prog w = .ok (.pointer none) w := fun w => by kernel_rfl
theorem ty_zero107 : ∀ w, (zeroValue 107).run Tryz.prog w = .ok (.agg #[(.int .i64 0), (.int .i64 0), (.int .i64 0), (.int .i64 0)]) w := fun w => by kernel_rfl
theorem ty_zero116 : ∀ w, (zeroValue 116).run Tryz.prog w = .ok (.agg #[(.int .i64 0), (.int .i64 0), (.int .i64 0), (.int .i64 0), (.int .i64 0), (.int .i64 0), (.int .i64 0), (.int .i64 0)]) w := fun w => by kernel_rfl
theorem ty_zero117 : ∀ w, (zeroValue 117).run Tryz.prog w = .ok (.agg #[(.int .i64 0), (.int .i64 0), (.bool false), (.int .i64 0)]) w := fun w => by kernel_rfl
theorem ty_zero118 : ∀ w, (zeroValue 118).run Tryz.prog w = .ok (.agg #[(.int .i64 0), (.int .i64 0), (.bool false), (.int .i64 0)]) w := fun w => by kernel_rfl
theorem ty_zero121 : ∀ w, (zeroValue 121).run Tryz.prog w = .ok (.agg #[(.pointer none), (.int .i64 0), (.int .i64 0), (.int .i64 0), (.int .i64 0), (.int .i64 0), (.int .i64 0), (.int .i64 0), (.int .i64 0), (.int .i64 0), (.int .i64 0)]) w := fun w => by kernel_rfl
theorem ty_zero122 : ∀ w, (zeroValue 122).run Tryz.prog w = .ok (.agg #[(.pointer none), (.int .i64 0), (.int .i64 0), (.int .i64 0), (.int .i64 0), (.int .i64 0), (.int .i64 0), (.int .i64 0), (.int .i64 0), (.int .i64 0), (.int .i64 0)]) w := fun w => by kernel_rfl
theorem ty_zero125 : ∀ w, (zeroValue 125).run Tryz.prog w = .ok (.agg #[(.int .u64 0)]) w := fun w => by kernel_rfl
theorem ty_zero126 : ∀ w, (zeroValue 126).run Tryz.prog w = .ok (.agg #[(.int .u64 0)]) w := fun w => by kernel_rfl
theorem ty_zero131 : ∀ w, (zeroValue 131).run Tryz.prog w = .ok (.slice none 0 0) w := fun w => by kernel_rfl
theorem ty_zero132 : ∀ w, (zeroValue 132).run Tryz.prog w = .ok (.int .u64 0) w := fun w => by kernel_rfl
theorem ty_zero136 : ∀ w, (zeroValue 136).run Tryz.prog w = .ok (.slice none 0 0) w := fun w => by kernel_rfl
theorem ty_zero141 : ∀ w, (zeroValue 141).run Tryz.prog w = .ok (.agg #[(.slice none 0 0)]) w := fun w => by kernel_rfl
theorem ty_zero142 : ∀ w, (zeroValue 142).run Tryz.prog w = .ok (.agg #[(.slice none 0 0)]) w := fun w => by kernel_rfl
theorem ty_zero143 : ∀ w, (zeroValue 143).run Tryz.prog w = .ok (.agg #[(.string ⟨#[]⟩), (.int .u64 0)]) w := fun w => by kernel_rfl
theorem ty_zero144 : ∀ w, (zeroValue 144).run Tryz.prog w = .ok (.agg #[(.string ⟨#[]⟩), (.int .u64 0)]) w := fun w => by kernel_rfl
theorem ty_zero145 : ∀ w, (zeroValue 145).run Tryz.prog w = .ok (.pointer none) w := fun w => by kernel_rfl
theorem ty_zero148 : ∀ w, (zeroValue 148).run Tryz.prog w = .ok (.map none) w := fun w => by kernel_rfl
theorem ty_zero149 : ∀ w, (zeroValue 149).run Tryz.prog w = .ok (.map none) w := fun w => by kernel_rfl
theorem ty_zero150 : ∀ w, (zeroValue 150).run Tryz.prog w = .ok (.agg #[(.int .i64 0), (.int .i64 0), (.pointer none), (.slice none 0 0), (.slice none 0 0), (.map none), (.map none)]) w := fun w => by kernel_rfl
theorem ty_zero151 : ∀ w, (zeroValue 151).run Tryz.prog w = .ok (.agg #[(.int .i64 0), (.int .i64 0), (.pointer none), (.slice none 0 0), (.slice none 0 0), (.map none), (.map none)]) w := fun w => by kernel_rfl
theorem ty_zero152 : ∀ w, (zeroValue 152).run Tryz.prog w = .ok (.map none) w := fun w => by kernel_rfl
theorem ty_zero153 : ∀ w, (zeroValue 153).run Tryz.prog w = .ok (.agg #[(.map none)]) w := fun w => by kernel_rfl
theorem ty_zero154 : ∀ w, (zeroValue 154).run Tryz.prog w = .ok (.agg #[(.map none)]) w := fun w => by kernel_rfl
theorem ty_zero184 : ∀ w, (zeroValue 184).run Tryz.prog w = .ok (.agg #[(.slice none 0 0)]) w := fun w => by kernel_rfl
theorem ty_zero185 : ∀ w, (zeroValue 185).run Tryz.prog w = .ok (.agg #[(.slice none 0 0)]) w := fun w => by kernel_rfl
theorem ty_zero192 : ∀ w, (zeroValue 192).run Tryz.prog w = .ok (.slice none 0 0) w := fun w => by kernel_rfl
theorem ty_zero195 : ∀ w, (zeroValue 195).run Tryz.prog w = .ok (.slice none 0 0) w := fun w => by kernel_rfl
theorem ty_zero196 : ∀ w, (zeroValue 196).run Tryz.prog w = .ok (.slice none 0 0) w := fun w => by kernel_rfl
theorem ty_zero200 : ∀ w, (zeroValue 200).run Tryz.prog w = .ok (.agg #[(.int .u64 0), (.int .u64 0)]) w := fun w => by kernel_rfl
theorem ty_zero201 : ∀ w, (zeroValue 201).run Tryz.prog w = .ok (.agg #[(.int .u8 0), (.int .u8 0), (.int .u8 0), (.int .u8 0), (.int .u8 0), (.int .u8 0), (.int .u8 0), (.int .u8 0), (.int .u8 0), (.int .u8 0), (.int .u8 0), (.int .u8 0), (.int .u8 0), (.int .u8 0), (.int .u8 0), (.int .u8 0), (.int .u8 0), (.int .u8 0), (.int .u8 0), (.int .u8 0), (.int .u8 0), (.int .u8 0), (.int .u8 0), (.int .u8 0), (.int .u8 0), (.int .u8 0), (.int .u8 0), (.int .u8 0), (.int .u8 0), (.int .u8 0), (.int .u8 0), (.int .u8 0), (.int .u8 0), (.int .u8 0), (.int .u8 0), (.int .u8 0), (.int .u8 0), (.int .u8 0), (.int .u8 0), (.int .u8 0), (.int .u8 0), (.int .u8 0), (.int .u8 0), (.int .u8 0), (.int .u8 0), (.int .u8 0), (.int .u8 0), (.int .u8 0), (.int .u8 0), (.int .u8 0), (.int .u8 0), (.int .u8 0), (.int .u8 0), (.int .u8 0), (.int .u8 0), (.int .u8 0), (.int .u8 0), (.int .u8 0), (.int .u8 0), (.int .u8 0), (.int .u8 0), (.int .u8 0), (.int .u8 0), (.int .u8 0)]) w := fun w => by kernel_rfl
theorem ty_zero207 : ∀ w, (zeroValue 207).run Tryz.prog w = .ok (.agg #[(.pointer none), (.pointer none), (.pointer none), (.string ⟨#[]⟩)]) w := fun w => by kernel_rfl
theorem ty_zero208 : ∀ w, (zeroValue 208).run Tryz.prog w = .ok (.agg #[(.pointer none), (.pointer none), (.pointer none), (.string ⟨#[]⟩)]) w := fun w => by kernel_rfl
theorem ty_zero209 : ∀ w, (zeroValue 209).run Tryz.prog w = .ok (.agg #[]) w := fun w => by kernel_rfl
theorem ty_zero210 : ∀ w, (zeroValue 210).run Tryz.prog w = .ok (.agg #[]) w := fun w => by kernel_rfl
theorem ty_zero211 : ∀ w, (zeroValue 211).run Tryz.prog w = .ok (.agg #[]) w := fun w => by kernel_rfl
theorem ty_zero212 : ∀ w, (zeroValue 212).run Tryz.prog w = .ok (.int .u32 0) w := fun w => by kernel_rfl
theorem ty_zero213 : ∀ w, (zeroValue 213).run Tryz.prog w = .ok (.int .u8 0) w := fun w => by kernel_rfl
theorem ty_zero214 : ∀ w, (zeroValue 214).run Tryz.prog w = .ok (.int .u8 0) w := fun w => by kernel_rfl
theorem ty_zero216 : ∀ w, (zeroValue 216).run Tryz.prog w = .ok (.pointer none) w := fun w => by kernel_rfl
theorem ty_zero217 : ∀ w, (zeroValue 217).run Tryz.prog w = .ok (.int .i32 0) w := fun w => by kernel_rfl
theorem ty_zero218 : ∀ w, (zeroValue 218).run Tryz.prog w = .ok (.int .i32 0) w := fun w => by kernel_rfl
theorem ty_zero219 : ∀ w, (zeroValue 219).run Tryz.prog w = .ok (.agg #[(.int .u64 0), (.int .u64 0), (.int .u32 0), (.int .u8 0), (.int .u8 0), (.int .u8 0), (.int .u8 0), .nilFunc, (.pointer none), (.int .i32 0), (.int .i32 0)]) w := fun w => by kernel_rfl
theorem ty_zero220 : ∀ w, (zeroValue 220).run Tryz.prog w = .ok (.agg #[(.int .u64 0), (.int .u64 0), (.int .u32 0), (.int .u8 0), (.int .u8 0), (.int .u8 0), (.int .u8 0), .nilFunc, (.pointer none), (.int .i32 0), (.int .i32 0)]) w := fun w => by kernel_rfl
theorem ty_info2 : ∃ i, Tryz.prog.info? 2 = some i ∧ i.zero = some (.int .i64 0) ∧ i.size = 1 ∧ i.bytes = 8 := Eng.info_parts (show (Tryz.prog.info? 2).map (fun i => (i.zero, i.size, i.bytes)) = some (some (.int .i64 0), 1, 8) by kernel_rfl)
theorem ty_info3 : ∃ i, Tryz.prog.info? 3 = some i ∧ i.zero = some (.int .i64 0) ∧ i.size = 1 ∧ i.bytes = 8 := Eng.info_parts (show (Tryz.prog.info? 3).map (fun i => (i.zero, i.size, i.bytes)) = some (some (.int .i64 0), 1, 8) by kernel_rfl)
theorem ty_info4 : ∃ i, Tryz.prog.info? 4 = some i ∧ i.zero = some (.bool false) ∧ i.size = 1 ∧ i.bytes = 1 := Eng.info_parts (show (Tryz.prog.info? 4).map (fun i => (i.zero, i.size, i.bytes)) = some (some (.bool false), 1, 1) by kernel_rfl)
theorem ty_info5 : ∃ i, Tryz.prog.info? 5 = some i ∧ i.zero = some (.int .u8 0) ∧ i.size = 1 ∧ i.bytes = 1 := Eng.info_parts (show (Tryz.prog.info? 5).map (fun i => (i.zero, i.size, i.bytes)) = some (some (.int .u8 0), 1, 1) by kernel_rfl)
theorem ty_info6 : ∃ i, Tryz.prog.info? 6 = some i ∧ i.zero = some (.int .u8 0) ∧ i.size = 1 ∧ i.bytes = 1 := Eng.info_parts (show (Tryz.prog.info? 6).map (fun i => (i.zero, i.size, i.bytes)) = some (some (.int .u8 0), 1, 1) by kernel_rfl)
theorem ty_info7 : ∃ i, Tryz.prog.info? 7 = some i ∧ i.zero = some (.agg #[(.int .i64 0), (.int .i64 0), (.bool false), (.int .u8 0)]) ∧ i.size = 4 ∧ i.bytes = 24 := Eng.info_parts (show (Tryz.prog.info? 7).map (fun i => (i.zero, i.size, i.bytes)) = some (some (.agg #[(.int .i64 0), (.int .i64 0), (.bool false), (.int .u8 0)]), 4, 24) by kernel_rfl)
theorem ty_info8 : ∃ i, Tryz.prog.info? 8 = some i ∧ i.zero = some (.agg #[(.int .i64 0), (.int .i64 0), (.bool false), (.int .u8 0)]) ∧ i.size = 4 ∧ i.bytes = 24 := Eng.info_parts (show (Tryz.prog.info? 8).map (fun i => (i.zero, i.size, i.bytes)) = some (some (.agg #[(.int .i64 0), (.int .i64 0), (.bool false), (.int .u8 0)]), 4, 24) by kernel_rfl)
theorem ty_info9 : ∃ i, Tryz.prog.info? 9 = some i ∧ i.zero = some (.string ⟨#[]⟩) ∧ i.size = 1 ∧ i.bytes = 16 := Eng.info_parts (show (Tryz.prog.info? 9).map (fun i => (i.zero, i.size, i.bytes)) = some (some (.string ⟨#[]⟩), 1, 16) by kernel_rfl)
theorem ty_info10 : ∃ i, Tryz.prog.info? 10 = some i ∧ i.zero = some (.string ⟨#[]⟩) ∧ i.size = 1 ∧ i.bytes = 16 := Eng.info_parts (show (Tryz.prog.info? 10).map (fun i => (i.zero, i.size, i.bytes)) = some (some (.string ⟨#[]⟩), 1, 16) by kernel_rfl)
theorem ty_info11 : ∃ i, Tryz.prog.info? 11 = some i ∧ i.zero = some (.string ⟨#[]⟩) ∧ i.size = 1 ∧ i.bytes = 16 := Eng.info_parts (show (Tryz.prog.info? 11).map (fun i => (i.zero, i.size, i.bytes)) = some (some (.string ⟨#[]⟩), 1, 16) by kernel_rfl)
theorem ty_info12 : ∃ i, Tryz.prog.info? 12 = some i ∧ i.zero = some (.int .u64 0) ∧ i.size = 1 ∧ i.bytes = 8 := Eng.info_parts (show (Tryz.prog.info? 12).map (fun i => (i.zero, i.size, i.bytes)) = some (some (.int .u64 0), 1, 8) by kernel_rfl)
theorem ty_info13 : ∃ i, Tryz.prog.info? 13 = some i ∧ i.zero = some (.agg #[(.string ⟨#[]⟩), (.int .u64 0)]) ∧ i.size = 2 ∧ i.bytes = 24 := Eng.info_parts (show (Tryz.prog.info? 13).map (fun i => (i.zero, i.size, i.bytes)) = some (some (.agg #[(.string ⟨#[]⟩), (.int .u64 0)]), 2, 24) by kernel_rfl)
theorem ty_info14 : ∃ i, Tryz.prog.info? 14 = some i ∧ i.zero = some (.agg #[(.string ⟨#[]⟩), (.int .u64 0)]) ∧ i.size = 2 ∧ i.bytes = 24 := Eng.info_parts (show (Tryz.prog.info? 14).map (fun i => (i.zero, i.size, i.bytes)) = some (some (.agg #[(.string ⟨#[]⟩), (.int .u64 0)]), 2, 24) by kernel_rfl)
theorem ty_info15 : ∃ i, Tryz.prog.info? 15 = some i ∧ i.zero = some (.pointer none) ∧ i.size = 1 ∧ i.bytes = 8 := Eng.info_parts (show (Tryz.prog.info? 15).map (fun i => (i.zero, i.size, i.bytes)) = some (some (.pointer none), 1, 8) by kernel_rfl)
theorem ty_info16 : ∃ i, Tryz.prog.info? 16 = some i ∧ i.zero = some (.pointer none) ∧ i.size = 1 ∧ i.bytes = 8 := Eng.info_parts (show (Tryz.prog.info? 16).map (fun i => (i.zero, i.size, i.bytes)) = some (some (.pointer none), 1, 8) by kernel_rfl)
theorem ty_info17 : ∃ i, Tryz.prog.info? 17 = some i ∧ i.zero = some (.pointer none) ∧ i.size = 1 ∧ i.bytes = 8 := Eng.info_parts (show (Tryz.prog.info? 17).map (fun i => (i.zero, i.size, i.bytes)) = some (some (.pointer none), 1, 8) by kernel_rfl)
theorem ty_info18 : ∃ i, Tryz.prog.info? 18 = some i ∧ i.zero = some (.agg #[(.pointer none)]) ∧ i.size = 1 ∧ i.bytes = 8 := Eng.info_parts (show (Tryz.prog.info? 18).map (fun i => (i.zero, i.size, i.bytes)) = some (some (.agg #[(.pointer none)]), 1, 8) by kernel_rfl)
theorem ty_info19 : ∃ i, Tryz.prog.info? 19 = some i ∧ i.zero = some (.agg #[(.pointer none)]) ∧ i.size = 1 ∧ i.bytes = 8 := Eng.info_parts (show (Tryz.prog.info? 19).map (fun i => (i.zero, i.size, i.bytes)) = some (some (.agg #[(.pointer none)]), 1, 8) by kernel_rfl)
theorem ty_info21 : ∃ i, Tryz.prog.info? 21 = some i ∧ i.zero = some (.int .i32 0) ∧ i.size = 1 ∧ i.bytes = 4 := Eng.info_parts (show (Tryz.prog.info? 21).map (fun i => (i.zero, i.size, i.bytes)) = some (some (.int .i32 0), 1, 4) by kernel_rfl)
theorem ty_info22 : ∃ i, Tryz.prog.info? 22 = some i ∧ i.zero = some (.slice none 0 0) ∧ i.size = 1 ∧ i.bytes = 24 := Eng.info_parts (show (Tryz.prog.info? 22).map (fun i => (i.zero, i.size, i.bytes)) = some (some (.slice none 0 0), 1, 24) by kernel_rfl)
theorem ty_info23 : ∃ i, Tryz.prog.info? 23 = some i ∧ i.zero = some (.slice none 0 0) ∧ i.size = 1 ∧ i.bytes = 24 := Eng.info_parts (show (Tryz.prog.info? 23).map (fun i => (i.zero, i.size, i.bytes)) = some (some (.slice none 0 0), 1, 24) by kernel_rfl)
theorem ty_info24 : ∃ i, Tryz.prog.info? 24 = some i ∧ i.zero = some (.int .u64 0) ∧ i.size = 1 ∧ i.bytes = 8 := Eng.info_parts (show (Tryz.prog.info? 24).map (fun i => (i.zero, i.size, i.bytes)) = some (some (.int .u64 0), 1, 8) by kernel_rfl)
theorem ty_info25 : ∃ i, Tryz.prog.info? 25 = some i ∧ i.zero = some (.slice none 0 0) ∧ i.size = 1 ∧ i.bytes = 24 := Eng.info_parts (show (Tryz.prog.info? 25).map (fun i => (i.zero, i.size, i.bytes)) = some (some (.slice none 0 0), 1, 24) by kernel_rfl)
theorem ty_info26 : ∃ i, Tryz.prog.info? 26 = some i ∧ i.zero = some (.agg #[(.slice none 0 0), (.slice none 0 0), (.int .u64 0), (.slice none 0 0)]) ∧ i.size = 4 ∧ i.bytes = 80 := Eng.info_parts (show (Tryz.prog.info? 26).map (fun i => (i.zero, i.size, i.bytes)) = some (some (.agg #[(.slice none 0 0), (.slice none 0 0), (.int .u64 0), (.slice none 0 0)]), 4, 80) by kernel_rfl)
theorem ty_info27 : ∃ i, Tryz.prog.info? 27 = some i ∧ i.zero = some (.agg #[(.slice none 0 0), (.slice none 0 0), (.int .u64 0), (.slice none 0 0)]) ∧ i.size = 4 ∧ i.bytes = 80 := Eng.info_parts (show (Tryz.prog.info? 27).map (fun i => (i.zero, i.size, i.bytes)) = some (some (.agg #[(.slice none 0 0), (.slice none 0 0), (.int .u64 0), (.slice none 0 0)]), 4, 80) by kernel_rfl)
theorem ty_info28 : ∃ i, Tryz.prog.info? 28 = some i ∧ i.zero = some (.pointer none) ∧ i.size = 1 ∧ i.bytes = 8 := Eng.info_parts (show (Tryz.prog.info? 28).map (fun i => (i.zero, i.size, i.bytes)) = some (some (.pointer none), 1, 8) by kernel_rfl)
theorem ty_info31 : ∃ i, Tryz.prog.info? 31 = some i ∧ i.zero = some (.agg #[(.int .i64 0), (.int .i64 0), (.int .i64 0)]) ∧ i.size = 3 ∧ i.bytes = 24 := Eng.info_parts (show (Tryz.prog.info? 31).map (fun i => (i.zero, i.size, i.bytes)) = some (some (.agg #[(.int .i64 0), (.int .i64 0), (.int .i64 0)]), 3, 24) by kernel_rfl)
theorem ty_info32 : ∃ i, Tryz.prog.info? 32 = some i ∧ i.zero = some (.agg #[(.int .i64 0), (.int .i64 0), (.int .i64 0)]) ∧ i.size = 3 ∧ i.bytes = 24 := Eng.info_parts (show (Tryz.prog.info? 32).map (fun i => (i.zero, i.size, i.bytes)) = some (some (.agg #[(.int .i64 0), (.int .i64 0), (.int .i64 0)]), 3, 24) by kernel_rfl)
theorem ty_info34 : ∃ i, Tryz.prog.info? 34 = some i ∧ i.zero = some (.pointer none) ∧ i.size = 1 ∧ i.bytes = 8 := Eng.info_parts (show (Tryz.prog.info? 34).map (fun i => (i.zero, i.size, i.bytes)) = some (some (.pointer none), 1, 8) by kernel_rfl)
theorem ty_info35 : ∃ i, Tryz.prog.info? 35 = some i ∧ i.zero = some (.agg #[(.int .i64 0), (.int .i64 0), (.int .i64 0), (.int .i64 0), (.int .i64 0), (.int .i64 0), (.int .i64 0), (.int .i64 0), (.int .i64 0)]) ∧ i.size = 9 ∧ i.bytes = 72 := Eng.info_parts (show (Tryz.prog.info? 35).map (fun i => (i.zero, i.size, i.bytes)) = some (some (.agg #[(.int .i64 0), (.int .i64 0), (.int .i64 0), (.int .i64 0), (.int .i64 0), (.int .i64 0), (.int .i64 0), (.int .i64 0), (.int .i64 0)]), 9, 72) by kernel_rfl)
theorem ty_info36 : ∃ i, Tryz.prog.info? 36 = some i ∧ i.zero = some (.agg #[(.int .i64 0), (.int .i64 0), (.int .i64 0), (.int .i64 0), (.int .i64 0), (.int .i64 0), (.int .i64 0), (.int .i64 0), (.int .i64 0)]) ∧ i.size = 9 ∧ i.bytes = 72 := Eng.info_parts (show (Tryz.prog.info? 36).map (fun i => (i.zero, i.size, i.bytes)) = some (some (.agg #[(.int .i64 0), (.int .i64 0), (.int .i64 0), (.int .i64 0), (.int .i64 0), (.int .i64 0), (.int .i64 0), (.int .i64 0), (.int .i64 0)]), 9, 72) by kernel_rfl)
theorem ty_info37 : ∃ i, Tryz.prog.info? 37 = some i ∧ i.zero = some (.pointer none) ∧ i.size = 1 ∧ i.bytes = 8 := Eng.info_parts (show (Tryz.prog.info? 37).map (fun i => (i.zero, i.size, i.bytes)) = some (some (.pointer none), 1, 8) by kernel_rfl)
theorem ty_info38 : ∃ i, Tryz.prog.info? 38 = some i ∧ i.zero = some (.agg #[(.pointer none), (.int .i64 0), (.int .i64 0), (.int .i64 0), (.int .i64 0), (.int .i64 0), (.int .i64 0), (.int .i64 0), (.int .i64 0), (.int .i64 0), (.int .i64 0)]) ∧ i.size = 11 ∧ i.bytes = 88 := Eng.info_parts (show (Tryz.prog.info? 38).map (fun i => (i.zero, i.size, i.bytes)) = some (some (.agg #[(.pointer none), (.int .i64 0), (.int .i64 0), (.int .i64 0), (.int .i64 0), (.int .i64 0), (.int .i64 0), (.int .i64 0), (.int .i64 0), (.int .i64 0), (.int .i64 0)]), 11, 88) by kernel_rfl)
theorem ty_info39 : ∃ i, Tryz.prog.info? 39 = some i ∧ i.zero = some (.agg #[(.pointer none), (.int .i64 0), (.int .i64 0), (.int .i64 0), (.int .i64 0), (.int .i64 0), (.int .i64 0), (.int .i64 0), (.int .i64 0), (.int .i64 0), (.int .i64 0)]) ∧ i.size = 11 ∧ i.bytes = 88 := Eng.info_parts (show (Tryz.prog.info? 39).map (fun i => (i.zero, i.size, i.bytes)) = some (some (.agg #[(.pointer none), (.int .i64 0), (.int .i64 0), (.int .i64 0), (.int .i64 0), (.int .i64 0), (.int .i64 0), (.int .i64 0), (.int .i64 0), (.int .i64 0), (.int .i64 0)]), 11, 88) by kernel_rfl)
theorem ty_info40 : ∃ i, Tryz.prog.info? 40 = some i ∧ i.zero = some (.agg #[(.int .i64 0), (.int .i64 0), (.string ⟨#[]⟩), (.string ⟨#[]⟩), (.int .i64 0)]) ∧ i.size = 5 ∧ i.bytes = 56 := Eng.info_parts (show (Tryz.prog.info? 40).map (fun i => (i.zero, i.size, i.bytes)) = some (some (.agg #[(.int .i64 0), (.int .i64 0), (.string ⟨#[]⟩), (.string ⟨#[]⟩), (.int .i64 0)]), 5, 56) by kernel_rfl)
theorem ty_info41 : ∃ i, Tryz.prog.info? 41 = some i ∧ i.zero = some (.agg #[(.int .i64 0), (.int .i64 0), (.string ⟨#[]⟩), (.string ⟨#[]⟩), (.int .i64 0)]) ∧ i.size = 5 ∧ i.bytes = 56 := Eng.info_parts (show (Tryz.prog.info? 41).map (fun i => (i.zero, i.size, i.bytes)) = some (some (.agg #[(.int .i64 0), (.int .i64 0), (.string ⟨#[]⟩), (.string ⟨#[]⟩), (.int .i64 0)]), 5, 56) by kernel_rfl)
theorem ty_info42 : ∃ i, Tryz.prog.info? 42 = some i ∧ i.zero = some (.agg #[(.int .i64 0), (.int .i64 0), (.string ⟨#[]⟩), (.string ⟨#[]⟩), (.int .i64 0), (.int .i64 0), (.int .i64 0), (.string ⟨#[]⟩), (.string ⟨#[]⟩), (.int .i64 0), (.int .i64 0), (.int .i64 0), (.string ⟨#[]⟩), (.string ⟨#[]⟩), (.int .i64 0), (.int .i64 0), (.int .i64 0), (.string ⟨#[]⟩), (.string ⟨#[]⟩), (.int .i64 0), (.int .i64 0), (.int .i64 0), (.string ⟨#[]⟩), (.string ⟨#[]⟩), (.int .i64 0), (.int .i64 0), (.int .i64 0), (.string ⟨#[]⟩), (.string ⟨#[]⟩), (.int .i64 0), (.int .i64 0), (.int .i64 0), (.string ⟨#[]⟩), (.string ⟨#[]⟩), (.int .i64 0), (.int .i64 0), (.int .i64 0), (.string ⟨#[]⟩), (.string ⟨#[]⟩), (.int .i64 0)]) ∧ i.size = 40 ∧ i.bytes = 448 := Eng.info_parts (show (Tryz.prog.info? 42).map (fun i => (i.zero, i.size, i.bytes)) = some (some (.agg #[(.int .i64 0), (.int .i64 0), (.string ⟨#[]⟩), (.string ⟨#[]⟩), (.int .i64 0), (.int .i64 0), (.int .i64 0), (.string ⟨#[]⟩), (.string ⟨#[]⟩), (.int .i64 0), (.int .i64 0), (.int .i64 0), (.string ⟨#[]⟩), (.string ⟨#[]⟩), (.int .i64 0), (.int .i64 0), (.int .i64 0), (.string ⟨#[]⟩), (.string ⟨#[]⟩), (.int .i64 0), (.int .i64 0), (.int .i64 0), (.string ⟨#[]⟩), (.string ⟨#[]⟩), (.int .i64 0), (.int .i64 0), (.int .i64 0), (.string ⟨#[]⟩), (.string ⟨#[]⟩), (.int .i64 0), (.int .i64 0), (.int .i64 0), (.string ⟨#[]⟩), (.string ⟨#[]⟩), (.int .i64 0), (.int .i64 0), (.int .i64 0), (.string ⟨#[]⟩), (.string ⟨#[]⟩), (.int .i64 0)]), 40, 448) by kernel_rfl)
theorem ty_info48 : ∃ i, Tryz.prog.info? 48 = some i ∧ i.zero = some (.agg #[(.int .i64 0), (.int .i64 0), (.int .i64 0), (.bool false)]) ∧ i.size = 4 ∧ i.bytes = 32 := Eng.info_parts (show (Tryz.prog.info? 48).map (fun i => (i.zero, i.size, i.bytes)) = some (some (.agg #[(.int .i64 0), (.int .i64 0), (.int .i64 0), (.bool false)]), 4, 32) by kernel_rfl)
theorem ty_info49 : ∃ i, Tryz.prog.info? 49 = some i ∧ i.zero = some (.agg #[(.int .i64 0), (.int .i64 0), (.int .i64 0), (.bool false)]) ∧ i.size = 4 ∧ i.bytes = 32 := Eng.info_parts (show (Tryz.prog.info? 49).map (fun i => (i.zero, i.size, i.bytes)) = some (some (.agg #[(.int .i64 0), (.int .i64 0), (.int .i64 0), (.bool false)]), 4, 32) by kernel_rfl)
theorem ty_info50 : ∃ i, Tryz.prog.info? 50 = some i ∧ i.zero = some (.int .i64 0) ∧ i.size = 1 ∧ i.bytes = 8 := Eng.info_parts (show (Tryz.prog.info? 50).map (fun i => (i.zero, i.size, i.bytes)) = some (some (.int .i64 0), 1, 8) by kernel_rfl)
theorem ty_info56 : ∃ i, Tryz.prog.info? 56 = some i ∧ i.zero = some (.slice none 0 0) ∧ i.size = 1 ∧ i.bytes = 24 := Eng.info_parts (show (Tryz.prog.info? 56).map (fun i => (i.zero, i.size, i.bytes)) = some (some (.slice none 0 0), 1, 24) by kernel_rfl)
theorem ty_info57 : ∃ i, Tryz.prog.info? 57 = some i ∧ i.zero = some (.slice none 0 0) ∧ i.size = 1 ∧ i.bytes = 24 := Eng.info_parts (show (Tryz.prog.info? 57).map (fun i => (i.zero, i.size, i.bytes)) = some (some (.slice none 0 0), 1, 24) by kernel_rfl)
theorem ty_info58 : ∃ i, Tryz.prog.info? 58 = some i ∧ i.zero = some (.agg #[(.slice none 0 0), (.int .i64 0), (.slice none 0 0), (.slice none 0 0)]) ∧ i.size = 4 ∧ i.bytes = 80 := Eng.info_parts (show (Tryz.prog.info? 58).map (fun i => (i.zero, i.size, i.bytes)) = some (some (.agg #[(.slice none 0 0), (.int .i64 0), (.slice none 0 0), (.slice none 0 0)]), 4, 80) by kernel_rfl)
theorem ty_info59 : ∃ i, Tryz.prog.info? 59 = some i ∧ i.zero = some (.agg #[(.slice none 0 0), (.int .i64 0), (.slice none 0 0), (.slice none 0 0)]) ∧ i.size = 4 ∧ i.bytes = 80 := Eng.info_parts (show (Tryz.prog.info? 59).map (fun i => (i.zero, i.size, i.bytes)) = some (some (.agg #[(.slice none 0 0), (.int .i64 0), (.slice none 0 0), (.slice none 0 0)]), 4, 80) by kernel_rfl)
theorem ty_info60 : ∃ i, Tryz.prog.info? 60 = some i ∧ i.zero = some (.pointer none) ∧ i.size = 1 ∧ i.bytes = 8 := Eng.info_parts (show (Tryz.prog.info? 60).map (fun i => (i.zero, i.size, i.bytes)) = some (some (.pointer none), 1, 8) by kernel_rfl)
theorem ty_info63 : ∃ i, Tryz.prog.info? 63 = some i ∧ i.zero = some (.agg #[(.int .i64 0), (.int .i64 0), (.int .i64 0)]) ∧ i.size = 3 ∧ i.bytes = 24 := Eng.info_parts (show (Tryz.prog.info? 63).map (fun i => (i.zero, i.size, i.bytes)) = some (some (.agg #[(.int .i64 0), (.int .i64 0), (.int .i64 0)]), 3, 24) by kernel_rfl)
theorem ty_info67 : ∃ i, Tryz.prog.info? 67 = some i ∧ i.zero = some (.agg #[(.pointer none), (.int .i64 0), (.int .i64 0), (.int .i64 0), (.int .i64 0), (.int .i64 0), (.int .i64 0), (.int .i64 0), (.int .i64 0), (.int .i64 0), (.int .i64 0)]) ∧ i.size = 11 ∧ i.bytes = 88 := Eng.info_parts (show (Tryz.prog.info? 67).map (fun i => (i.zero, i.size, i.bytes)) = some (some (.agg #[(.pointer none), (.int .i64 0), (.int .i64 0), (.int .i64 0), (.int .i64 0), (.int .i64 0), (.int .i64 0), (.int .i64 0), (.int .i64 0), (.int .i64 0), (.int .i64 0)]), 11, 88) by kernel_rfl)
theorem ty_info68 : ∃ i, Tryz.prog.info? 68 = some i ∧ i.zero = some (.agg #[(.pointer none), (.int .i64 0), (.int .i64 0), (.int .i64 0), (.int .i64 0), (.int .i64 0), (.int .i64 0), (.int .i64 0), (.int .i64 0), (.int .i64 0), (.int .i64 0)]) ∧ i.size = 11 ∧ i.bytes = 88 := Eng.info_parts (show (Tryz.prog.info? 68).map (fun i => (i.zero, i.size, i.bytes)) = some (some (.agg #[(.pointer none), (.int .i64 0), (.int .i64 0), (.int .i64 0), (.int .i64 0), (.int .i64 0), (.int .i64 0), (.int .i64 0), (.int .i64 0), (.int .i64 0), (.int .i64 0)]), 11, 88) by kernel_rfl)
theorem ty_info69 : ∃ i, Tryz.prog.info? 69 = some i ∧ i.zero = some (.slice none 0 0) ∧ i.size = 1 ∧ i.bytes = 24 := Eng.info_parts (show (Tryz.prog.info? 69).map (fun i => (i.zero, i.size, i.bytes)) = some (some (.slice none 0 0), 1, 24) by kernel_rfl)
theorem ty_info70 : ∃ i, Tryz.prog.info? 70 = some i ∧ i.zero = some (.agg #[(.pointer none), (.int .i64 0), (.int .i64 0), (.int .i64 0), (.int .i64 0), (.int .i64 0), (.int .i64 0), (.int .i64 0), (.int .i64 0), (.int .i64 0), (.pointer none), (.int .i64 0), (.int .i64 0), (.int .i64 0), (.int .i64 0), (.int .i64 0), (.int .i64 0), (.int .i64 0), (.int .i64 0), (.int .i64 0), (.int .i64 0), (.slice none 0 0), (.int .i64 0), (.slice none 0 0), (.slice none 0 0), (.slice none 0 0), (.int .i64 0)]) ∧ i.size = 27 ∧ i.bytes = 280 := Eng.info_parts (show (Tryz.prog.info? 70).map (fun i => (i.zero, i.size, i.bytes)) = some (some (.agg #[(.pointer none), (.int .i64 0), (.int .i64 0), (.int .i64 0), (.int .i64 0), (.int .i64 0), (.int .i64 0), (.int .i64 0), (.int .i64 0), (.int .i64 0), (.pointer none), (.int .i64 0), (.int .i64 0), (.int .i64 0), (.int .i64 0), (.int .i64 0), (.int .i64 0), (.int .i64 0), (.int .i64 0), (.int .i64 0), (.int .i64 0), (.slice none 0 0), (.int .i64 0), (.slice none 0 0), (.slice none 0 0), (.slice none 0 0), (.int .i64 0)]), 27, 280) by kernel_rfl)
theorem ty_info71 : ∃ i, Tryz.prog.info? 71 = some i ∧ i.zero = some (.agg #[(.pointer none), (.int .i64 0), (.int .i64 0), (.int .i64 0), (.int .i64 0), (.int .i64 0), (.int .i64 0), (.int .i64 0), (.int .i64 0), (.int .i64 0), (.pointer none), (.int .i64 0), (.int .i64 0), (.int .i64 0), (.int .i64 0), (.int .i64 0), (.int .i64 0), (.int .i64 0), (.int .i64 0), (.int .i64 0), (.int .i64 0), (.slice none 0 0), (.int .i64 0), (.slice none 0 0), (.slice none 0 0), (.slice none 0 0), (.int .i64 0)]) ∧ i.size = 27 ∧ i.bytes = 280 := Eng.info_parts (show (Tryz.prog.info? 71).map (fun i => (i.zero, i.size, i.bytes)) = some (some (.agg #[(.pointer none), (.int .i64 0), (.int .i64 0), (.int .i64 0), (.int .i64 0), (.int .i64 0), (.int .i64 0), (.int .i64 0), (.int .i64 0), (.int .i64 0), (.pointer none), (.int .i64 0), (.int .i64 0), (.int .i64 0), (.int .i64 0), (.int .i64 0), (.int .i64 0), (.int .i64 0), (.int .i64 0), (.int .i64 0), (.int .i64 0), (.slice none 0 0), (.int .i64 0), (.slice none 0 0), (.slice none 0 0), (.slice none 0 0), (.int .i64 0)]), 27, 280) by kernel_rfl)
theorem ty_info72 : ∃ i, Tryz.prog.info? 72 = some i ∧ i.zero = some (.agg #[(.string ⟨#[]⟩), (.string ⟨#[]⟩), (.int .u64 0), (.int .i64 0), (.int .i64 0)]) ∧ i.size = 5 ∧ i.bytes = 56 := Eng.info_parts (show (Tryz.prog.info? 72).map (fun i => (i.zero, i.size, i.bytes)) = some (some (.agg #[(.string ⟨#[]⟩), (.string ⟨#[]⟩), (.int .u64 0), (.int .i64 0), (.int .i64 0)]), 5, 56) by kernel_rfl)
theorem ty_info73 : ∃ i, Tryz.prog.info? 73 = some i ∧ i.zero = some (.agg #[(.string ⟨#[]⟩), (.string ⟨#[]⟩), (.int .u64 0), (.int .i64 0), (.int .i64 0)]) ∧ i.size = 5 ∧ i.bytes = 56 := Eng.info_parts (show (Tryz.prog.info? 73).map (fun i => (i.zero, i.size, i.bytes)) = some (some (.agg #[(.string ⟨#[]⟩), (.string ⟨#[]⟩), (.int .u64 0), (.int .i64 0), (.int .i64 0)]), 5, 56) by kernel_rfl)
theorem ty_info74 : ∃ i, Tryz.prog.info? 74 = some i ∧ i.zero = some (.agg #[(.int .i64 0), (.int .i64 0), (.int .i64 0), (.int .i64 0), (.int .i64 0), (.int .i64 0), (.bool false), (.int .i64 0)]) ∧ i.size = 8 ∧ i.bytes = 64 := Eng.info_parts (show (Tryz.prog.info? 74).map (fun i => (i.zero, i.size, i.bytes)) = some (some (.agg #[(.int .i64 0), (.int .i64 0), (.int .i64 0), (.int .i64 0), (.int .i64 0), (.int .i64 0), (.bool false), (.int .i64 0)]), 8, 64) by kernel_rfl)
theorem ty_info75 : ∃ i, Tryz.prog.info? 75 = some i ∧ i.zero = some (.agg #[(.int .i64 0), (.int .i64 0), (.int .i64 0), (.int .i64 0), (.int .i64 0), (.int .i64 0), (.bool false), (.int .i64 0)]) ∧ i.size = 8 ∧ i.bytes = 64 := Eng.info_parts (show (Tryz.prog.info? 75).map (fun i => (i.zero, i.size, i.bytes)) = some (some (.agg #[(.int .i64 0), (.int .i64 0), (.int .i64 0), (.int .i64 0), (.int .i64 0), (.int .i64 0), (.bool false), (.int .i64 0)]), 8, 64) by kernel_rfl)
theorem ty_info89 : ∃ i, Tryz.prog.info? 89 = some i ∧ i.zero = some (.pointer none) ∧ i.size = 1 ∧ i.bytes = 8 := Eng.info_parts (show (Tryz.prog.info? 89).map (fun i => (i.zero, i.size, i.bytes)) = some (some (.pointer none), 1, 8) by kernel_rfl)
theorem ty_info107 : ∃ i, Tryz.prog.info? 107 = some i ∧ i.zero = some (.agg #[(.int .i64 0), (.int .i64 0), (.int .i64 0), (.int .i64 0)]) ∧ i.size = 4 ∧ i.bytes = 32 := Eng.info_parts (show (Tryz.prog.info? 107).map (fun i => (i.zero, i.size, i.bytes)) = some (some (.agg #[(.int .i64 0), (.int .i64 0), (.int .i64 0), (.int .i64 0)]), 4, 32) by kernel_rfl)
theorem ty_info116 : ∃ i, Tryz.prog.info? 116 = some i ∧ i.zero = some (.agg #[(.int .i64 0), (.int .i64 0), (.int .i64 0), (.int .i64 0), (.int .i64 0), (.int .i64 0), (.int .i64 0), (.int .i64 0)]) ∧ i.size = 8 ∧ i.bytes = 64 := Eng.info_parts (show (Tryz.prog.info? 116).map (fun i => (i.zero, i.size, i.bytes)) = some (some (.agg #[(.int .i64 0), (.int .i64 0), (.int .i64 0), (.int .i64 0), (.int .i64 0), (.int .i64 0), (.int .i64 0), (.int .i64 0)]), 8, 64) by kernel_rfl)
theorem ty_info117 : ∃ i, Tryz.prog.info? 117 = some i ∧ i.zero = some (.agg #[(.int .i64 0), (.int .i64 0), (.bool false), (.int .i64 0)]) ∧ i.size = 4 ∧ i.bytes = 32 := Eng.info_parts (show (Tryz.prog.info? 117).map (fun i => (i.zero, i.size, i.bytes)) = some (some (.agg #[(.int .i64 0), (.int .i64 0), (.bool false), (.int .i64 0)]), 4, 32) by kernel_rfl)
theorem ty_info118 : ∃ i, Tryz.prog.info? 118 = some i ∧ i.zero = some (.agg #[(.int .i64 0), (.int .i64 0), (.bool false), (.int .i64 0)]) ∧ i.size = 4 ∧ i.bytes = 32 := Eng.info_parts (show (Tryz.prog.info? 118).map (fun i => (i.zero, i.size, i.bytes)) = some (some (.agg #[(.int .i64 0), (.int .i64 0), (.bool false), (.int .i64 0)]), 4, 32) by kernel_rfl)
theorem ty_info121 : ∃ i, Tryz.prog.info? 121 = some i ∧ i.zero = some (.agg #[(.pointer none), (.int .i64 0), (.int .i64 0), (.int .i64 0), (.int .i64 0), (.int .i64 0), (.int .i64 0), (.int .i64 0), (.int .i64 0), (.int .i64 0), (.int .i64 0)]) ∧ i.size = 11 ∧ i.bytes = 88 := Eng.info_parts (show (Tryz.prog.info? 121).map (fun i => (i.zero, i.size, i.bytes)) = some (some (.agg #[(.pointer none), (.int .i64 0), (.int .i64 0), (.int .i64 0), (.int .i64 0), (.int .i64 0), (.int .i64 0), (.int .i64 0), (.int .i64 0), (.int .i64 0), (.int .i64 0)]), 11, 88) by kernel_rfl)
theorem ty_info122 : ∃ i, Tryz.prog.info? 122 = some i ∧ i.zero = some (.agg #[(.pointer none), (.int .i64 0), (.int .i64 0), (.int .i64 0), (.int .i64 0), (.int .i64 0), (.int .i64 0), (.int .i64 0), (.int .i64 0), (.int .i64 0), (.int .i64 0)]) ∧ i.size = 11 ∧ i.bytes = 88 := Eng.info_parts (show (Tryz.prog.info? 122).map (fun i => (i.zero, i.size, i.bytes)) = some (some (.agg #[(.pointer none), (.int .i64 0), (.int .i64 0), (.int .i64 0), (.int .i64 0), (.int .i64 0), (.int .i64 0), (.int .i64 0), (.int .i64 0), (.int .i64 0), (.int .i64 0)]), 11, 88) by kernel_rfl)
theorem ty_info125 : ∃ i, Tryz.prog.info? 125 = some i ∧ i.zero = some (.agg #[(.int .u64 0)]) ∧ i.size = 1 ∧ i.bytes = 8 := Eng.info_parts (show (Tryz.prog.info? 125).map (fun i => (i.zero, i.size, i.bytes)) = some (some (.agg #[(.int .u64 0)]), 1, 8) by kernel_rfl)
theorem ty_info126 : ∃ i, Tryz.prog.info? 126 = some i ∧ i.zero = some (.agg #[(.int .u64 0)]) ∧ i.size = 1 ∧ i.bytes = 8 := Eng.info_parts (show (Tryz.prog.info? 126).map (fun i => (i.zero, i.size, i.bytes)) = some (some (.agg #[(.int .u64 0)]), 1, 8) by kernel_rfl)
theorem ty_info131 : ∃ i, Tryz.prog.info? 131 = some i ∧ i.zero = some (.slice none 0 0) ∧ i.size = 1 ∧ i.bytes = 24 := Eng.info_parts (show (Tryz.prog.info? 131).map (fun i => (i.zero, i.size, i.bytes)) = some (some (.slice none 0 0), 1, 24) by kernel_rfl)
theorem ty_info132 : ∃ i, Tryz.prog.info? 132 = some i ∧ i.zero = some (.int .u64 0) ∧ i.size = 1 ∧ i.bytes = 8 := Eng.info_parts (show (Tryz.prog.info? 132).map (fun i => (i.zero, i.size, i.bytes)) = some (some (.int .u64 0), 1, 8) by kernel_rfl)
theorem ty_info136 : ∃ i, Tryz.prog.info? 136 = some i ∧ i.zero = some (.slice none 0 0) ∧ i.size = 1 ∧ i.bytes = 24 := Eng.info_parts (show (Tryz.prog.info? 136).map (fun i => (i.zero, i.size, i.bytes)) = some (some (.slice none 0 0), 1, 24) by kernel_rfl)
theorem ty_info141 : ∃ i, Tryz.prog.info? 141 = some i ∧ i.zero = some (.agg #[(.slice none 0 0)]) ∧ i.size = 1 ∧ i.bytes = 24 := Eng.info_parts (show (Tryz.prog.info? 141).map (fun i => (i.zero, i.size, i.bytes)) = some (some (.agg #[(.slice none 0 0)]), 1, 24) by kernel_rfl)
theorem ty_info142 : ∃ i, Tryz.prog.info? 142 = some i ∧ i.zero = some (.agg #[(.slice none 0 0)]) ∧ i.size = 1 ∧ i.bytes = 24 := Eng.info_parts (show (Tryz.prog.info? 142).map (fun i => (i.zero, i.size, i.bytes)) = some (some (.agg #[(.slice none 0 0)]), 1, 24) by kernel_rfl)
theorem ty_info143 : ∃ i, Tryz.prog.info? 143 = some i ∧ i.zero = some (.agg #[(.string ⟨#[]⟩), (.int .u64 0)]) ∧ i.size = 2 ∧ i.bytes = 24 := Eng.info_parts (show (Tryz.prog.info? 143).map (fun i => (i.zero, i.size, i.bytes)) = some (some (.agg #[(.string ⟨#[]⟩), (.int .u64 0)]), 2, 24) by kernel_rfl)
theorem ty_info144 : ∃ i, Tryz.prog.info? 144 = some i ∧ i.zero = some (.agg #[(.string ⟨#[]⟩), (.int .u64 0)]) ∧ i.size = 2 ∧ i.bytes = 24 := Eng.info_parts (show (Tryz.prog.info? 144).map (fun i => (i.zero, i.size, i.bytes)) = some (some (.agg #[(.string ⟨#[]⟩), (.int .u64 0)]), 2, 24) by kernel_rfl)
theorem ty_info145 : ∃ i, Tryz.prog.info? 145 = some i ∧ i.zero = some (.pointer none) ∧ i.size = 1 ∧ i.bytes = 8 := Eng.info_parts (show (Tryz.prog.info? 145).map (fun i => (i.zero, i.size, i.bytes)) = some (some (.pointer none), 1, 8) by kernel_rfl)
theorem ty_info148 : ∃ i, Tryz.prog.info? 148 = some i ∧ i.zero = some (.map none) ∧ i.size = 1 ∧ i.bytes = 8 := Eng.info_parts (show (Tryz.prog.info? 148).map (fun i => (i.zero, i.size, i.bytes)) = some (some (.map none), 1, 8) by kernel_rfl)
theorem ty_info149 : ∃ i, Tryz.prog.info? 149 = some i ∧ i.zero = some (.map none) ∧ i.size = 1 ∧ i.bytes = 8 := Eng.info_parts (show (Tryz.prog.info? 149).map (fun i => (i.zero, i.size, i.bytes)) = some (some (.map none), 1, 8) by kernel_rfl)
theorem ty_info150 : ∃ i, Tryz.prog.info? 150 = some i ∧ i.zero = some (.agg #[(.int .i64 0), (.int .i64 0), (.pointer none), (.slice none 0 0), (.slice none 0 0), (.map none), (.map none)]) ∧ i.size = 7 ∧ i.bytes = 88 := Eng.info_parts (show (Tryz.prog.info? 150).map (fun i => (i.zero, i.size, i.bytes)) = some (some (.agg #[(.int .i64 0), (.int .i64 0), (.pointer none), (.slice none 0 0), (.slice none 0 0), (.map none), (.map none)]), 7, 88) by kernel_rfl)
theorem ty_info151 : ∃ i, Tryz.prog.info? 151 = some i ∧ i.zero = some (.agg #[(.int .i64 0), (.int .i64 0), (.pointer none), (.slice none 0 0), (.slice none 0 0), (.map none), (.map none)]) ∧ i.size = 7 ∧ i.bytes = 88 := Eng.info_parts (show (Tryz.prog.info? 151).map (fun i => (i.zero, i.size, i.bytes)) = some (some (.agg #[(.int .i64 0), (.int .i64 0), (.pointer none), (.slice none 0 0), (.slice none 0 0), (.map none), (.map none)]), 7, 88) by kernel_rfl)
theorem ty_info152 : ∃ i, Tryz.prog.info? 152 = some i ∧ i.zero = some (.map none) ∧ i.size = 1 ∧ i.bytes = 8 := Eng.info_parts (show (Tryz.prog.info? 152).map (fun i => (i.zero, i.size, i.bytes)) = some (some (.map none), 1, 8) by kernel_rfl)
theorem ty_info153 : ∃ i, Tryz.prog.info? 153 = some i ∧ i.zero = some (.agg #[(.map none)]) ∧ i.size = 1 ∧ i.bytes = 8 := Eng.info_parts (show (Tryz.prog.info? 153).map (fun i => (i.zero, i.size, i.bytes)) = some (some (.agg #[(.map none)]), 1, 8) by kernel_rfl)
theorem ty_info154 : ∃ i, Tryz.prog.info? 154 = some i ∧ i.zero = some (.agg #[(.map none)]) ∧ i.size = 1 ∧ i.bytes = 8 := Eng.info_parts (show (Tryz.prog.info? 154).map (fun i => (i.zero, i.size, i.bytes)) = some (some (.agg #[(.map none)]), 1, 8) by kernel_rfl)
theorem ty_info184 : ∃ i, Tryz.prog.info? 184 = some i ∧ i.zero = some (.agg #[(.slice none 0 0)]) ∧ i.size = 1 ∧ i.bytes = 24 := Eng.info_parts (show (Tryz.prog.info? 184).map (fun i => (i.zero, i.size, i.bytes)) = some (some (.agg #[(.slice none 0 0)]), 1, 24) by kernel_rfl)
theorem ty_info185 : ∃ i, Tryz.prog.info? 185 = some i ∧ i.zero = some (.agg #[(.slice none 0 0)]) ∧ i.size = 1 ∧ i.bytes = 24 := Eng.info_parts (show (Tryz.prog.info? 185).map (fun i => (i.zero, i.size, i.bytes)) = some (some (.agg #[(.slice none 0 0)]), 1, 24) by kernel_rfl)
theorem ty_info192 : ∃ i, Tryz.prog.info? 192 = some i ∧ i.zero = some (.slice none 0 0) ∧ i.size = 1 ∧ i.bytes = 24 := Eng.info_parts (show (Tryz.prog.info? 192).map (fun i => (i.zero, i.size, i.bytes)) = some (some (.slice none 0 0), 1, 24) by kernel_rfl)
theorem ty_info195 : ∃ i, Tryz.prog.info? 195 = some i ∧ i.zero = some (.slice none 0 0) ∧ i.size = 1 ∧ i.bytes = 24 := Eng.info_parts (show (Tryz.prog.info? 195).map (fun i => (i.zero, i.size, i.bytes)) = some (some (.slice none 0 0), 1, 24) by kernel_rfl)
theorem ty_info196 : ∃ i, Tryz.prog.info? 196 = some i ∧ i.zero = some (.slice none 0 0) ∧ i.size = 1 ∧ i.bytes = 24 := Eng.info_parts (show (Tryz.prog.info? 196).map (fun i => (i.zero, i.size, i.bytes)) = some (some (.slice none 0 0), 1, 24) by kernel_rfl)
theorem ty_info200 : ∃ i, Tryz.prog.info? 200 = some i ∧ i.zero = some (.agg #[(.int .u64 0), (.int .u64 0)]) ∧ i.size = 2 ∧ i.bytes = 16 := Eng.info_parts (show (Tryz.prog.info? 200).map (fun i => (i.zero, i.size, i.bytes)) = some (some (.agg #[(.int .u64 0), (.int .u64 0)]), 2, 16) by kernel_rfl)
theorem ty_info201 : ∃ i, Tryz.prog.info? 201 = some i ∧ i.zero = some (.agg #[(.int .u8 0), (.int .u8 0), (.int .u8 0), (.int .u8 0), (.int .u8 0), (.int .u8 0), (.int .u8 0), (.int .u8 0), (.int .u8 0), (.int .u8 0), (.int .u8 0), (.int .u8 0), (.int .u8 0), (.int .u8 0), (.int .u8 0), (.int .u8 0), (.int .u8 0), (.int .u8 0), (.int .u8 0), (.int .u8 0), (.int .u8 0), (.int .u8 0), (.int .u8 0), (.int .u8 0), (.int .u8 0), (.int .u8 0), (.int .u8 0), (.int .u8 0), (.int .u8 0), (.int .u8 0), (.int .u8 0), (.int .u8 0), (.int .u8 0), (.int .u8 0), (.int .u8 0), (.int .u8 0), (.int .u8 0), (.int .u8 0), (.int .u8 0), (.int .u8 0), (.int .u8 0), (.int .u8 0), (.int .u8 0), (.int .u8 0), (.int .u8 0), (.int .u8 0), (.int .u8 0), (.int .u8 0), (.int .u8 0), (.int .u8 0), (.int .u8 0), (.int .u8 0), (.int .u8 0), (.int .u8 0), (.int .u8 0), (.int .u8 0), (.int .u8 0), (.int .u8 0), (.int .u8 0), (.int .u8 0), (.int .u8 0), (.int .u8 0), (.int .u8 0), (.int .u8 0)]) ∧ i.size = 64 ∧ i.bytes = 64 := Eng.info_parts (show (Tryz.prog.info? 201).map (fun i => (i.zero, i.size, i.bytes)) = some (some (.agg #[(.int .u8 0), (.int .u8 0), (.int .u8 0), (.int .u8 0), (.int .u8 0), (.int .u8 0), (.int .u8 0), (.int .u8 0), (.int .u8 0), (.int .u8 0), (.int .u8 0), (.int .u8 0), (.int .u8 0), (.int .u8 0), (.int .u8 0), (.int .u8 0), (.int .u8 0), (.int .u8 0), (.int .u8 0), (.int .u8 0), (.int .u8 0), (.int .u8 0), (.int .u8 0), (.int .u8 0), (.int .u8 0), (.int .u8 0), (.int .u8 0), (.int .u8 0), (.int .u8 0), (.int .u8 0), (.int .u8 0), (.int .u8 0), (.int .u8 0), (.int .u8 0), (.int .u8 0), (.int .u8 0), (.int .u8 0), (.int .u8 0), (.int .u8 0), (.int .u8 0), (.int .u8 0), (.int .u8 0), (.int .u8 0), (.int .u8 0), (.int .u8 0), (.int .u8 0), (.int .u8 0), (.int .u8 0), (.int .u8 0), (.int .u8 0), (.int .u8 0), (.int .u8 0), (.int .u8 0), (.int .u8 0), (.int .u8 0), (.int .u8 0), (.int .u8 0), (.int .u8 0), (.int .u8 0), (.int .u8 0), (.int .u8 0), (.int .u8 0), (.int .u8 0), (.int .u8 0)]), 64, 64) by kernel_rfl)
theorem ty_info207 : ∃ i, Tryz.prog.info? 207 = some i ∧ i.zero = some (.agg #[(.pointer none), (.pointer none), (.pointer none), (.string ⟨#[]⟩)]) ∧ i.size = 4 ∧ i.bytes = 40 := Eng.info_parts (show (Tryz.prog.info? 207).map (fun i => (i.zero, i.size, i.bytes)) = some (some (.agg #[(.pointer none), (.pointer none), (.pointer none), (.string ⟨#[]⟩)]), 4, 40) by kernel_rfl)
theorem ty_info208 : ∃ i, Tryz.prog.info? 208 = some i ∧ i.zero = some (.agg #[(.pointer none), (.pointer none), (.pointer none), (.string ⟨#[]⟩)]) ∧ i.size = 4 ∧ i.bytes = 40 := Eng.info_parts (show (Tryz.prog.info? 208).map (fun i => (i.zero, i.size, i.bytes)) = some (some (.agg #[(.pointer none), (.pointer none), (.pointer none), (.string ⟨#[]⟩)]), 4, 40) by kernel_rfl)
theorem ty_info209 : ∃ i, Tryz.prog.info? 209 = some i ∧ i.zero = some (.agg #[]) ∧ i.size = 0 ∧ i.bytes = 0 := Eng.info_parts (show (Tryz.prog.info? 209).map (fun i => (i.zero, i.size, i.bytes)) = some (some (.agg #[]), 0, 0) by kernel_rfl)
theorem ty_info210 : ∃ i, Tryz.prog.info? 210 = some i ∧ i.zero = some (.agg #[]) ∧ i.size = 0 ∧ i.bytes = 0 := Eng.info_parts (show (Tryz.prog.info? 210).map (fun i => (i.zero, i.size, i.bytes)) = some (some (.agg #[]), 0, 0) by kernel_rfl)
theorem ty_info211 : ∃ i, Tryz.prog.info? 211 = some i ∧ i.zero = some (.agg #[]) ∧ i.size = 0 ∧ i.bytes = 0 := Eng.info_parts (show (Tryz.prog.info? 211).map (fun i => (i.zero, i.size, i.bytes)) = some (some (.agg #[]), 0, 0) by kernel_rfl)
theorem ty_info212 : ∃ i, Tryz.prog.info? 212 = some i ∧ i.zero = some (.int .u32 0) ∧ i.size = 1 ∧ i.bytes = 4 := Eng.info_parts (show (Tryz.prog.info? 212).map (fun i => (i.zero, i.size, i.bytes)) = some (some (.int .u32 0), 1, 4) by kernel_rfl)
theorem ty_info213 : ∃ i, Tryz.prog.info? 213 = some i ∧ i.zero = some (.int .u8 0) ∧ i.size = 1 ∧ i.bytes = 1 := Eng.info_parts (show (Tryz.prog.info? 213).map (fun i => (i.zero, i.size, i.bytes)) = some (some (.int .u8 0), 1, 1) by kernel_rfl)
theorem ty_info214 : ∃ i, Tryz.prog.info? 214 = some i ∧ i.zero = some (.int .u8 0) ∧ i.size = 1 ∧ i.bytes = 1 := Eng.info_parts (show (Tryz.prog.info? 214).map (fun i => (i.zero, i.size, i.bytes)) = some (some (.int .u8 0), 1, 1) by kernel_rfl)
theorem ty_info216 : ∃ i, Tryz.prog.info? 216 = some i ∧ i.zero = some (.pointer none) ∧ i.size = 1 ∧ i.bytes = 8 := Eng.info_parts (show (Tryz.prog.info? 216).map (fun i => (i.zero, i.size, i.bytes)) = some (some (.pointer none), 1, 8) by kernel_rfl)
theorem ty_info217 : ∃ i, Tryz.prog.info? 217 = some i ∧ i.zero = some (.int .i32 0) ∧ i.size = 1 ∧ i.bytes = 4 := Eng.info_parts (show (Tryz.prog.info? 217).map (fun i => (i.zero, i.size, i.bytes)) = some (some (.int .i32 0), 1, 4) by kernel_rfl)
theorem ty_info218 : ∃ i, Tryz.prog.info? 218 = some i ∧ i.zero = some (.int .i32 0) ∧ i.size = 1 ∧ i.bytes = 4 := Eng.info_parts (show (Tryz.prog.info? 218).map (fun i => (i.zero, i.size, i.bytes)) = some (some (.int .i32 0), 1, 4) by kernel_rfl)
theorem ty_info219 : ∃ i, Tryz.prog.info? 219 = some i ∧ i.zero = some (.agg #[(.int .u64 0), (.int .u64 0), (.int .u32 0), (.int .u8 0), (.int .u8 0), (.int .u8 0), (.int .u8 0), .nilFunc, (.pointer none), (.int .i32 0), (.int .i32 0)]) ∧ i.size = 11 ∧ i.bytes = 48 := Eng.info_parts (show (Tryz.prog.info? 219).map (fun i => (i.zero, i.size, i.bytes)) = some (some (.agg #[(.int .u64 0), (.int .u64 0), (.int .u32 0), (.int .u8 0), (.int .u8 0), (.int .u8 0), (.int .u8 0), .nilFunc, (.pointer none), (.int .i32 0), (.int .i32 0)]), 11, 48) by kernel_rfl)
theorem ty_info220 : ∃ i, Tryz.prog.info? 220 = some i ∧ i.zero = some (.agg #[(.int .u64 0), (.int .u64 0), (.int .u32 0), (.int .u8 0), (.int .u8 0), (.int .u8 0), (.int .u8 0), .nilFunc, (.pointer none), (.int .i32 0), (.int .i32 0)]) ∧ i.size = 11 ∧ i.bytes = 48 := Eng.info_parts (show (Tryz.prog.info? 220).map (fun i => (i.zero, i.size, i.bytes)) = some (some (.agg #[(.int .u64 0), (.int .u64 0), (.int .u32 0), (.int .u8 0), (.int .u8 0), (.int .u8 0), (.int .u8 0), .nilFunc, (.pointer none), (.int .i32 0), (.int .i32 0)]), 11, 48) by kernel_rfl)
theorem en3 : ∀ args w, (callFunc 3 args).run Tryz.prog w = .ok (.enter 3 args) w := fun args w => enters_of Tryz.func3 (by kernel_rfl) rfl args w
theorem en4 : ∀ args w, (callFunc 4 args).run Tryz.prog w = .ok (.enter 4 args) w := fun args w => enters_of Tryz.func4 (by kernel_rfl) rfl args w
theorem en5 : ∀ args w, (callFunc 5 args).run Tryz.prog w = .ok (.enter 5 args) w := fun args w => enters_of Tryz.func5 (by kernel_rfl) rfl args w
theorem en6 : ∀ args w, (callFunc 6 args).run Tryz.prog w = .ok (.enter 6 args) w := fun args w => enters_of Tryz.func6 (by kernel_rfl) rfl args w
theorem en7 : ∀ args w, (callFunc 7 args).run Tryz.prog w = .ok (.enter 7 args) w := fun args w => enters_of Tryz.func7 (by kernel_rfl) rfl args w
theorem en8 : ∀ args w, (callFunc 8 args).run Tryz.prog w = .ok (.enter 8 args) w := fun args w => enters_of Tryz.func8 (by kernel_rfl) rfl args w
theorem en9 : ∀ args w, (callFunc 9 args).run Tryz.prog w = .ok (.enter 9 args) w := fun args w => enters_of Tryz.func9 (by kernel_rfl) rfl args w
theorem en10 : ∀ args w, (callFunc 10 args).run Tryz.prog w = .ok (.enter 10 args) w := fun args w => enters_of Tryz.func10 (by kernel_rfl) rfl args w
theorem en11 : ∀ args w, (callFunc 11 args).run Tryz.prog w = .ok (.enter 11 args) w := fun args w => enters_of Tryz.func11 (by kernel_rfl) rfl args w
theorem en12 : ∀ args w, (callFunc 12 args).run Tryz.prog w = .ok (.enter 12 args) w := fun args w => enters_of Tryz.func12 (by kernel_rfl) rfl args w
theorem en13 : ∀ args w, (callFunc 13 args).run Tryz.prog w = .ok (.enter 13 args) w := fun args w => enters_of Tryz.func13 (by kernel_rfl) rfl args w
theorem en14 : ∀ args w, (callFunc 14 args).run Tryz.prog w = .ok (.enter 14 args) w := fun args w => enters_of Tryz.func14 (by kernel_rfl) rfl args w
theorem en15 : ∀ args w, (callFunc 15 args).run Tryz.prog w = .ok (.enter 15 args) w := fun args w => enters_of Tryz.func15 (by kernel_rfl) rfl args w
theorem en16 : ∀ args w, (callFunc 16 args).run Tryz.prog w = .ok (.enter 16 args) w := fun args w => enters_of Tryz.func16 (by kernel_rfl) rfl args w
theorem en17 : ∀ args w, (callFunc 17 args).run Tryz.prog w = .ok (.enter 17 args) w := fun args w => enters_of Tryz.func17 (by kernel_rfl) rfl args w
theorem en18 : ∀ args w, (callFunc 18 args).run Tryz.prog w = .ok (.enter 18 args) w := fun args w => enters_of Tryz.func18 (by kernel_rfl) rfl args w
theorem en19 : ∀ args w, (callFunc 19 args).run Tryz.prog w = .ok (.enter 19 args) w := fun args w => enters_of Tryz.func19 (by kernel_rfl) rfl args w
theorem en20 : ∀ args w, (callFunc 20 args).run Tryz.prog w = .ok (.enter 20 args) w := fun args w => enters_of Tryz.func20 (by kernel_rfl) rfl args w
theorem en21 : ∀ args w, (callFunc 21 args).run Tryz.prog w = .ok (.enter 21 args) w := fun args w => enters_of Tryz.func21 (by kernel_rfl) rfl args w
theorem en22 : ∀ args w, (callFunc 22 args).run Tryz.prog w = .ok (.enter 22 args) w := fun args w => enters_of Tryz.func22 (by kernel_rfl) rfl args w
theorem en23 : ∀ args w, (callFunc 23 args).run Tryz.prog w = .ok (.enter 23 args) w := fun args w => enters_of Tryz.func23 (by kernel_rfl) rfl args w
theorem en24 : ∀ args w, (callFunc 24 args).run Tryz.prog w = .ok (.enter 24 args) w := fun args w => enters_of Tryz.func24 (by kernel_rfl) rfl args w
theorem en25 : ∀ args w, (callFunc 25 args).run Tryz.prog w = .ok (.enter 25 args) w := fun args w => enters_of Tryz.func25 (by kernel_rfl) rfl args w
theorem en26 : ∀ args w, (callFunc 26 args).run Tryz.prog w = .ok (.enter 26 args) w := fun args w => enters_of Tryz.func26 (by kernel_rfl) rfl args w
theorem en27 : ∀ args w, (callFunc 27 args).run Tryz.prog w = .ok (.enter 27 args) w := fun args w => enters_of Tryz.func27 (by kernel_rfl) rfl args w
theorem en28 : ∀ args w, (callFunc 28 args).run Tryz.prog w = .ok (.enter 28 args) w := fun args w => enters_of Tryz.func28 (by kernel_rfl) rfl args w
theorem en29 : ∀ args w, (callFunc 29 args).run Tryz.prog w = .ok (.enter 29 args) w := fun args w => enters_of Tryz.func29 (by kernel_rfl) rfl args w
theorem en30 : ∀ args w, (callFunc 30 args).run Tryz.prog w = .ok (.enter 30 args) w := fun args w => enters_of Tryz.func30 (by kernel_rfl) rfl args w
theorem en31 : ∀ args w, (callFunc 31 args).run Tryz.prog w = .ok (.enter 31 args) w := fun args w => enters_of Tryz.func31 (by kernel_rfl) rfl args w
theorem en32 : ∀ args w, (callFunc 32 args).run Tryz.prog w = .ok (.enter 32 args) w := fun args w => enters_of Tryz.func32 (by kernel_rfl) rfl args w
theorem en33 : ∀ args w, (callFunc 33 args).run Tryz.prog w = .ok (.enter 33 args) w := fun args w => enters_of Tryz.func33 (by kernel_rfl) rfl args w
theorem en34 : ∀ args w, (callFunc 34 args).run Tryz.prog w = .ok (.enter 34 args) w := fun args w => enters_of Tryz.func34 (by kernel_rfl) rfl args w
theorem en35 : ∀ args w, (callFunc 35 args).run Tryz.prog w = .ok (.enter 35 args) w := fun args w => enters_of Tryz.func35 (by kernel_rfl) rfl args w
theorem en36 : ∀ args w, (callFunc 36 args).run Tryz.prog w = .ok (.enter 36 args) w := fun args w => enters_of Tryz.func36 (by kernel_rfl) rfl args w
theorem en37 : ∀ args w, (callFunc 37 args).run Tryz.prog w = .ok (.enter 37 args) w := fun args w => enters_of Tryz.func37 (by kernel_rfl) rfl args w
theorem en38 : ∀ args w, (callFunc 38 args).run Tryz.prog w = .ok (.enter 38 args) w := fun args w => enters_of Tryz.func38 (by kernel_rfl) rfl args w
theorem en39 : ∀ args w, (callFunc 39 args).run Tryz.prog w = .ok (.enter 39 args) w := fun args w => enters_of Tryz.func39 (by kernel_rfl) rfl args w
theorem en40 : ∀ args w, (callFunc 40 args).run Tryz.prog w = .ok (.enter 40 args) w := fun args w => enters_of Tryz.func40 (by kernel_rfl) rfl args w
theorem en41 : ∀ args w, (callFunc 41 args).run Tryz.prog w = .ok (.enter 41 args) w := fun args w => enters_of Tryz.func41 (by kernel_rfl) rfl args w
theorem en42 : ∀ args w, (callFunc 42 args).run Tryz.prog w = .ok (.enter 42 args) w := fun args w => enters_of Tryz.func42 (by kernel_rfl) rfl args w
theorem en43 : ∀ args w, (callFunc 43 args).run Tryz.prog w = .ok (.enter 43 args) w := fun args w => enters_of Tryz.func43 (by kernel_rfl) rfl args w
theorem en44 : ∀ args w, (callFunc 44 args).run Tryz.prog w = .ok (.enter 44 args) w := fun args w => enters_of Tryz.func44 (by kernel_rfl) rfl args w
theorem en45 : ∀ args w, (callFunc 45 args).run Tryz.prog w = .ok (.enter 45 args) w := fun args w => enters_of Tryz.func45 (by kernel_rfl) rfl args w
theorem en46 : ∀ args w, (callFunc 46 args).run Tryz.prog w = .ok (.enter 46 args) w := fun args w => enters_of Tryz.func46 (by kernel_rfl) rfl args w
theorem en47 : ∀ args w, (callFunc 47 args).run Tryz.prog w = .ok (.enter 47 args) w := fun args w => enters_of Tryz.func47 (by kernel_rfl) rfl args w
theorem en48 : ∀ args w, (callFunc 48 args).run Tryz.prog w = .ok (.enter 48 args) w := fun args w => enters_of Tryz.func48 (by kernel_rfl) rfl args w
theorem en49 : ∀ args w, (callFunc 49 args).run Tryz.prog w = .ok (.enter 49 args) w := fun args w => enters_of Tryz.func49 (by kernel_rfl) rfl args w
theorem en50 : ∀ args w, (callFunc 50 args).run Tryz.prog w = .ok (.enter 50 args) w := fun args w => enters_of Tryz.func50 (by kernel_rfl) rfl args w
theorem en51 : ∀ args w, (callFunc 51 args).run Tryz.prog w = .ok (.enter 51 args) w := fun args w => enters_of Tryz.func51 (by kernel_rfl) rfl args w
theorem en52 : ∀ args w, (callFunc 52 args).run Tryz.prog w = .ok (.enter 52 args) w := fun args w => enters_of Tryz.func52 (by kernel_rfl) rfl args w
theorem en53 : ∀ args w, (callFunc 53 args).run Tryz.prog w = .ok (.enter 53 args) w := fun args w => enters_of Tryz.func53 (by kernel_rfl) rfl args w
theorem en54 : ∀ args w, (callFunc 54 args).run Tryz.prog w = .ok (.enter 54 args) w := fun args w => enters_of Tryz.func54 (by kernel_rfl) rfl args w
theorem en55 : ∀ args w, (callFunc 55 args).run Tryz.prog w = .ok (.enter 55 args) w := fun args w => enters_of Tryz.func55 (by kernel_rfl) rfl args w
theorem en56 : ∀ args w, (callFunc 56 args).run Tryz.prog w = .ok (.enter 56 args) w := fun args w => enters_of Tryz.func56 (by kernel_rfl) rfl args w
theorem en57 : ∀ args w, (callFunc 57 args).run Tryz.prog w = .ok (.enter 57 args) w := fun args w => enters_of Tryz.func57 (by kernel_rfl) rfl args w
theorem en58 : ∀ args w, (callFunc 58 args).run Tryz.prog w = .ok (.enter 58 args) w := fun args w => enters_of Tryz.func58 (by kernel_rfl) rfl args w
theorem en59 : ∀ args w, (callFunc 59 args).run Tryz.prog w = .ok (.enter 59 args) w := fun args w => enters_of Tryz.func59 (by kernel_rfl) rfl args w
theorem en60 : ∀ args w, (callFunc 60 args).run Tryz.prog w = .ok (.enter 60 args) w := fun args w => enters_of Tryz.func60 (by kernel_rfl) rfl args w
theorem en61 : ∀ args w, (callFunc 61 args).run Tryz.prog w = .ok (.enter 61 args) w := fun args w => enters_of Tryz.func61 (by kernel_rfl) rfl args w
theorem en62 : ∀ args w, (callFunc 62 args).run Tryz.prog w = .ok (.enter 62 args) w := fun args w => enters_of Tryz.func62 (by kernel_rfl) rfl args w
theorem en63 : ∀ args w, (callFunc 63 args).run Tryz.prog w = .ok (.enter 63 args) w := fun args w => enters_of Tryz.func63 (by kernel_rfl) rfl args w
theorem en64 : ∀ args w, (callFunc 64 args).run Tryz.prog w = .ok (.enter 64 args) w := fun args w => enters_of Tryz.func64 (by kernel_rfl) rfl args w
theorem en65 : ∀ args w, (callFunc 65 args).run Tryz.prog w = .ok (.enter 65 args) w := fun args w => enters_of Tryz.func65 (by kernel_rfl) rfl args w
theorem en66 : ∀ args w, (callFunc 66 args).run Tryz.prog w = .ok (.enter 66 args) w := fun args w => enters_of Tryz.func66 (by kernel_rfl) rfl args w
theorem en67 : ∀ args w, (callFunc 67 args).run Tryz.prog w = .ok (.enter 67 args) w := fun args w => enters_of Tryz.func67 (by kernel_rfl) rfl args w
theorem en68 : ∀ args w, (callFunc 68 args).run Tryz.prog w = .ok (.enter 68 args) w := fun args w => enters_of Tryz.func68 (by kernel_rfl) rfl args w
theorem en69 : ∀ args w, (callFunc 69 args).run Tryz.prog w = .ok (.enter 69 args) w := fun args w => enters_of Tryz.func69 (by kernel_rfl) rfl args w
theorem en70 : ∀ args w, (callFunc 70 args).run Tryz.prog w = .ok (.enter 70 args) w := fun args w => enters_of Tryz.func70 (by kernel_rfl) rfl args w
theorem en71 : ∀ args w, (callFunc 71 args).run Tryz.prog w = .ok (.enter 71 args) w := fun args w => enters_of Tryz.func71 (by kernel_rfl) rfl args w
theorem en72 : ∀ args w, (callFunc 72 args).run Tryz.prog w = .ok (.enter 72 args) w := fun args w => enters_of Tryz.func72 (by kernel_rfl) rfl args w
theorem en73 : ∀ args w, (callFunc 73 args).run Tryz.prog w = .ok (.enter 73 args) w := fun args w => enters_of Tryz.func73 (by kernel_rfl) rfl args w
theorem en74 : ∀ args w, (callFunc 74 args).run Tryz.prog w = .ok (.enter 74 args) w := fun args w => enters_of Tryz.func74 (by kernel_rfl) rfl args w
theorem en75 : ∀ args w, (callFunc 75 args).run Tryz.prog w = .ok (.enter 75 args) w := fun args w => enters_of Tryz.func75 (by kernel_rfl) rfl args w
theorem en76 : ∀ args w, (callFunc 76 args).run Tryz.prog w = .ok (.enter 76 args) w := fun args w => enters_of Tryz.func76 (by kernel_rfl) rfl args w
theorem en77 : ∀ args w, (callFunc 77 args).run Tryz.prog w = .ok (.enter 77 args) w := fun args w => enters_of Tryz.func77 (by kernel_rfl) rfl args w
theorem en78 : ∀ args w, (callFunc 78 args).run Tryz.prog w = .ok (.enter 78 args) w := fun args w => enters_of Tryz.func78 (by kernel_rfl) rfl args w
theorem en79 : ∀ args w, (callFunc 79 args).run Tryz.prog w = .ok (.enter 79 args) w := fun args w => enters_of Tryz.func79 (by kernel_rfl) rfl args w
theorem en80 : ∀ args w, (callFunc 80 args).run Tryz.prog w = .ok (.enter 80 args) w := fun args w => enters_of Tryz.func80 (by kernel_rfl) rfl args w
theorem en81 : ∀ args w, (callFunc 81 args).run Tryz.prog w = .ok (.enter 81 args) w := fun args w => enters_of Tryz.func81 (by kernel_rfl) rfl args w
theorem en82 : ∀ args w, (callFunc 82 args).run Tryz.prog w = .ok (.enter 82 args) w := fun args w => enters_of Tryz.func82 (by kernel_rfl) rfl args w
theorem en83 : ∀ args w, (callFunc 83 args).run Tryz.prog w = .ok (.enter 83 args) w := fun args w => enters_of Tryz.func83 (by kernel_rfl) rfl args w
theorem en84 : ∀ args w, (callFunc 84 args).run Tryz.prog w = .ok (.enter 84 args) w := fun args w => enters_of Tryz.func84 (by kernel_rfl) rfl args w
theorem en85 : ∀ args w, (callFunc 85 args).run Tryz.prog w = .ok (.enter 85 args) w := fun args w => enters_of Tryz.func85 (by kernel_rfl) rfl args w
theorem en86 : ∀ args w, (callFunc 86 args).run Tryz.prog w = .ok (.enter 86 args) w := fun args w => enters_of Tryz.func86 (by kernel_rfl) rfl args w
theorem en87 : ∀ args w, (callFunc 87 args).run Tryz.prog w = .ok (.enter 87 args) w := fun args w => enters_of Tryz.func87 (by kernel_rfl) rfl args w
theorem en88 : ∀ args w, (callFunc 88 args).run Tryz.prog w = .ok (.enter 88 args) w := fun args w => enters_of Tryz.func88 (by kernel_rfl) rfl args w
theorem en89 : ∀ args w, (callFunc 89 args).run Tryz.prog w = .ok (.enter 89 args) w := fun args w => enters_of Tryz.func89 (by kernel_rfl) rfl args w
theorem en90 : ∀ args w, (callFunc 90 args).run Tryz.prog w = .ok (.enter 90 args) w := fun args w => enters_of Tryz.func90 (by kernel_rfl) rfl args w
theorem en91 : ∀ args w, (callFunc 91 args).run Tryz.prog w = .ok (.enter 91 args) w := fun args w => enters_of Tryz.func91 (by kernel_rfl) rfl args w
theorem en92 : ∀ args w, (callFunc 92 args).run Tryz.prog w = .ok (.enter 92 args) w := fun args w => enters_of Tryz.func92 (by kernel_rfl) rfl args w
theorem en93 : ∀ args w, (callFunc 93 args).run Tryz.prog w = .ok (.enter 93 args) w := fun args w => enters_of Tryz.func93 (by kernel_rfl) rfl args w
theorem en94 : ∀ args w, (callFunc 94 args).run Tryz.prog w = .ok (.enter 94 args) w := fun args w => enters_of Tryz.func94 (by kernel_rfl) rfl args w
theorem en95 : ∀ args w, (callFunc 95 args).run Tryz.prog w = .ok (.enter 95 args) w := fun args w => enters_of Tryz.func95 (by kernel_rfl) rfl args w
theorem en96 : ∀ args w, (callFunc 96 args).run Tryz.prog w = .ok (.enter 96 args) w := fun args w => enters_of Tryz.func96 (by kernel_rfl) rfl args w
theorem en97 : ∀ args w, (callFunc 97 args).run Tryz.prog w = .ok (.enter 97 args) w := fun args w => enters_of Tryz.func97 (by kernel_rfl) rfl args w
theorem en98 : ∀ args w, (callFunc 98 args).run Tryz.prog w = .ok (.enter 98 args) w := fun args w => enters_of Tryz.func98 (by kernel_rfl) rfl args w
theorem en99 : ∀ args w, (callFunc 99 args).run Tryz.prog w = .ok (.enter 99 args) w := fun args w => enters_of Tryz.func99 (by kernel_rfl) rfl args w
theorem en100 : ∀ args w, (callFunc 100 args).run Tryz.prog w = .ok (.enter 100 args) w := fun args w => enters_of Tryz.func100 (by kernel_rfl) rfl args w
theorem en101 : ∀ args w, (callFunc 101 args).run Tryz.prog w = .ok (.enter 101 args) w := fun args w => enters_of Tryz.func101 (by kernel_rfl) rfl args w
theorem en102 : ∀ args w, (callFunc 102 args).run Tryz.prog w = .ok (.enter 102 args) w := fun args w => enters_of Tryz.func102 (by kernel_rfl) rfl args w
theorem en103 : ∀ args w, (callFunc 103 args).run Tryz.prog w = .ok (.enter 103 args) w := fun args w => enters_of Tryz.func103 (by kernel_rfl) rfl args w
theorem en104 : ∀ args w, (callFunc 104 args).run Tryz.prog w = .ok (.enter 104 args) w := fun args w => enters_of Tryz.func104 (by kernel_rfl) rfl args w
theorem en105 : ∀ args w, (callFunc 105 args).run Tryz.prog w = .ok (.enter 105 args) w := fun args w => enters_of Tryz.func105 (by kernel_rfl) rfl args w
theorem en106 : ∀ args w, (callFunc 106 args).run Tryz.prog w = .ok (.enter 106 args) w := fun args w => enters_of Tryz.func106 (by kernel_rfl) rfl args w
theorem en107 : ∀ args w, (callFunc 107 args).run Tryz.prog w = .ok (.enter 107 args) w := fun args w => enters_of Tryz.func107 (by kernel_rfl) rfl args w
theorem en108 : ∀ args w, (callFunc 108 args).run Tryz.prog w = .ok (.enter 108 args) w := fun args w => enters_of Tryz.func108 (by kernel_rfl) rfl args w
theorem en109 : ∀ args w, (callFunc 109 args).run Tryz.prog w = .ok (.enter 109 args) w := fun args w => enters_of Tryz.func109 (by kernel_rfl) rfl args w
theorem en110 : ∀ args w, (callFunc 110 args).run Tryz.prog w = .ok (.enter 110 args) w := fun args w => enters_of Tryz.func110 (by kernel_rfl) rfl args w
theorem en111 : ∀ args w, (callFunc 111 args).run Tryz.prog w = .ok (.enter 111 args) w := fun args w => enters_of Tryz.func111 (by kernel_rfl) rfl args w
theorem en112 : ∀ args w, (callFunc 112 args).run Tryz.prog w = .ok (.enter 112 args) w := fun args w => enters_of Tryz.func112 (by kernel_rfl) rfl args w
theorem en113 : ∀ args w, (callFunc 113 args).run Tryz.prog w = .ok (.enter 113 args) w := fun args w => enters_of Tryz.func113 (by kernel_rfl) rfl args w
theorem en114 : ∀ args w, (callFunc 114 args).run Tryz.prog w = .ok (.enter 114 args) w := fun args w => enters_of Tryz.func114 (by kernel_rfl) rfl args w
theorem en115 : ∀ args w, (callFunc 115 args).run Tryz.prog w = .ok (.enter 115 args) w := fun args w => enters_of Tryz.func115 (by kernel_rfl) rfl args w
theorem en116 : ∀ args w, (callFunc 116 args).run Tryz.prog w = .ok (.enter 116 args) w := fun args w => enters_of Tryz.func116 (by kernel_rfl) rfl args w
theorem en117 : ∀ args w, (callFunc 117 args).run Tryz.prog w = .ok (.enter 117 args) w := fun args w => enters_of Tryz.func117 (by kernel_rfl) rfl args w
theorem en118 : ∀ args w, (callFunc 118 args).run Tryz.prog w = .ok (.enter 118 args) w := fun args w => enters_of Tryz.func118 (by kernel_rfl) rfl args w
theorem en119 : ∀ args w, (callFunc 119 args).run Tryz.prog w = .ok (.enter 119 args) w := fun args w => enters_of Tryz.func119 (by kernel_rfl) rfl args w
theorem en120 : ∀ args w, (callFunc 120 args).run Tryz.prog w = .ok (.enter 120 args) w := fun args w => enters_of Tryz.func120 (by kernel_rfl) rfl args w
theorem en121 : ∀ args w, (callFunc 121 args).run Tryz.prog w = .ok (.enter 121 args) w := fun args w => enters_of Tryz.func121 (by kernel_rfl) rfl args w
theorem en122 : ∀ args w, (callFunc 122 args).run Tryz.prog w = .ok (.enter 122 args) w := fun args w => enters_of Tryz.func122 (by kernel_rfl) rfl args w
theorem en123 : ∀ args w, (callFunc 123 args).run Tryz.prog w = .ok (.enter 123 args) w := fun args w => enters_of Tryz.func123 (by kernel_rfl) rfl args w
theorem en124 : ∀ args w, (callFunc 124 args).run Tryz.prog w = .ok (.enter 124 args) w := fun args w => enters_of Tryz.func124 (by kernel_rfl) rfl args w
theorem en125 : ∀ args w, (callFunc 125 args).run Tryz.prog w = .ok (.enter 125 args) w := fun args w => enters_of Tryz.func125 (by kernel_rfl) rfl args w
theorem en126 : ∀ args w, (callFunc 126 args).run Tryz.prog w = .ok (.enter 126 args) w := fun args w => enters_of Tryz.func126 (by kernel_rfl) rfl args w
theorem en127 : ∀ args w, (callFunc 127 args).run Tryz.prog w = .ok (.enter 127 args) w := fun args w => enters_of Tryz.func127 (by kernel_rfl) rfl args w
theorem en128 : ∀ args w, (callFunc 128 args).run Tryz.prog w = .ok (.enter 128 args) w := fun args w => enters_of Tryz.func128 (by kernel_rfl) rfl args w
theorem en129 : ∀ args w, (callFunc 129 args).run Tryz.prog w = .ok (.enter 129 args) w := fun args w => enters_of Tryz.func129 (by kernel_rfl) rfl args w
theorem en130 : ∀ args w, (callFunc 130 args).run Tryz.prog w = .ok (.enter 130 args) w := fun args w => enters_of Tryz.func130 (by kernel_rfl) rfl args w
theorem en131 : ∀ args w, (callFunc 131 args).run Tryz.prog w = .ok (.enter 131 args) w := fun args w => enters_of Tryz.func131 (by kernel_rfl) rfl args w
theorem en132 : ∀ args w, (callFunc 132 args).run Tryz.prog w = .ok (.enter 132 args) w := fun args w => enters_of Tryz.func132 (by kernel_rfl) rfl args w
theorem en133 : ∀ args w, (callFunc 133 args).run Tryz.prog w = .ok (.enter 133 args) w := fun args w => enters_of Tryz.func133 (by kernel_rfl) rfl args w
theorem en134 : ∀ args w, (callFunc 134 args).run Tryz.prog w = .ok (.enter 134 args) w := fun args w => enters_of Tryz.func134 (by kernel_rfl) rfl args w
theorem en135 : ∀ args w, (callFunc 135 args).run Tryz.prog w = .ok (.enter 135 args) w := fun args w => enters_of Tryz.func135 (by kernel_rfl) rfl args w
theorem en136 : ∀ args w, (callFunc 136 args).run Tryz.prog w = .ok (.enter 136 args) w := fun args w => enters_of Tryz.func136 (by kernel_rfl) rfl args w
end Go.Proofs.YthdmlgnhmbobaaaGreatDoor.Ty
