/- Closed facts on the types and the functions of this translation, each by the kernel. -/
import Derived.Test.YtbooplbhlmiihaaProg
import Derived.Test.YtbooplbhlmiihaaEngOps
import Derived.Test.YtbooplbhlmiihaaEngMore
import Derived.KernelRfl
import Derived.Shelf.Abstract
import Derived.RowKit3
import Derived.Laws.OwnMore
set_option linter.unusedVariables false
namespace Go.Proofs.Ytbooplbhlmiihaa.Ty
open Go.RowKit Go.Proofs
theorem ty_agg3 : ∀ w, (isAgg 3).run Try.prog w = .ok false w := fun w => by kernel_rfl
theorem ty_agg4 : ∀ w, (isAgg 4).run Try.prog w = .ok false w := fun w => by kernel_rfl
theorem ty_agg22 : ∀ w, (isAgg 22).run Try.prog w = .ok false w := fun w => by kernel_rfl
theorem ty_agg27 : ∀ w, (isAgg 27).run Try.prog w = .ok false w := fun w => by kernel_rfl
theorem ty_agg30 : ∀ w, (isAgg 30).run Try.prog w = .ok false w := fun w => by kernel_rfl
theorem ty_agg32 : ∀ w, (isAgg 32).run Try.prog w = .ok false w := fun w => by kernel_rfl
theorem ty_size3 : ∀ w, (sizeOf 3).run Try.prog w = .ok 1 w := fun w => by kernel_rfl
theorem ty_size4 : ∀ w, (sizeOf 4).run Try.prog w = .ok 1 w := fun w => by kernel_rfl
theorem ty_size27 : ∀ w, (sizeOf 27).run Try.prog w = .ok 1 w := fun w => by kernel_rfl
theorem ty_size30 : ∀ w, (sizeOf 30).run Try.prog w = .ok 1 w := fun w => by kernel_rfl
theorem ty_size32 : ∀ w, (sizeOf 32).run Try.prog w = .ok 1 w := fun w => by kernel_rfl
theorem ty_zero3 : ∀ w, (zeroValue 3).run Try.prog w = .ok (.int .i64 0) w := fun w => by kernel_rfl
theorem ty_zero4 : ∀ w, (zeroValue 4).run Try.prog w = .ok (.bool false) w := fun w => by kernel_rfl
theorem ty_zero27 : ∀ w, (zeroValue 27).run Try.prog w = .ok (.slice none 0 0) w := fun w => by kernel_rfl
theorem ty_zero30 : ∀ w, (zeroValue 30).run Try.prog w = .ok .nilFunc w := fun w => by kernel_rfl
theorem ty_zero32 : ∀ w, (zeroValue 32).run Try.prog w = .ok (.slice none 0 0) w := fun w => by kernel_rfl
theorem ty_info3 : ∃ i, Try.prog.info? 3 = some i ∧ i.zero = some (.int .i64 0) ∧ i.size = 1 ∧ i.bytes = 8 := Eng.info_parts (show (Try.prog.info? 3).map (fun i => (i.zero, i.size, i.bytes)) = some (some (.int .i64 0), 1, 8) by kernel_rfl)
theorem ty_info4 : ∃ i, Try.prog.info? 4 = some i ∧ i.zero = some (.bool false) ∧ i.size = 1 ∧ i.bytes = 1 := Eng.info_parts (show (Try.prog.info? 4).map (fun i => (i.zero, i.size, i.bytes)) = some (some (.bool false), 1, 1) by kernel_rfl)
theorem en4 : ∀ args w, (callFunc 4 args).run Try.prog w = .ok (.enter 4 args) w := fun args w => enters_of Try.func4 (by kernel_rfl) rfl args w
theorem en5 : ∀ args w, (callFunc 5 args).run Try.prog w = .ok (.enter 5 args) w := fun args w => enters_of Try.func5 (by kernel_rfl) rfl args w
theorem en6 : ∀ args w, (callFunc 6 args).run Try.prog w = .ok (.enter 6 args) w := fun args w => enters_of Try.func6 (by kernel_rfl) rfl args w
theorem en7 : ∀ args w, (callFunc 7 args).run Try.prog w = .ok (.enter 7 args) w := fun args w => enters_of Try.func7 (by kernel_rfl) rfl args w
theorem en8 : ∀ args w, (callFunc 8 args).run Try.prog w = .ok (.enter 8 args) w := fun args w => enters_of Try.func8 (by kernel_rfl) rfl args w
theorem en9 : ∀ args w, (callFunc 9 args).run Try.prog w = .ok (.enter 9 args) w := fun args w => enters_of Try.func9 (by kernel_rfl) rfl args w
theorem en10 : ∀ args w, (callFunc 10 args).run Try.prog w = .ok (.enter 10 args) w := fun args w => enters_of Try.func10 (by kernel_rfl) rfl args w
theorem en11 : ∀ args w, (callFunc 11 args).run Try.prog w = .ok (.enter 11 args) w := fun args w => enters_of Try.func11 (by kernel_rfl) rfl args w
theorem en12 : ∀ args w, (callFunc 12 args).run Try.prog w = .ok (.enter 12 args) w := fun args w => enters_of Try.func12 (by kernel_rfl) rfl args w
theorem en13 : ∀ args w, (callFunc 13 args).run Try.prog w = .ok (.enter 13 args) w := fun args w => enters_of Try.func13 (by kernel_rfl) rfl args w
theorem en14 : ∀ args w, (callFunc 14 args).run Try.prog w = .ok (.enter 14 args) w := fun args w => enters_of Try.func14 (by kernel_rfl) rfl args w
theorem en15 : ∀ args w, (callFunc 15 args).run Try.prog w = .ok (.enter 15 args) w := fun args w => enters_of Try.func15 (by kernel_rfl) rfl args w
theorem en16 : ∀ args w, (callFunc 16 args).run Try.prog w = .ok (.enter 16 args) w := fun args w => enters_of Try.func16 (by kernel_rfl) rfl args w
theorem en17 : ∀ args w, (callFunc 17 args).run Try.prog w = .ok (.enter 17 args) w := fun args w => enters_of Try.func17 (by kernel_rfl) rfl args w
theorem en18 : ∀ args w, (callFunc 18 args).run Try.prog w = .ok (.enter 18 args) w := fun args w => enters_of Try.func18 (by kernel_rfl) rfl args w
theorem en19 : ∀ args w, (callFunc 19 args).run Try.prog w = .ok (.enter 19 args) w := fun args w => enters_of Try.func19 (by kernel_rfl) rfl args w
theorem en20 : ∀ args w, (callFunc 20 args).run Try.prog w = .ok (.enter 20 args) w := fun args w => enters_of Try.func20 (by kernel_rfl) rfl args w
theorem en21 : ∀ args w, (callFunc 21 args).run Try.prog w = .ok (.enter 21 args) w := fun args w => enters_of Try.func21 (by kernel_rfl) rfl args w
theorem en22 : ∀ args w, (callFunc 22 args).run Try.prog w = .ok (.enter 22 args) w := fun args w => enters_of Try.func22 (by kernel_rfl) rfl args w
theorem en23 : ∀ args w, (callFunc 23 args).run Try.prog w = .ok (.enter 23 args) w := fun args w => enters_of Try.func23 (by kernel_rfl) rfl args w
theorem en24 : ∀ args w, (callFunc 24 args).run Try.prog w = .ok (.enter 24 args) w := fun args w => enters_of Try.func24 (by kernel_rfl) rfl args w
theorem en25 : ∀ args w, (callFunc 25 args).run Try.prog w = .ok (.enter 25 args) w := fun args w => enters_of Try.func25 (by kernel_rfl) rfl args w
theorem en26 : ∀ args w, (callFunc 26 args).run Try.prog w = .ok (.enter 26 args) w := fun args w => enters_of Try.func26 (by kernel_rfl) rfl args w
theorem en28 : ∀ args w, (callFunc 28 args).run Try.prog w = .ok (.enter 28 args) w := fun args w => enters_of Try.func28 (by kernel_rfl) rfl args w
end Go.Proofs.Ytbooplbhlmiihaa.Ty
