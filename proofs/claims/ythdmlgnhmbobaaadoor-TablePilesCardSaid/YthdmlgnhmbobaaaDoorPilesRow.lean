/- TablePiles answers true, whatever its argument; no condition but that the package variable math/bits.deBruijn64tab starts as the text lays it (which the card ties). -/
import Derived.Test.YthdmlgnhmbobaaaDoorRowKit
import Derived.Test.YthdmlgnhmbobaaaDoorPiles
import Derived.Test.YthdmlgnhmbobaaaDoorTie
import Derived.Test.YthdmlgnhmbobaaaDoorCards
import Derived.SevenTiedAt
namespace Go.Proofs.YthdmlgnhmbobaaaDoor.tablePiles
open Go.ChangeShapes Go.WideShapes Go.ChangeAt Go.RowKit Go.Proofs Go.Proofs.YthdmlgnhmbobaaaDoor.Eng Go.Proofs.YthdmlgnhmbobaaaDoor.RowKit Go.Proofs.YthdmlgnhmbobaaaDoor.Ref03 Go.Proofs.YthdmlgnhmbobaaaDoor.Piles
set_option linter.unusedVariables false
theorem own : ownKnob Tryd.prog.godebug = none := by kernel_rfl
set_option maxRecDepth 100000 in
theorem lifted (os : Os) (started : os.Started) (H : Type) (enc : TypeId × Value → H) :
    ReturnsInHanded {} Tryd.checked os 3 .any (fun w args => (Rows.tablePilesSpec.pre enc Tryd.prog Tryd.f3 Rows.tablePilesRow.domain false w args ∧ laidMetH Tryd.prog Rows.tablePilesRow.laid w) ∧ sizedMet enc Tryd.prog Tryd.f3 (OpenSpec.ofChange Rows.tablePilesSpec) false w args)
      (Rows.tablePilesSpec.post enc Tryd.prog Tryd.f3 false true false false) := by
  refine returnsInHanded_of_change_and (C := Tryd.checked) (X := fun w _ => laidMetH Tryd.prog Rows.tablePilesRow.laid w) (fun _ _ _ hh h => h.of_heap hh) own started (by kernel_rfl) Tryd.func3
    (ChangeSpec.witness_shaped (enc := enc) (C := Tryd.checked) (os := os) (X := fun w _ => laidMetH Tryd.prog Rows.tablePilesRow.laid w) false (World.laidAll Tryd.prog os Rows.tablePilesRow.laid) #[.agg #[.slice none 0 0, .int .i64 0, .int .i64 0, .int .u64 0]] 8 (World.laidAll_os _ _ _)
      (World.shaped_of_ZipB (by kernel_rfl) (by kernel_rfl)) (by kernel_rfl) (by kernel_rfl) (by kernel_rfl)
      (by rw [MakeChecks.laidMetH_plain _ _ _ (by kernel_rfl)]; exact laidMet_laidAll _ (by kernel_rfl) (by kernel_rfl))) ?_
  intro W base args ds gs before hval0 hW hc _ hL _
  have hval : ∀ (j : Nat) t v, Tryd.f3.params[j]? = some t → args[j]? = some v → Value.okWide Tryd.prog W .any base t v := hval0
  have hW' := hW
  obtain ⟨p, q, hA0, hV, rfl, hfz, hnd⟩ := hW
  have hA : DataW.TrodAll enc Tryd.prog W 0 (fun _ => true) true Tryd.f3.params.toList args.toList ds p := hA0
  rw [Tryd.params3] at hA hval
  obtain ⟨v0, d0, rfl, rfl, h0⟩ := trodAll_one hA
  obtain ⟨rfl, rfl⟩ := trodVars_none hV
  have h0k := h0
  obtain ⟨cs, rfl, hcs⟩ := okWide_struct Tryd.underlying25 (hval 0 25 v0 rfl rfl)
  obtain ⟨fuel, hf⟩ := h0
  have c25 : Tryd.prog.cellsOf 25 = 4 := by kernel_rfl
  have c22 : Tryd.prog.cellsOf 22 = 1 := by kernel_rfl
  have c3 : Tryd.prog.cellsOf 3 = 1 := by kernel_rfl
  have c23 : Tryd.prog.cellsOf 23 = 1 := by kernel_rfl
  obtain ⟨a, b, c, d, rfl⟩ := arr4 (cs := cs) (by rw [Array.length_toList, hcs, c25])
  obtain ⟨xs, m, _, _, _, hxl, hfld⟩ := DataW.trod_struct Tryd.underlying25 hf
  have hx4 : xs.length = 4 := hxl
  have f0 : DataW.trod enc Tryd.prog W 0 (fun _ => true) true m 22 (((Value.agg #[a, b, c, d]).cells.toList.drop 0).take (Tryd.prog.cellsOf 22)) = xs[0]? := hfld 0 _ rfl
  rw [c22, List.getElem?_eq_getElem (by omega)] at f0
  have f1 : DataW.trod enc Tryd.prog W 0 (fun _ => true) true m 3 (((Value.agg #[a, b, c, d]).cells.toList.drop 1).take (Tryd.prog.cellsOf 3)) = xs[1]? := hfld 1 _ rfl
  rw [c3, List.getElem?_eq_getElem (by omega)] at f1
  have f2 : DataW.trod enc Tryd.prog W 0 (fun _ => true) true m 3 (((Value.agg #[a, b, c, d]).cells.toList.drop 2).take (Tryd.prog.cellsOf 3)) = xs[2]? := hfld 2 _ rfl
  rw [c3, List.getElem?_eq_getElem (by omega)] at f2
  have f3 : DataW.trod enc Tryd.prog W 0 (fun _ => true) true m 23 (((Value.agg #[a, b, c, d]).cells.toList.drop 3).take (Tryd.prog.cellsOf 23)) = xs[3]? := hfld 3 _ rfl
  rw [c23, List.getElem?_eq_getElem (by omega)] at f3
  obtain ⟨vf, zs, e0, hnum, _, _⟩ := nums_old Tryd.underlying22 Tryd.underlying3 c3 f0
  obtain ⟨z1, e1, _, w1⟩ := DataW.trod_int Tryd.underlying3 f1
  obtain ⟨z2, e2, _, w2⟩ := DataW.trod_int Tryd.underlying3 f2
  obtain ⟨z3, e3, _, w3⟩ := DataW.trod_int Tryd.underlying23 f3
  obtain rfl : a = vf := by simpa [Value.cells] using e0
  obtain rfl : b = .int .i64 z1 := by simpa [Value.cells] using e1
  obtain rfl : c = .int .i64 z2 := by simpa [Value.cells] using e2
  obtain rfl : d = .int .u64 z3 := by simpa [Value.cells] using e3
  have b1 := wf_i64 w1
  have b3 := wf_u64 w3
  have hlt : ∀ x ∈ p, x.block < W.heap.size := fun x hx => hW'.lt x (by simpa using hx)
  refine (fn_old (TablePiles_ok (Eng.old W) (tab_laid hL) a zs hnum z1 z2 z3 b1 b3)).mono fun e W' ⟨he, bel⟩ => ?_
  subst he
  exact ⟨_, rfl, _, _, _, [], _, [], hW', trodAll_mk1 (shut_bool Tryd.underlying4 _), trodAll_mk1 (Below.trod laidOut (by kernel_rfl) (of_decide_eq_true (by kernel_rfl)) h0k bel hlt), rfl, bel.frame _, fun h => by cases h⟩
theorem over : Rows.TablePilesSaid :=
  OpenClaim.holds_of_wide 3 Tryd.f3 rfl rfl rfl rfl rfl rfl rfl ⟨rfl, rfl, rfl, rfl, rfl⟩ rfl rfl rfl rfl rfl (by kernel_rfl) Tryd.func3 (by kernel_rfl)
    (of_decide_eq_true (by kernel_rfl)) (by unfold Func.isWrapper; first | (rw [if_pos (by decide +kernel)]; kernel_rfl) | (rw [if_neg (by decide +kernel)]; exact ⟨rfl, rfl⟩))
    (fun os started H enc _ => lifted os started H enc)
theorem proved : Rows.TablePilesCardSaid :=
  Claim7.holds_tied_plain_at .later [] Rows.tablePilesCard.laidKinds true Rows.tablePilesCard.stood.harness false over (fun _ h => by cases h) (by kernel_rfl) (fun _ h => by cases h) tablePiles_row_tie rfl ⟨rfl, rfl⟩ (by kernel_rfl) rfl
    (fun f fn hf hfn => by
      obtain rfl : f = 3 := Option.some.inj ((show Tryd.prog.funcNamed "larder/larderlaw08.TablePiles" = some 3 by kernel_rfl).symm.trans hf) |>.symm
      obtain rfl : fn = Tryd.f3 := (Option.some.inj (Tryd.func3.symm.trans hfn)).symm
      exact ⟨by kernel_rfl, fun j t ht => by
        rw [Tryd.params3] at ht
        have hm : t ∈ [25] := by simpa using Array.mem_of_getElem? ht
        have hall : ([25].all fun u => !Tryd.prog.wantsStandIn u) = true := by kernel_rfl
        exact (show Tryd.prog.wantsStandIn t = false by simpa using List.all_eq_true.1 hall t hm)⟩)
    (by kernel_rfl)
#print axioms proved
end Go.Proofs.YthdmlgnhmbobaaaDoor.tablePiles
namespace Go.Proofs.YthdmlgnhmbobaaaDoor
/-- The card, under a short name, for the claim. -/
theorem tablePiles_holds : Rows.TablePilesCardSaid := tablePiles.proved
end Go.Proofs.YthdmlgnhmbobaaaDoor
