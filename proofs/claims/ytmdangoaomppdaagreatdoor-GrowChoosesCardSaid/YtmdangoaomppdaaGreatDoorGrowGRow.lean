import Derived.Test.YtmdangoaomppdaaGreatDoorRowAsk
import Derived.Test.YtmdangoaomppdaaGreatDoorTie
import Derived.Test.YtmdangoaomppdaaGreatDoorCards
import Derived.SevenTiedAt
/- GrowChooses answers true, whatever its arguments; no condition but that the package variables larder/oracle.odd and math/bits.deBruijn64tab start as the text lays them (both of which the card ties). -/
namespace Go.Proofs.YtmdangoaomppdaaGreatDoor.growChooses
open Go.ChangeShapes Go.WideShapes Go.ChangeAt Go.RowKit Go.Proofs Go.Proofs.YtmdangoaomppdaaGreatDoor.Eng Go.Proofs.YtmdangoaomppdaaGreatDoor.RowKit Go.Proofs.YtmdangoaomppdaaGreatDoor.Ref03 Go.Proofs.YtmdangoaomppdaaGreatDoor.Grow Go.Proofs.YtmdangoaomppdaaGreatDoor.Oracle
set_option linter.unusedVariables false
theorem own : ownKnob Tryz.prog.godebug = none := by kernel_rfl
set_option maxRecDepth 100000 in
theorem lifted (os : Os) (started : os.Started) (H : Type) (enc : TypeId × Value → H) :
    ReturnsInHanded {} Tryz.checked os 5 .any (fun w args => (Rows.growChoosesSpec.pre enc Tryz.prog Tryz.f5 Rows.growChoosesRow.domain false w args ∧ laidMetH Tryz.prog Rows.growChoosesRow.laid w) ∧ sizedMet enc Tryz.prog Tryz.f5 (OpenSpec.ofChange Rows.growChoosesSpec) false w args)
      (Rows.growChoosesSpec.post enc Tryz.prog Tryz.f5 false true false false) := by
  refine returnsInHanded_of_change_and (C := Tryz.checked) (X := fun w _ => laidMetH Tryz.prog Rows.growChoosesRow.laid w) (fun _ _ _ hh h => h.of_heap hh) own started (by kernel_rfl) Tryz.func5
    (ChangeSpec.witness_shaped (enc := enc) (C := Tryz.checked) (os := os) (X := fun w _ => laidMetH Tryz.prog Rows.growChoosesRow.laid w) false (World.laidAll Tryz.prog os Rows.growChoosesRow.laid) #[.slice none 0 0] 8 (World.laidAll_os _ _ _)
      (World.shaped_of_ZipB (by kernel_rfl) (by kernel_rfl)) (by kernel_rfl) (by kernel_rfl) (by kernel_rfl)
      (by rw [MakeChecks.laidMetH_plain _ _ _ (by kernel_rfl)]; exact laidMet_laidAll _ (by kernel_rfl) (by kernel_rfl))) ?_
  intro W base args ds gs before hval0 hW hc _ hL _
  have hval : ∀ (j : Nat) t v, Tryz.f5.params[j]? = some t → args[j]? = some v → Value.okWide Tryz.prog W .any base t v := hval0
  have hW' := hW
  obtain ⟨p, q, hA0, hV, rfl, hfz, hnd⟩ := hW
  have hA : DataW.TrodAll enc Tryz.prog W 0 (fun _ => true) true Tryz.f5.params.toList args.toList ds p := hA0
  rw [Tryz.params5] at hA hval
  obtain ⟨v0, d0, rfl, rfl, h0⟩ := trodAll_one hA
  obtain ⟨rfl, rfl⟩ := trodVars_none hV
  have h0k := h0
  obtain ⟨a0, l0, c0, rfl⟩ := okWide_slice Tryz.underlying75 (hval 0 75 v0 rfl rfl)
  obtain ⟨fuel, hf⟩ := h0
  obtain ⟨va, aks, hva, hAs, hmx, hwf⟩ := asks_old hf
  obtain rfl : Value.slice a0 l0 c0 = va := by simpa [Value.cells] using hva
  obtain ⟨hodd, htab⟩ := laid_both hL
  have hlt : ∀ x ∈ p, x.block < W.heap.size := fun x hx => hW'.lt x (by simp [hx])
  refine (fn_old (GrowChooses_ok (Eng.old W) htab hodd _ aks hAs hwf (by simpa [maxLen] using hmx))).mono fun e W' ⟨he, bel⟩ => ?_
  subst he
  exact ⟨_, rfl, _, _, _, [], _, [], hW', trodAll_mk1 (shut_bool Tryz.underlying4 _), trodAll_mk1 (Below.trod laidOut (by kernel_rfl) (of_decide_eq_true (by kernel_rfl)) h0k bel hlt), rfl, bel.frame _, fun h => by cases h⟩
theorem over : Rows.GrowChoosesSaid :=
  OpenClaim.holds_of_wide 5 Tryz.f5 rfl rfl rfl rfl rfl rfl rfl ⟨rfl, rfl, rfl, rfl, rfl⟩ rfl rfl rfl rfl rfl (by kernel_rfl) Tryz.func5 (by kernel_rfl)
    (of_decide_eq_true (by kernel_rfl)) (by unfold Func.isWrapper; first | (rw [if_pos (by decide +kernel)]; kernel_rfl) | (rw [if_neg (by decide +kernel)]; exact ⟨rfl, rfl⟩))
    (fun os started H enc _ => lifted os started H enc)
theorem proved : Rows.GrowChoosesCardSaid :=
  Claim7.holds_tied_plain_at .later [] Rows.growChoosesCard.laidKinds true Rows.growChoosesCard.stood.harness false over (fun _ h => by cases h) (by kernel_rfl) (fun _ h => by cases h) growChooses_row_tie rfl ⟨rfl, rfl⟩ (by kernel_rfl) rfl
    (fun f fn hf hfn => by
      obtain rfl : f = 5 := Option.some.inj ((show Tryz.prog.funcNamed "larder/larderlaw09.GrowChooses" = some 5 by kernel_rfl).symm.trans hf) |>.symm
      obtain rfl : fn = Tryz.f5 := (Option.some.inj (Tryz.func5.symm.trans hfn)).symm
      exact ⟨by kernel_rfl, fun j t ht => by
        rw [Tryz.params5] at ht
        have hm : t ∈ [75] := by simpa using Array.mem_of_getElem? ht
        have hall : ([75].all fun u => !Tryz.prog.wantsStandIn u) = true := by kernel_rfl
        exact (show Tryz.prog.wantsStandIn t = false by simpa using List.all_eq_true.1 hall t hm)⟩)
    (by kernel_rfl)
#print axioms proved
end Go.Proofs.YtmdangoaomppdaaGreatDoor.growChooses
namespace Go.Proofs.YtmdangoaomppdaaGreatDoor
/-- The card, under a short name, for the claim. -/
theorem growChooses_holds : Rows.GrowChoosesCardSaid := growChooses.proved
end Go.Proofs.YtmdangoaomppdaaGreatDoor
