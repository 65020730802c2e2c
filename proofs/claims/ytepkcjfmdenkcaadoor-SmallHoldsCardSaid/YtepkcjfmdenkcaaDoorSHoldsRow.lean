/- SmallHolds answers true, whatever its argument; no condition but that the package variables larder/oracle.odd and math/bits.deBruijn64tab start as the text lays it (both of which the card ties). -/
import Derived.Test.YtepkcjfmdenkcaaDoorRow11
import Derived.Test.YtepkcjfmdenkcaaDoorSHolds
import Derived.Test.YtepkcjfmdenkcaaDoorTie
import Derived.Test.YtepkcjfmdenkcaaDoorCards
import Derived.SevenTiedAt
namespace Go.Proofs.YtepkcjfmdenkcaaDoor.smallHolds
open Go.ChangeShapes Go.WideShapes Go.ChangeAt Go.RowKit Go.Proofs Go.Proofs.YtepkcjfmdenkcaaDoor.Eng Go.Proofs.YtepkcjfmdenkcaaDoor.RowKit Go.Proofs.YtepkcjfmdenkcaaDoor.Ref03 Go.Proofs.YtepkcjfmdenkcaaDoor.BenchS Go.Proofs.YtepkcjfmdenkcaaDoor.Oracle
set_option linter.unusedVariables false
theorem own : ownKnob Tryd.prog.godebug = none := by kernel_rfl
set_option maxRecDepth 100000 in
theorem lifted (os : Os) (started : os.Started) (H : Type) (enc : TypeId × Value → H) :
    ReturnsInHanded {} Tryd.checked os 3 .any (fun w args => (Rows.smallHoldsSpec.pre enc Tryd.prog Tryd.f3 Rows.smallHoldsRow.domain false w args ∧ laidMetH Tryd.prog Rows.smallHoldsRow.laid w) ∧ sizedMet enc Tryd.prog Tryd.f3 (OpenSpec.ofChange Rows.smallHoldsSpec) false w args)
      (Rows.smallHoldsSpec.post enc Tryd.prog Tryd.f3 false true false false) := by
  refine returnsInHanded_of_change_and (C := Tryd.checked) (X := fun w _ => laidMetH Tryd.prog Rows.smallHoldsRow.laid w) (fun _ _ _ hh h => h.of_heap hh) own started (by kernel_rfl) Tryd.func3
    (ChangeSpec.witness_shaped (enc := enc) (C := Tryd.checked) (os := os) (X := fun w _ => laidMetH Tryd.prog Rows.smallHoldsRow.laid w) false (World.laidAll Tryd.prog os Rows.smallHoldsRow.laid) #[.agg #[.slice none 0 0, .slice none 0 0, .int .u64 0, .slice none 0 0]] 8 (World.laidAll_os _ _ _)
      (World.shaped_of_ZipB (by kernel_rfl) (by kernel_rfl)) (by kernel_rfl) (by kernel_rfl) (by kernel_rfl)
      (by rw [MakeChecks.laidMetH_plain _ _ _ (by kernel_rfl)]; exact laidMet_laidAll _ (by kernel_rfl) (by kernel_rfl))) ?_
  intro W base args ds gs before hval0 hW hc _ hL _
  have hval : ∀ (j : Nat) t v, Tryd.f3.params[j]? = some t → args[j]? = some v → Value.okWide Tryd.prog W .any base t v := hval0
  have hW' := hW
  obtain ⟨p, q, hA0, hV, rfl, hfz, hnd⟩ := hW
  have hA : DataW.TrodAll enc Tryd.prog W 0 (fun _ => true) true Tryd.f3.params.toList args.toList ds p := hA0
  rw [Tryd.params3] at hA hval
  obtain ⟨v0, d0, rfl, rfl, h0⟩ := trodAll_one hA
  obtain ⟨rfl, rfl⟩ := trodVars_none hV
  have h0k := h0
  obtain ⟨cs, rfl, hcs⟩ := okWide_struct Tryd.underlying27 (hval 0 27 v0 rfl rfl)
  obtain ⟨fuel, hf⟩ := h0
  obtain ⟨vf, vo, vt, sd, xs, os, ts, rfl, hA1, hO, hn0, how, hT, hmt, hs0, hs1⟩ := plan11_old (cs := cs) (by rw [Array.length_toList]; exact hcs) rfl hf
  obtain ⟨hodd, htab⟩ := laid_both hL
  have hlt : ∀ x ∈ p, x.block < W.heap.size := fun x hx => hW'.lt x (by simpa using hx)
  refine (fn_old (SmallHolds_ok (Eng.old W) htab hodd vf vo vt sd ⟨hs0, hs1⟩ xs os ts hA1 hO hn0 how hT hmt)).mono fun e W' ⟨he, bel⟩ => ?_
  subst he
  exact ⟨_, rfl, _, _, _, [], _, [], hW', trodAll_mk1 (shut_bool Tryd.underlying4 _), trodAll_mk1 (Below.trod laidOut (by kernel_rfl) (of_decide_eq_true (by kernel_rfl)) h0k bel hlt), rfl, bel.frame _, fun h => by cases h⟩
theorem over : Rows.SmallHoldsSaid :=
  OpenClaim.holds_of_wide 3 Tryd.f3 rfl rfl rfl rfl rfl rfl rfl ⟨rfl, rfl, rfl, rfl, rfl⟩ rfl rfl rfl rfl rfl (by kernel_rfl) Tryd.func3 (by kernel_rfl)
    (of_decide_eq_true (by kernel_rfl)) (by unfold Func.isWrapper; first | (rw [if_pos (by decide +kernel)]; kernel_rfl) | (rw [if_neg (by decide +kernel)]; exact ⟨rfl, rfl⟩))
    (fun os started H enc _ => lifted os started H enc)
theorem proved : Rows.SmallHoldsCardSaid :=
  Claim7.holds_tied_plain_at .later [] Rows.smallHoldsCard.laidKinds true Rows.smallHoldsCard.stood.harness false over (fun _ h => by cases h) (by kernel_rfl) (fun _ h => by cases h) smallHolds_row_tie rfl ⟨rfl, rfl⟩ (by kernel_rfl) rfl
    (fun f fn hf hfn => by
      obtain rfl : f = 3 := Option.some.inj ((show Tryd.prog.funcNamed "larder/larderlaw11.SmallHolds" = some 3 by kernel_rfl).symm.trans hf) |>.symm
      obtain rfl : fn = Tryd.f3 := (Option.some.inj (Tryd.func3.symm.trans hfn)).symm
      exact ⟨by kernel_rfl, fun j t ht => by
        rw [Tryd.params3] at ht
        have hm : t ∈ [27] := by simpa using Array.mem_of_getElem? ht
        have hall : ([27].all fun u => !Tryd.prog.wantsStandIn u) = true := by kernel_rfl
        exact (show Tryd.prog.wantsStandIn t = false by simpa using List.all_eq_true.1 hall t hm)⟩)
    (by kernel_rfl)
#print axioms proved
end Go.Proofs.YtepkcjfmdenkcaaDoor.smallHolds
namespace Go.Proofs.YtepkcjfmdenkcaaDoor
/-- The card, under a short name, for the claim. -/
theorem smallHolds_holds : Rows.SmallHoldsCardSaid := smallHolds.proved
end Go.Proofs.YtepkcjfmdenkcaaDoor
