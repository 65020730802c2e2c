import Derived.Test.YtgijnebgchkenaaGreatDoorGrowD
import Derived.Test.YtgijnebgchkenaaGreatDoorRefused
import Derived.Test.YtgijnebgchkenaaGreatDoorTie
import Derived.Test.YtgijnebgchkenaaGreatDoorCards
import Derived.SevenTiedAt
/- GrowRefused answers true, whatever its arguments; no condition but that the package variables larder/oracle.odd and math/bits.deBruijn64tab start as the text lays them (both of which the card ties). -/
namespace Go.Proofs.YtgijnebgchkenaaGreatDoor.growRefused
open Go.ChangeShapes Go.WideShapes Go.ChangeAt Go.RowKit Go.Proofs Go.Proofs.YtgijnebgchkenaaGreatDoor.Eng Go.Proofs.YtgijnebgchkenaaGreatDoor.RowKit Go.Proofs.YtgijnebgchkenaaGreatDoor.Ref03 Go.Proofs.YtgijnebgchkenaaGreatDoor.Grow Go.Proofs.YtgijnebgchkenaaGreatDoor.Oracle
set_option linter.unusedVariables false
theorem own : ownKnob Tryz.prog.godebug = none := by kernel_rfl
set_option maxRecDepth 100000 in
theorem lifted (os : Os) (started : os.Started) (H : Type) (enc : TypeId × Value → H) :
    ReturnsInHanded {} Tryz.checked os 4 .any (fun w args => (Rows.growRefusedSpec.pre enc Tryz.prog Tryz.f4 Rows.growRefusedRow.domain false w args ∧ laidMetH Tryz.prog Rows.growRefusedRow.laid w) ∧ sizedMet enc Tryz.prog Tryz.f4 (OpenSpec.ofChange Rows.growRefusedSpec) false w args)
      (Rows.growRefusedSpec.post enc Tryz.prog Tryz.f4 false true false false) := by
  refine returnsInHanded_of_change_and (C := Tryz.checked) (X := fun w _ => laidMetH Tryz.prog Rows.growRefusedRow.laid w) (fun _ _ _ hh h => h.of_heap hh) own started (by kernel_rfl) Tryz.func4
    (ChangeSpec.witness_shaped (enc := enc) (C := Tryz.checked) (os := os) (X := fun w _ => laidMetH Tryz.prog Rows.growRefusedRow.laid w) false (World.laidAll Tryz.prog os Rows.growRefusedRow.laid) #[.agg #[.int .u64 0, .int .i64 0, .int .i64 0, .slice none 0 0, .slice none 0 0], .int .i64 0, .int .i64 0] 8 (World.laidAll_os _ _ _)
      (World.shaped_of_ZipB (by kernel_rfl) (by kernel_rfl)) (by kernel_rfl) (by kernel_rfl) (by kernel_rfl)
      (by rw [MakeChecks.laidMetH_plain _ _ _ (by kernel_rfl)]; exact laidMet_laidAll _ (by kernel_rfl) (by kernel_rfl))) ?_
  intro W base args ds gs before hval0 hW hc _ hL _
  have hval : ∀ (j : Nat) t v, Tryz.f4.params[j]? = some t → args[j]? = some v → Value.okWide Tryz.prog W .any base t v := hval0
  have hW' := hW
  obtain ⟨p, q, hA0, hV, rfl, hfz, hnd⟩ := hW
  have hA : DataW.TrodAll enc Tryz.prog W 0 (fun _ => true) true Tryz.f4.params.toList args.toList ds p := hA0
  rw [Tryz.params4] at hA hval
  obtain ⟨v0, v1, v2, d0, d1, d2, p0, p1, p2, rfl, rfl, rfl, h0, h1, h2⟩ := trodAll_three hA
  obtain ⟨rfl, rfl⟩ := trodVars_none hV
  have h0k := h0
  have h1k := h1
  have h2k := h2
  obtain ⟨zw, rfl⟩ := okWide_int Tryz.underlying3 (hval 1 3 v1 rfl rfl)
  obtain ⟨fuel1, hf1⟩ := h1
  obtain ⟨zw', ezw, _, wzw⟩ := DataW.trod_int Tryz.underlying3 hf1
  obtain rfl : zw = zw' := by simpa [Value.cells] using ezw
  obtain ⟨zy, rfl⟩ := okWide_int Tryz.underlying3 (hval 2 3 v2 rfl rfl)
  obtain ⟨fuel2, hf2⟩ := h2
  obtain ⟨zy', ezy, _, wzy⟩ := DataW.trod_int Tryz.underlying3 hf2
  obtain rfl : zy = zy' := by simpa [Value.cells] using ezy
  obtain ⟨cs, rfl, hcs⟩ := okWide_struct Tryz.underlying72 (hval 0 72 v0 rfl rfl)
  obtain ⟨fuel, hf⟩ := h0
  obtain ⟨seed, size, depth, vh, vs, hs, ts, rfl, hLf⟩ := life_old (cs := cs) (by rw [Array.length_toList]; exact hcs) rfl hf
  obtain ⟨hodd, htab⟩ := laid_both hL
  have hlt : ∀ x ∈ p0, x.block < W.heap.size := fun x hx => hW'.lt x (by simp [hx])
  have hlt2 : ∀ x ∈ p2, x.block < W.heap.size := fun x hx => hW'.lt x (by simp [hx])
  have hlt1 : ∀ x ∈ p1, x.block < W.heap.size := fun x hx => hW'.lt x (by simp [hx])
  refine (fn_old (GrowRefused_ok (Eng.old W) htab hodd seed size depth vh vs hs ts hLf zw zy (wf_i64 wzw) (wf_i64 wzy))).mono fun e W' ⟨he, bel⟩ => ?_
  subst he
  exact ⟨_, rfl, _, _, _, [], _, [], hW', trodAll_mk1 (shut_bool Tryz.underlying4 _), trodAll_mk3 (Below.trod laidOut (by kernel_rfl) (of_decide_eq_true (by kernel_rfl)) h0k bel hlt) (Below.trod laidOut (by kernel_rfl) (of_decide_eq_true (by kernel_rfl)) h1k bel hlt1) (Below.trod laidOut (by kernel_rfl) (of_decide_eq_true (by kernel_rfl)) h2k bel hlt2), rfl, bel.frame _, fun h => by cases h⟩
theorem over : Rows.GrowRefusedSaid :=
  OpenClaim.holds_of_wide 4 Tryz.f4 rfl rfl rfl rfl rfl rfl rfl ⟨rfl, rfl, rfl, rfl, rfl⟩ rfl rfl rfl rfl rfl (by kernel_rfl) Tryz.func4 (by kernel_rfl)
    (of_decide_eq_true (by kernel_rfl)) (by unfold Func.isWrapper; first | (rw [if_pos (by decide +kernel)]; kernel_rfl) | (rw [if_neg (by decide +kernel)]; exact ⟨rfl, rfl⟩))
    (fun os started H enc _ => lifted os started H enc)
theorem proved : Rows.GrowRefusedCardSaid :=
  Claim7.holds_tied_plain_at .later [] Rows.growRefusedCard.laidKinds true Rows.growRefusedCard.stood.harness false over (fun _ h => by cases h) (by kernel_rfl) (fun _ h => by cases h) growRefused_row_tie rfl ⟨rfl, rfl⟩ (by kernel_rfl) rfl
    (fun f fn hf hfn => by
      obtain rfl : f = 4 := Option.some.inj ((show Tryz.prog.funcNamed "larder/larderlaw09.GrowRefused" = some 4 by kernel_rfl).symm.trans hf) |>.symm
      obtain rfl : fn = Tryz.f4 := (Option.some.inj (Tryz.func4.symm.trans hfn)).symm
      exact ⟨by kernel_rfl, fun j t ht => by
        rw [Tryz.params4] at ht
        have hm : t ∈ [72, 3, 3] := by simpa using Array.mem_of_getElem? ht
        have hall : ([72, 3, 3].all fun u => !Tryz.prog.wantsStandIn u) = true := by kernel_rfl
        exact (show Tryz.prog.wantsStandIn t = false by simpa using List.all_eq_true.1 hall t hm)⟩)
    (by kernel_rfl)
#print axioms proved
end Go.Proofs.YtgijnebgchkenaaGreatDoor.growRefused
namespace Go.Proofs.YtgijnebgchkenaaGreatDoor
/-- The card, under a short name, for the claim. -/
theorem growRefused_holds : Rows.GrowRefusedCardSaid := growRefused.proved
end Go.Proofs.YtgijnebgchkenaaGreatDoor
