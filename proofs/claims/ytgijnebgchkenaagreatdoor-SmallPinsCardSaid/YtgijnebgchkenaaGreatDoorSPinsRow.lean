/- SmallPins answers true, whatever its arguments; no condition but that the package variables larder/oracle.odd and math/bits.deBruijn64tab start as the text lays them (both of which the card ties). -/
import Derived.Test.YtgijnebgchkenaaGreatDoorRow11
import Derived.Test.YtgijnebgchkenaaGreatDoorSPins
import Derived.Test.YtgijnebgchkenaaGreatDoorTie
import Derived.Test.YtgijnebgchkenaaGreatDoorCards
import Derived.SevenTiedAt
namespace Go.Proofs.YtgijnebgchkenaaGreatDoor.smallPins
open Go.ChangeShapes Go.WideShapes Go.ChangeAt Go.RowKit Go.Proofs Go.Proofs.YtgijnebgchkenaaGreatDoor.Eng Go.Proofs.YtgijnebgchkenaaGreatDoor.RowKit Go.Proofs.YtgijnebgchkenaaGreatDoor.Ref03 Go.Proofs.YtgijnebgchkenaaGreatDoor.BenchS Go.Proofs.YtgijnebgchkenaaGreatDoor.Oracle
set_option linter.unusedVariables false
set_option maxRecDepth 100000 in
/-- A slice of marks among the arguments. -/
theorem marks_old {H : Type} {enc : TypeId × Value → H} {W : World} {base : Nat} {held : Bool} {fuel : Nat} {sp : Nat → Bool} {cs : List Value} {x : DataW H × List MemPlace}
    (h : DataW.trod enc Tryz.prog W base sp held fuel 91 cs = some x) : ∃ v ts, cs = [v] ∧ MarksAt (Eng.old W) v ts ∧ ts.length ≤ maxLen ∧ ∀ t ∈ ts, markWf t := by
  obtain ⟨v, rows, rfl, hR, hm, hrow⟩ := rows_old (sz := 2) Tryz.underlying91 (by kernel_rfl) (by decide) h
  have c3 : Tryz.prog.cellsOf 3 = 1 := by kernel_rfl
  obtain ⟨ts, rfl, hw⟩ := rows_map (f := markC) (Q := markWf) rows fun r hr => by
    obtain ⟨m, y, hy⟩ := hrow r hr
    obtain ⟨xs, m', _, _, hcl, hxl, hfld⟩ := DataW.trod_struct Tryz.underlying96 hy
    have hx2 : xs.length = 2 := hxl
    have f0 : DataW.trod enc Tryz.prog W base sp held m' 3 ((r.drop 0).take (Tryz.prog.cellsOf 3)) = xs[0]? := hfld 0 _ rfl
    have f1 : DataW.trod enc Tryz.prog W base sp held m' 3 ((r.drop 1).take (Tryz.prog.cellsOf 3)) = xs[1]? := hfld 1 _ rfl
    rw [c3, List.getElem?_eq_getElem (by omega)] at f0 f1
    obtain ⟨z0, e0, _, _⟩ := DataW.trod_int Tryz.underlying3 f0
    obtain ⟨z1, e1, _, w1⟩ := DataW.trod_int Tryz.underlying3 f1
    have hl2 : r.length = 2 := hcl.trans (by kernel_rfl)
    match r, hl2 with
    | [a, b], _ =>
      refine ⟨(z0, z1), ?_, wf_i64 w1⟩
      simp at e0 e1
      rw [e0, e1]; rfl
  obtain ⟨a, cap, rfl, hA⟩ := hR
  refine ⟨_, ts, rfl, ⟨a, cap, by rw [List.length_map], fun q => ?_⟩, by simpa using hm, hw⟩
  obtain ⟨b, o, rfl, hA1⟩ := hA.1 (by simpa using q)
  exact ⟨b, o, rfl, fun i t ht j x hx => hA1 i (markC t) (by rw [List.getElem?_map, ht]; rfl) j x hx⟩
theorem own : ownKnob Tryz.prog.godebug = none := by kernel_rfl
set_option maxRecDepth 100000 in
theorem lifted (os : Os) (started : os.Started) (H : Type) (enc : TypeId × Value → H) :
    ReturnsInHanded {} Tryz.checked os 5 .any (fun w args => (Rows.smallPinsSpec.pre enc Tryz.prog Tryz.f5 Rows.smallPinsRow.domain false w args ∧ laidMetH Tryz.prog Rows.smallPinsRow.laid w) ∧ sizedMet enc Tryz.prog Tryz.f5 (OpenSpec.ofChange Rows.smallPinsSpec) false w args)
      (Rows.smallPinsSpec.post enc Tryz.prog Tryz.f5 false true false false) := by
  refine returnsInHanded_of_change_and (C := Tryz.checked) (X := fun w _ => laidMetH Tryz.prog Rows.smallPinsRow.laid w) (fun _ _ _ hh h => h.of_heap hh) own started (by kernel_rfl) Tryz.func5
    (ChangeSpec.witness_shaped (enc := enc) (C := Tryz.checked) (os := os) (X := fun w _ => laidMetH Tryz.prog Rows.smallPinsRow.laid w) false (World.laidAll Tryz.prog os Rows.smallPinsRow.laid) #[.agg #[.slice none 0 0, .slice none 0 0, .int .u64 0, .slice none 0 0], .slice none 0 0] 8 (World.laidAll_os _ _ _)
      (World.shaped_of_ZipB (by kernel_rfl) (by kernel_rfl)) (by kernel_rfl) (by kernel_rfl) (by kernel_rfl)
      (by rw [MakeChecks.laidMetH_plain _ _ _ (by kernel_rfl)]; exact laidMet_laidAll _ (by kernel_rfl) (by kernel_rfl))) ?_
  intro W base args ds gs before hval0 hW hc _ hL _
  have hval : ∀ (j : Nat) t v, Tryz.f5.params[j]? = some t → args[j]? = some v → Value.okWide Tryz.prog W .any base t v := hval0
  have hW' := hW
  obtain ⟨p, q, hA0, hV, rfl, hfz, hnd⟩ := hW
  have hA : DataW.TrodAll enc Tryz.prog W 0 (fun _ => true) true Tryz.f5.params.toList args.toList ds p := hA0
  rw [Tryz.params5] at hA hval
  obtain ⟨v0, v1, d0, d1, p0, p1, rfl, rfl, rfl, h0, h1⟩ := trodAll_two hA
  obtain ⟨rfl, rfl⟩ := trodVars_none hV
  have h0k := h0
  have h1k := h1
  obtain ⟨a1, l1, c1, rfl⟩ := okWide_slice Tryz.underlying91 (hval 1 91 v1 rfl rfl)
  obtain ⟨fuel1, hf1⟩ := h1
  obtain ⟨vm, ms, e1, hM, hmm, hmw⟩ := marks_old hf1
  obtain rfl : Value.slice a1 l1 c1 = vm := by simpa [Value.cells] using e1
  obtain ⟨cs, rfl, hcs⟩ := okWide_struct Tryz.underlying90 (hval 0 90 v0 rfl rfl)
  obtain ⟨fuel, hf⟩ := h0
  obtain ⟨vf, vo, vt, sd, xs, os, ts, rfl, hA1, hO, hn0, how, hT, hmt, hs0, hs1⟩ := plan11_old (cs := cs) (by rw [Array.length_toList]; exact hcs) rfl hf
  obtain ⟨hodd, htab⟩ := laid_both hL
  have hlt : ∀ x ∈ p0, x.block < W.heap.size := fun x hx => hW'.lt x (by simp [hx])
  have hlt1 : ∀ x ∈ p1, x.block < W.heap.size := fun x hx => hW'.lt x (by simp [hx])
  refine (fn_old (SmallPins_ok (Eng.old W) htab hodd vf vo vt _ sd ⟨hs0, hs1⟩ xs os ms hA1 hO hn0 how hM hmm hmw)).mono fun e W' ⟨he, bel⟩ => ?_
  subst he
  exact ⟨_, rfl, _, _, _, [], _, [], hW', trodAll_mk1 (shut_bool Tryz.underlying4 _), trodAll_mk2 (Below.trod laidOut (by kernel_rfl) (of_decide_eq_true (by kernel_rfl)) h0k bel hlt) (Below.trod laidOut (by kernel_rfl) (of_decide_eq_true (by kernel_rfl)) h1k bel hlt1), rfl, bel.frame _, fun h => by cases h⟩
theorem over : Rows.SmallPinsSaid :=
  OpenClaim.holds_of_wide 5 Tryz.f5 rfl rfl rfl rfl rfl rfl rfl ⟨rfl, rfl, rfl, rfl, rfl⟩ rfl rfl rfl rfl rfl (by kernel_rfl) Tryz.func5 (by kernel_rfl)
    (of_decide_eq_true (by kernel_rfl)) (by unfold Func.isWrapper; first | (rw [if_pos (by decide +kernel)]; kernel_rfl) | (rw [if_neg (by decide +kernel)]; exact ⟨rfl, rfl⟩))
    (fun os started H enc _ => lifted os started H enc)
theorem proved : Rows.SmallPinsCardSaid :=
  Claim7.holds_tied_plain_at .later [] Rows.smallPinsCard.laidKinds true Rows.smallPinsCard.stood.harness false over (fun _ h => by cases h) (by kernel_rfl) (fun _ h => by cases h) smallPins_row_tie rfl ⟨rfl, rfl⟩ (by kernel_rfl) rfl
    (fun f fn hf hfn => by
      obtain rfl : f = 5 := Option.some.inj ((show Tryz.prog.funcNamed "larder/larderlaw11.SmallPins" = some 5 by kernel_rfl).symm.trans hf) |>.symm
      obtain rfl : fn = Tryz.f5 := (Option.some.inj (Tryz.func5.symm.trans hfn)).symm
      exact ⟨by kernel_rfl, fun j t ht => by
        rw [Tryz.params5] at ht
        have hm : t ∈ [90, 91] := by simpa using Array.mem_of_getElem? ht
        have hall : ([90, 91].all fun u => !Tryz.prog.wantsStandIn u) = true := by kernel_rfl
        exact (show Tryz.prog.wantsStandIn t = false by simpa using List.all_eq_true.1 hall t hm)⟩)
    (by kernel_rfl)
#print axioms proved
end Go.Proofs.YtgijnebgchkenaaGreatDoor.smallPins
namespace Go.Proofs.YtgijnebgchkenaaGreatDoor
/-- The card, under a short name, for the claim. -/
theorem smallPins_holds : Rows.SmallPinsCardSaid := smallPins.proved
end Go.Proofs.YtgijnebgchkenaaGreatDoor
