/- TablePins answers true, whatever its argument; no condition but that the package variable math/bits.deBruijn64tab starts as the text lays it (which the card ties). -/
import Derived.Test.YthdmlgnhmbobaaaDoorRowMore
import Derived.Test.YthdmlgnhmbobaaaDoorPins
import Derived.Test.YthdmlgnhmbobaaaDoorTie
import Derived.Test.YthdmlgnhmbobaaaDoorCards
import Derived.SevenTiedAt
namespace Go.Proofs.YthdmlgnhmbobaaaDoor.tablePins
open Go.ChangeShapes Go.WideShapes Go.ChangeAt Go.RowKit Go.Proofs Go.Proofs.YthdmlgnhmbobaaaDoor.Eng Go.Proofs.YthdmlgnhmbobaaaDoor.RowKit Go.Proofs.YthdmlgnhmbobaaaDoor.Ref03 Go.Proofs.YthdmlgnhmbobaaaDoor.Bench
set_option linter.unusedVariables false
set_option maxRecDepth 100000 in
/-- A slice of marks among the arguments. -/
theorem marks_old {H : Type} {enc : TypeId × Value → H} {W : World} {base : Nat} {held : Bool} {fuel : Nat} {sp : Nat → Bool} {cs : List Value} {x : DataW H × List MemPlace}
    (h : DataW.trod enc Tryd.prog W base sp held fuel 57 cs = some x) : ∃ v ts, cs = [v] ∧ MarksAt (Eng.old W) v ts ∧ ts.length ≤ maxLen ∧ ∀ t ∈ ts, markWf t := by
  obtain ⟨v, rows, rfl, hR, hm, hrow⟩ := rows_old (sz := 2) Tryd.underlying57 (by kernel_rfl) (by decide) h
  have c3 : Tryd.prog.cellsOf 3 = 1 := by kernel_rfl
  obtain ⟨ts, rfl, hw⟩ := rows_map (f := markC) (Q := markWf) rows fun r hr => by
    obtain ⟨m, y, hy⟩ := hrow r hr
    obtain ⟨xs, m', _, _, hcl, hxl, hfld⟩ := DataW.trod_struct Tryd.underlying66 hy
    have hx2 : xs.length = 2 := hxl
    have f0 : DataW.trod enc Tryd.prog W base sp held m' 3 ((r.drop 0).take (Tryd.prog.cellsOf 3)) = xs[0]? := hfld 0 _ rfl
    have f1 : DataW.trod enc Tryd.prog W base sp held m' 3 ((r.drop 1).take (Tryd.prog.cellsOf 3)) = xs[1]? := hfld 1 _ rfl
    rw [c3, List.getElem?_eq_getElem (by omega)] at f0 f1
    obtain ⟨z0, e0, _, _⟩ := DataW.trod_int Tryd.underlying3 f0
    obtain ⟨z1, e1, _, w1⟩ := DataW.trod_int Tryd.underlying3 f1
    have hl2 : r.length = 2 := hcl.trans (by kernel_rfl)
    match r, hl2 with
    | [a, b], _ =>
      refine ⟨(z0, z1), ?_, wf_i64 w1⟩
      simp at e0 e1
      rw [e0, e1]; rfl
  obtain ⟨a, cap, rfl, hA⟩ := hR
  refine ⟨_, ts, rfl, ⟨a, cap, by rw [List.length_map], fun q => ?_⟩, by simpa using hm, hw⟩
  obtain ⟨b, o, rfl, hA1⟩ := hA (by simpa using q)
  exact ⟨b, o, rfl, fun i t ht j x hx => hA1 i (markC t) (by rw [List.getElem?_map, ht]; rfl) j x hx⟩
theorem own : ownKnob Tryd.prog.godebug = none := by kernel_rfl
set_option maxRecDepth 100000 in
theorem lifted (os : Os) (started : os.Started) (H : Type) (enc : TypeId × Value → H) :
    ReturnsInHanded {} Tryd.checked os 5 .any (fun w args => (Rows.tablePinsSpec.pre enc Tryd.prog Tryd.f5 Rows.tablePinsRow.domain false w args ∧ laidMetH Tryd.prog Rows.tablePinsRow.laid w) ∧ sizedMet enc Tryd.prog Tryd.f5 (OpenSpec.ofChange Rows.tablePinsSpec) false w args)
      (Rows.tablePinsSpec.post enc Tryd.prog Tryd.f5 false true false false) := by
  refine returnsInHanded_of_change_and (C := Tryd.checked) (X := fun w _ => laidMetH Tryd.prog Rows.tablePinsRow.laid w) (fun _ _ _ hh h => h.of_heap hh) own started (by kernel_rfl) Tryd.func5
    (ChangeSpec.witness_shaped (enc := enc) (C := Tryd.checked) (os := os) (X := fun w _ => laidMetH Tryd.prog Rows.tablePinsRow.laid w) false (World.laidAll Tryd.prog os Rows.tablePinsRow.laid) #[.slice none 0 0, .slice none 0 0] 8 (World.laidAll_os _ _ _)
      (World.shaped_of_ZipB (by kernel_rfl) (by kernel_rfl)) (by kernel_rfl) (by kernel_rfl) (by kernel_rfl)
      (by rw [MakeChecks.laidMetH_plain _ _ _ (by kernel_rfl)]; exact laidMet_laidAll _ (by kernel_rfl) (by kernel_rfl))) ?_
  intro W base args ds gs before hval0 hW hc _ hL _
  have hval : ∀ (j : Nat) t v, Tryd.f5.params[j]? = some t → args[j]? = some v → Value.okWide Tryd.prog W .any base t v := hval0
  have hW' := hW
  obtain ⟨p, q, hA0, hV, rfl, hfz, hnd⟩ := hW
  have hA : DataW.TrodAll enc Tryd.prog W 0 (fun _ => true) true Tryd.f5.params.toList args.toList ds p := hA0
  rw [Tryd.params5] at hA hval
  obtain ⟨v0, v1, d0, d1, p0, p1, rfl, rfl, rfl, h0, h1⟩ := trodAll_two hA
  obtain ⟨rfl, rfl⟩ := trodVars_none hV
  have h0k := h0
  have h1k := h1
  have c3 : Tryd.prog.cellsOf 3 = 1 := by kernel_rfl
  obtain ⟨a0, l0, c0, rfl⟩ := okWide_slice Tryd.underlying22 (hval 0 22 v0 rfl rfl)
  obtain ⟨a1, l1, c1, rfl⟩ := okWide_slice Tryd.underlying57 (hval 1 57 v1 rfl rfl)
  obtain ⟨fuel, hf⟩ := h0
  obtain ⟨fuel1, hf1⟩ := h1
  obtain ⟨vf, xs, e0, hA1, _, _⟩ := nums_old Tryd.underlying22 Tryd.underlying3 c3 hf
  obtain ⟨vm, ts, e1, hM, hmt, htw⟩ := marks_old hf1
  obtain rfl : .slice a0 l0 c0 = vf := by simpa [Value.cells] using e0
  obtain rfl : .slice a1 l1 c1 = vm := by simpa [Value.cells] using e1
  have hlt : ∀ x ∈ p0, x.block < W.heap.size := fun x hx => hW'.lt x (by simp [hx])
  have hlt1 : ∀ x ∈ p1, x.block < W.heap.size := fun x hx => hW'.lt x (by simp [hx])
  refine (fn_old (TablePins_ok (Eng.old W) (tab_laid hL) _ _ xs ts hA1 hM hmt htw)).mono fun e W' ⟨he, bel⟩ => ?_
  subst he
  exact ⟨_, rfl, _, _, _, [], _, [], hW', trodAll_mk1 (shut_bool Tryd.underlying4 _), trodAll_mk2 (Below.trod laidOut (by kernel_rfl) (of_decide_eq_true (by kernel_rfl)) h0k bel hlt) (Below.trod laidOut (by kernel_rfl) (of_decide_eq_true (by kernel_rfl)) h1k bel hlt1), rfl, bel.frame _, fun h => by cases h⟩
theorem over : Rows.TablePinsSaid :=
  OpenClaim.holds_of_wide 5 Tryd.f5 rfl rfl rfl rfl rfl rfl rfl ⟨rfl, rfl, rfl, rfl, rfl⟩ rfl rfl rfl rfl rfl (by kernel_rfl) Tryd.func5 (by kernel_rfl)
    (of_decide_eq_true (by kernel_rfl)) (by unfold Func.isWrapper; first | (rw [if_pos (by decide +kernel)]; kernel_rfl) | (rw [if_neg (by decide +kernel)]; exact ⟨rfl, rfl⟩))
    (fun os started H enc _ => lifted os started H enc)
theorem proved : Rows.TablePinsCardSaid :=
  Claim7.holds_tied_plain_at .later [] Rows.tablePinsCard.laidKinds true Rows.tablePinsCard.stood.harness false over (fun _ h => by cases h) (by kernel_rfl) (fun _ h => by cases h) tablePins_row_tie rfl ⟨rfl, rfl⟩ (by kernel_rfl) rfl
    (fun f fn hf hfn => by
      obtain rfl : f = 5 := Option.some.inj ((show Tryd.prog.funcNamed "larder/larderlaw08.TablePins" = some 5 by kernel_rfl).symm.trans hf) |>.symm
      obtain rfl : fn = Tryd.f5 := (Option.some.inj (Tryd.func5.symm.trans hfn)).symm
      exact ⟨by kernel_rfl, fun j t ht => by
        rw [Tryd.params5] at ht
        have hm : t ∈ [22, 57] := by simpa using Array.mem_of_getElem? ht
        have hall : ([22, 57].all fun u => !Tryd.prog.wantsStandIn u) = true := by kernel_rfl
        exact (show Tryd.prog.wantsStandIn t = false by simpa using List.all_eq_true.1 hall t hm)⟩)
    (by kernel_rfl)
#print axioms proved
end Go.Proofs.YthdmlgnhmbobaaaDoor.tablePins
namespace Go.Proofs.YthdmlgnhmbobaaaDoor
/-- The card, under a short name, for the claim. -/
theorem tablePins_holds : Rows.TablePinsCardSaid := tablePins.proved
end Go.Proofs.YthdmlgnhmbobaaaDoor
