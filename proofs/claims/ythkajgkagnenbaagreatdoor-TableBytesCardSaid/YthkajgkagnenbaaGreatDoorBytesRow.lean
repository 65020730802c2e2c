/- TableBytes answers true, whatever its arguments; no condition but that the package variable math/bits.deBruijn64tab starts as the text lays it (which the card ties). -/
import Derived.Test.YthkajgkagnenbaaGreatDoorRow08
import Derived.Test.YthkajgkagnenbaaGreatDoorBytesZ
import Derived.Test.YthkajgkagnenbaaGreatDoorTie
import Derived.Test.YthkajgkagnenbaaGreatDoorCards
import Derived.SevenTiedAt
namespace Go.Proofs.YthkajgkagnenbaaGreatDoor.tableBytes
open Go.ChangeShapes Go.WideShapes Go.ChangeAt Go.RowKit Go.Proofs Go.Proofs.YthkajgkagnenbaaGreatDoor.Eng Go.Proofs.YthkajgkagnenbaaGreatDoor.RowKit Go.Proofs.YthkajgkagnenbaaGreatDoor.Ref03 Go.Proofs.YthkajgkagnenbaaGreatDoor.Exact Go.Proofs.YthkajgkagnenbaaGreatDoor.BytesP
set_option linter.unusedVariables false
theorem own : ownKnob Tryz.prog.godebug = none := by kernel_rfl
set_option maxRecDepth 100000 in
theorem lifted (os : Os) (started : os.Started) (H : Type) (enc : TypeId × Value → H) :
  ReturnsInHanded {} Tryz.checked os 3 .any (fun w args => (Rows.tableBytesSpec.pre enc Tryz.prog Tryz.f3 Rows.tableBytesRow.domain false w args ∧ laidMetH Tryz.prog Rows.tableBytesRow.laid w) ∧ sizedMet enc Tryz.prog Tryz.f3 (OpenSpec.ofChange Rows.tableBytesSpec) false w args)
   (Rows.tableBytesSpec.post enc Tryz.prog Tryz.f3 false true false false) := by
 refine returnsInHanded_of_change_and (C := Tryz.checked) (X := fun w _ => laidMetH Tryz.prog Rows.tableBytesRow.laid w) (fun _ _ _ hh h => h.of_heap hh) own started (by kernel_rfl) Tryz.func3
  (ChangeSpec.witness_shaped (enc := enc) (C := Tryz.checked) (os := os) (X := fun w _ => laidMetH Tryz.prog Rows.tableBytesRow.laid w) false (World.laidAll Tryz.prog os Rows.tableBytesRow.laid) #[.slice none 0 0, .int .i64 0, .slice none 0 0] 8 (World.laidAll_os _ _ _)
   (World.shaped_of_ZipB (by kernel_rfl) (by kernel_rfl)) (by kernel_rfl) (by kernel_rfl) (by kernel_rfl)
   (by rw [MakeChecks.laidMetH_plain _ _ _ (by kernel_rfl)]; exact laidMet_laidAll _ (by kernel_rfl) (by kernel_rfl))) ?_
 intro W base args ds gs before hval0 hW hc hsz hL _
 have hval : ∀ (j : Nat) t v, Tryz.f3.params[j]? = some t → args[j]? = some v → Value.okWide Tryz.prog W .any base t v := hval0
 have hW' := hW
 obtain ⟨p, q, hA0, hV, rfl, hfz, hnd⟩ := hW
 have hA : DataW.TrodAll enc Tryz.prog W 0 (fun _ => true) true Tryz.f3.params.toList args.toList ds p := hA0
 rw [Tryz.params3] at hA hval
 obtain ⟨v0, v1, v2, d0, d1, d2, p0, p1, p2, rfl, rfl, rfl, h0, h1, h2⟩ := trodAll_three hA
 obtain ⟨rfl, rfl⟩ := trodVars_none hV
 have h0k := h0
 have h1k := h1
 have h2k := h2
 obtain ⟨zw, rfl⟩ := okWide_int Tryz.underlying3 (hval 1 3 v1 rfl rfl)
 obtain ⟨fuel1, hf1⟩ := h1
 obtain ⟨zw', ezw, _, wzw⟩ := DataW.trod_int Tryz.underlying3 hf1
 obtain rfl : zw = zw' := by simpa [Value.cells] using ezw
 obtain ⟨a0, n0, c0, rfl⟩ := okWide_slice Tryz.underlying22 (hval 0 22 v0 rfl rfl)
 obtain ⟨fuel0, hf0⟩ := h0
 obtain ⟨vf, xs, evf, hNum, _, _⟩ := nums_old Tryz.underlying22 Tryz.underlying3 (by kernel_rfl) hf0
 obtain rfl : (.slice a0 n0 c0 : Value) = vf := by simpa [Value.cells] using evf
 obtain ⟨a2, n2, c2, rfl⟩ := okWide_slice Tryz.underlying23 (hval 2 23 v2 rfl rfl)
 obtain ⟨fuel2, hf2⟩ := h2
 obtain ⟨vs, os', evs, hOps, _, how, hlen⟩ := ops_old hf2
 obtain rfl : (.slice a2 n2 c2 : Value) = vs := by simpa [Value.cells] using evs
 have hmx : os'.length * 72 ≤ 140737488351232 := by
  rcases hlen with h | ⟨es, sp', h, hl⟩
  ·rw [h]; decide
  ·obtain rfl : d2 = .slice es sp' := h
   have h72 : Tryz.prog.bytesOf 29 = 72 := by kernel_rfl
   have hw : (es.length + sp'.length) * Tryz.prog.bytesOf 29 ≤ reachBytes := sized_slice hsz (j := 2) (t := 23) (e := 29) (by rw [Tryz.params3]; rfl) rfl Tryz.underlying23
   rw [h72] at hw
   have hr : reachBytes = 140737488351232 := by decide
   rw [hr, hl] at hw
   have : os'.length * 72 ≤ (os'.length + sp'.length) * 72 := Nat.mul_le_mul_right _ (by omega)
   omega
 have hlt : ∀ x ∈ p0, x.block < W.heap.size := fun x hx => hW'.lt x (by simp [hx])
 have hlt2 : ∀ x ∈ p2, x.block < W.heap.size := fun x hx => hW'.lt x (by simp [hx])
 have hlt1 : ∀ x ∈ p1, x.block < W.heap.size := fun x hx => hW'.lt x (by simp [hx])
 refine (fn_old (TableBytes_ok (Eng.old W) (tab_laid hL) _ _ xs os' hNum hOps hmx how zw)).mono fun e W' ⟨he, bel⟩ => ?_
 subst he
 exact ⟨_, rfl, _, _, _, [], _, [], hW', trodAll_mk1 (shut_bool Tryz.underlying4 _), trodAll_mk3 (Below.trod laidOut (by kernel_rfl) (of_decide_eq_true (by kernel_rfl)) h0k bel hlt) (Below.trod laidOut (by kernel_rfl) (of_decide_eq_true (by kernel_rfl)) h1k bel hlt1) (Below.trod laidOut (by kernel_rfl) (of_decide_eq_true (by kernel_rfl)) h2k bel hlt2), rfl, bel.frame _, fun h => by cases h⟩
theorem over : Rows.TableBytesSaid :=
 OpenClaim.holds_of_wide 3 Tryz.f3 rfl rfl rfl rfl rfl rfl rfl ⟨rfl, rfl, rfl, rfl, rfl⟩ rfl rfl rfl rfl rfl (by kernel_rfl) Tryz.func3 (by kernel_rfl)
  (of_decide_eq_true (by kernel_rfl)) (by unfold Func.isWrapper; first | (rw [if_pos (by decide +kernel)]; kernel_rfl) | (rw [if_neg (by decide +kernel)]; exact ⟨rfl, rfl⟩))
  (fun os started H enc _ => lifted os started H enc)
theorem proved : Rows.TableBytesCardSaid :=
 Claim7.holds_tied_plain_at .later [] Rows.tableBytesCard.laidKinds true Rows.tableBytesCard.stood.harness false over (fun _ h => by cases h) (by kernel_rfl) (fun _ h => by cases h) tableBytes_row_tie rfl ⟨rfl, rfl⟩ (by kernel_rfl) rfl
  (fun f fn hf hfn => by
   obtain rfl : f = 3 := Option.some.inj ((show Tryz.prog.funcNamed "larder/larderlaw08.TableBytes" = some 3 by kernel_rfl).symm.trans hf) |>.symm
   obtain rfl : fn = Tryz.f3 := (Option.some.inj (Tryz.func3.symm.trans hfn)).symm
   exact ⟨by kernel_rfl, fun j t ht => by
    rw [Tryz.params3] at ht
    have hm : t ∈ [22, 3, 23] := by simpa using Array.mem_of_getElem? ht
    have hall : ([22, 3, 23].all fun u => !Tryz.prog.wantsStandIn u) = true := by kernel_rfl
    exact (show Tryz.prog.wantsStandIn t = false by simpa using List.all_eq_true.1 hall t hm)⟩)
  (by kernel_rfl)
#print axioms proved
end Go.Proofs.YthkajgkagnenbaaGreatDoor.tableBytes
namespace Go.Proofs.YthkajgkagnenbaaGreatDoor
/-- The card, under a short name, for the claim. -/
theorem tableBytes_holds : Rows.TableBytesCardSaid := tableBytes.proved
end Go.Proofs.YthkajgkagnenbaaGreatDoor
