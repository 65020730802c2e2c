/- What a call's arguments and the listed package variables read as, as facts on the piece 'all that lay there before'. -/
import Derived.Test.YtgijnebgchkenaaGreatDoorRef03
import Derived.Test.YtgijnebgchkenaaGreatDoorCtrl
import Derived.Test.YtgijnebgchkenaaGreatDoorRows
import Derived.WalkKit
import Derived.ProofKit
import Derived.OpenShut
import Derived.ShutString
import Derived.ChangeOld
import Derived.Below
import Derived.Carry
import Derived.SizedLaws
import Derived.LaidMore
import Derived.Lay
import Derived.Stop.Joined
set_option linter.unusedVariables false
set_option linter.unusedSimpArgs false
set_option maxRecDepth 100000
namespace Go.Proofs.YtgijnebgchkenaaGreatDoor.RowKit
open Go.ChangeShapes Go.WideShapes Go.ChangeAt Go.RowKit Go.Proofs Go.Proofs.YtgijnebgchkenaaGreatDoor.Eng Go.Proofs.YtgijnebgchkenaaGreatDoor.Ref03 Go.Proofs.YtgijnebgchkenaaGreatDoor.Ctrl Go.Proofs.YtgijnebgchkenaaGreatDoor.CtrlB

theorem laidOut : laidOutB Tryz.prog = true := by kernel_rfl
theorem cell_old {W : World} {a : Addr} {v : Value} (h : W.cell? a = some v) : CellAt (Eng.old W) a v := fun w hs => by
  obtain ⟨f, hi, rfl⟩ := hs
  have hb : ∃ o, W.heap[a.block]? = some o := by
    cases e : W.heap[a.block]? with
    | some o => exact ⟨o, rfl⟩
    | none => simp [World.cell?, e] at h
  obtain ⟨o, ho⟩ := hb
  have := hi a.block o ho
  rw [World.cell?_of_block (w := W) (by rw [this, ho])]
  exact h
/-- A contract on what lay there before: it is as it was. -/
theorem fn_old {P : Program} {f : FuncId} {args : Array Value} {v0 : Value} {W : World} (h : FnOk P f args [Eng.old W] fun v L => v = v0 ∧ L = [Eng.old W]) : Calls P f args W fun e W' => e = .returned v0 ∧ Below W.heap.size W W' := by
  have hs : Sat (stars ([Eng.old W] ++ [])) W := by
    obtain ⟨f, hi, e⟩ := Sat.old W
    exact ⟨f, hi, f, Part.none, e, rfl, Part.disj_none _, (Part.join_none _).symm⟩
  refine (callsIn_wide (n := 0)).1 ((h.calls [] W W hs (Ext.refl W)).mono ?_)
  rintro e W' ⟨v, L', rfl, ⟨rfl, rfl⟩, hs', he'⟩
  exact ⟨rfl, below_of_old hs'.left he'⟩
section
variable {H : Type} {enc : TypeId × Value → H} {P : Program} {W : World} {base : Nat} {held : Bool}
/-- A slice of numbers among the arguments. -/
theorem nums_old {t e : TypeId} {k : IntKind} {fuel : Nat} {cs : List Value} {x : DataW H × List MemPlace} (ht : P.underlying t = some (.slice e)) (he : P.underlying e = some (.int k)) (hc : P.cellsOf e = 1)
    (h : DataW.trod enc P W base (fun _ => true) held fuel t cs = some x) : ∃ v xs, cs = [v] ∧ NumsAt k (Eng.old W) v xs ∧ (∀ n ∈ xs, (Lit.int k n).wf = true) ∧ xs.length ≤ maxLen := by
  rcases open_ints ht he hc h with ⟨rfl, _⟩ | ⟨a, len, cap, zs, rfl, _, hl, hm, hz, _, hcell, hwf⟩
  · exact ⟨_, [], rfl, ⟨none, 0, rfl, fun q => by simp at q⟩, by simp, by simp [maxLen]⟩
  · simp only [if_true] at hz
    have hlen : (zs.take len).length = len := by simp; omega
    refine ⟨_, zs.take len, rfl, ⟨some a, cap, by rw [hlen], fun q => ?_⟩, fun n hn => hwf n (List.mem_of_mem_take hn), by omega⟩
    obtain ⟨b, o, rfl, hp⟩ := ints_at hcell (by omega)
    refine ⟨b, o, rfl, fun i x hx => cell_old ?_⟩
    rw [List.getElem?_take] at hx
    split at hx
    · have hi : i < zs.length := by omega
      rw [hp i hi, List.getD, hx]; rfl
    · cases hx
end
/-- The table of trailing zeros, as the rows lay it. -/
theorem gTab : Tryz.prog.globalNamed "math/bits.deBruijn64tab" = some 1 := by kernel_rfl
theorem tTab : (Tryz.prog.globals[1]?).map (·.type) = some 243 := by kernel_rfl
theorem tabDatum : (Rows.laid_math_bits_deBruijn64tab : DataW Unit) = .agg (dbt.map fun n => .lit (.int .u8 (n : Nat))) := by kernel_rfl
theorem tab_of {W : World} {enc : TypeId × Value → Unit} {g : Nat} {t : TypeId} {cs : Array Value} {fuel : Nat} {p : List MemPlace} {held : Bool} {sp : Nat → Bool} (hg : Tryz.prog.globalNamed "math/bits.deBruijn64tab" = some g) (ht : (Tryz.prog.globals[g]?).map (·.type) = some t)
    (hv : W.var? Tryz.prog "math/bits.deBruijn64tab" = some cs) (hd : DataW.trod enc Tryz.prog W 0 sp held fuel t cs.toList = some (Rows.laid_math_bits_deBruijn64tab, p)) : TabOk (Eng.old W) := fun i b hb => cell_old (by
  obtain rfl := Option.some.inj (gTab.symm.trans hg)
  obtain rfl := Option.some.inj (tTab.symm.trans ht)
  rw [tabDatum] at hd
  obtain ⟨xs, m, _, ex, _, hl, hel⟩ := DataW.trod_array Tryz.underlying243 hd
  have c5 : Tryz.prog.cellsOf 5 = 1 := by kernel_rfl
  have hlen : dbt.length = 64 := by kernel_rfl
  have hi : i < 64 := by rw [← hlen]; exact (List.getElem?_eq_some_iff.1 hb).1
  have hE := hel i hi
  rw [c5, Nat.mul_one, List.getElem?_eq_getElem (by omega)] at hE
  obtain ⟨z, e1, e2, _⟩ := DataW.trod_int Tryz.underlying5 hE
  have e3 : (xs.map (·.1)) = dbt.map fun n => .lit (.int .u8 (n : Nat)) := (DataW.agg.inj (Prod.mk.inj ex).1).symm
  have e4 : (xs.map (·.1))[i]? = (dbt.map fun n => (DataW.lit (.int .u8 (n : Nat)) : DataW Unit))[i]? := by rw [e3]
  rw [List.getElem?_map, List.getElem?_map, List.getElem?_eq_getElem (by omega : i < xs.length), hb, e2] at e4
  have hz : z = (b : Nat) := by simpa using e4
  rw [World.var?_cell gTab hv i, ← hz]
  have h0 : ((cs.toList.drop i).take 1)[0]? = some (.int .u8 z) := by rw [e1]; rfl
  simpa using h0)
/-- Whether a row with one plain variable is met. -/
theorem tab_laid {W : World} (h : laidMetH Tryz.prog [("math/bits.deBruijn64tab", Rows.laid_math_bits_deBruijn64tab)] W) : TabOk (Eng.old W) := by
  rw [MakeChecks.laidMetH_plain _ _ _ (by kernel_rfl)] at h
  obtain ⟨ps, ⟨g, t, cs, fuel, p, q, hg, ht, hv, hd, _, _⟩, _, _⟩ := h
  exact tab_of hg ht hv hd
theorem arr4 {cs : Array Value} (h : cs.toList.length = 4) : ∃ a b c d, cs = #[a, b, c, d] := by
  match hq : cs.toList, h with
  | [a, b, c, d], _ => exact ⟨a, b, c, d, by apply Array.ext'; simpa using hq⟩
end Go.Proofs.YtgijnebgchkenaaGreatDoor.RowKit
