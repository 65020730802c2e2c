import Derived.Test.YtgijnebgchkenaaGreatDoorRef03
import Derived.Test.YtgijnebgchkenaaGreatDoorCtrl
import Derived.Test.YtgijnebgchkenaaGreatDoorRows
import Derived.WalkKit
import Derived.ProofKit
import Derived.OpenShut
import Derived.ShutString
import Derived.ChangeOld
import Derived.Below
import Derived.Carry
import Derived.SizedLaws
import Derived.LaidMore
import Derived.Lay
import Derived.Stop.Joined
section
/- What a call's arguments and the listed package variables read as, as facts on the piece 'all that lay there before'. -/
set_option linter.unusedVariables false
set_option linter.unusedSimpArgs false
set_option maxRecDepth 100000
namespace Go.Proofs.YtgijnebgchkenaaGreatDoor.RowKit
open Go.ChangeShapes Go.WideShapes Go.ChangeAt Go.RowKit Go.Proofs Go.Proofs.YtgijnebgchkenaaGreatDoor.Eng Go.Proofs.YtgijnebgchkenaaGreatDoor.Ref03 Go.Proofs.YtgijnebgchkenaaGreatDoor.Ctrl Go.Proofs.YtgijnebgchkenaaGreatDoor.CtrlB

theorem laidOut : laidOutB Tryz.prog = true := by kernel_rfl
theorem cell_old {W : World} {a : Addr} {v : Value} (h : W.cell? a = some v) : CellAt (Eng.old W) a v := fun w hs => by
  obtain ⟨f, hi, rfl⟩ := hs
  have hb : ∃ o, W.heap[a.block]? = some o := by
    cases e : W.heap[a.block]? with
    | some o => exact ⟨o, rfl⟩
    | none => simp [World.cell?, e] at h
  obtain ⟨o, ho⟩ := hb
  have := hi a.block o ho
  rw [World.cell?_of_block (w := W) (by rw [this, ho])]
  exact h
/-- A contract on what lay there before: it is as it was. -/
theorem fn_old {P : Program} {f : FuncId} {args : Array Value} {v0 : Value} {W : World} (h : FnOk P f args [Eng.old W] fun v L => v = v0 ∧ L = [Eng.old W]) : Calls P f args W fun e W' => e = .returned v0 ∧ Below W.heap.size W W' := by
  have hs : Sat (stars ([Eng.old W] ++ [])) W := by
    obtain ⟨f, hi, e⟩ := Sat.old W
    exact ⟨f, hi, f, Part.none, e, rfl, Part.disj_none _, (Part.join_none _).symm⟩
  refine (callsIn_wide (n := 0)).1 ((h.calls [] W W hs (Ext.refl W)).mono ?_)
  rintro e W' ⟨v, L', rfl, ⟨rfl, rfl⟩, hs', he'⟩
  exact ⟨rfl, below_of_old hs'.left he'⟩
section
variable {H : Type} {enc : TypeId × Value → H} {P : Program} {W : World} {base : Nat} {held : Bool}
/-- A slice of numbers among the arguments. -/
theorem nums_old {t e : TypeId} {k : IntKind} {fuel : Nat} {cs : List Value} {x : DataW H × List MemPlace} (ht : P.underlying t = some (.slice e)) (he : P.underlying e = some (.int k)) (hc : P.cellsOf e = 1)
    (h : DataW.trod enc P W base (fun _ => true) held fuel t cs = some x) : ∃ v xs, cs = [v] ∧ NumsAt k (Eng.old W) v xs ∧ (∀ n ∈ xs, (Lit.int k n).wf = true) ∧ xs.length ≤ maxLen := by
  rcases open_ints ht he hc h with ⟨rfl, _⟩ | ⟨a, len, cap, zs, rfl, _, hl, hm, hz, _, hcell, hwf⟩
  · exact ⟨_, [], rfl, ⟨none, 0, rfl, fun q => by simp at q⟩, by simp, by simp [maxLen]⟩
  · simp only [if_true] at hz
    have hlen : (zs.take len).length = len := by simp; omega
    refine ⟨_, zs.take len, rfl, ⟨some a, cap, by rw [hlen], fun q => ?_⟩, fun n hn => hwf n (List.mem_of_mem_take hn), by omega⟩
    obtain ⟨b, o, rfl, hp⟩ := ints_at hcell (by omega)
    refine ⟨b, o, rfl, fun i x hx => cell_old ?_⟩
    rw [List.getElem?_take] at hx
    split at hx
    · have hi : i < zs.length := by omega
      rw [hp i hi, List.getD, hx]; rfl
    · cases hx
end
/-- The table of trailing zeros, as the rows lay it. -/
theorem gTab : Tryz.prog.globalNamed "math/bits.deBruijn64tab" = some 1 := by kernel_rfl
theorem tTab : (Tryz.prog.globals[1]?).map (·.type) = some 243 := by kernel_rfl
theorem tabDatum : (Rows.laid_math_bits_deBruijn64tab : DataW Unit) = .agg (dbt.map fun n => .lit (.int .u8 (n : Nat))) := by kernel_rfl
theorem tab_of {W : World} {enc : TypeId × Value → Unit} {g : Nat} {t : TypeId} {cs : Array Value} {fuel : Nat} {p : List MemPlace} {held : Bool} {sp : Nat → Bool} (hg : Tryz.prog.globalNamed "math/bits.deBruijn64tab" = some g) (ht : (Tryz.prog.globals[g]?).map (·.type) = some t)
    (hv : W.var? Tryz.prog "math/bits.deBruijn64tab" = some cs) (hd : DataW.trod enc Tryz.prog W 0 sp held fuel t cs.toList = some (Rows.laid_math_bits_deBruijn64tab, p)) : TabOk (Eng.old W) := fun i b hb => cell_old (by
  obtain rfl := Option.some.inj (gTab.symm.trans hg)
  obtain rfl := Option.some.inj (tTab.symm.trans ht)
  rw [tabDatum] at hd
  obtain ⟨xs, m, _, ex, _, hl, hel⟩ := DataW.trod_array Tryz.underlying243 hd
  have c5 : Tryz.prog.cellsOf 5 = 1 := by kernel_rfl
  have hlen : dbt.length = 64 := by kernel_rfl
  have hi : i < 64 := by rw [← hlen]; exact (List.getElem?_eq_some_iff.1 hb).1
  have hE := hel i hi
  rw [c5, Nat.mul_one, List.getElem?_eq_getElem (by omega)] at hE
  obtain ⟨z, e1, e2, _⟩ := DataW.trod_int Tryz.underlying5 hE
  have e3 : (xs.map (·.1)) = dbt.map fun n => .lit (.int .u8 (n : Nat)) := (DataW.agg.inj (Prod.mk.inj ex).1).symm
  have e4 : (xs.map (·.1))[i]? = (dbt.map fun n => (DataW.lit (.int .u8 (n : Nat)) : DataW Unit))[i]? := by rw [e3]
  rw [List.getElem?_map, List.getElem?_map, List.getElem?_eq_getElem (by omega : i < xs.length), hb, e2] at e4
  have hz : z = (b : Nat) := by simpa using e4
  rw [World.var?_cell gTab hv i, ← hz]
  have h0 : ((cs.toList.drop i).take 1)[0]? = some (.int .u8 z) := by rw [e1]; rfl
  simpa using h0)
/-- Whether a row with one plain variable is met. -/
theorem tab_laid {W : World} (h : laidMetH Tryz.prog [("math/bits.deBruijn64tab", Rows.laid_math_bits_deBruijn64tab)] W) : TabOk (Eng.old W) := by
  rw [MakeChecks.laidMetH_plain _ _ _ (by kernel_rfl)] at h
  obtain ⟨ps, ⟨g, t, cs, fuel, p, q, hg, ht, hv, hd, _, _⟩, _, _⟩ := h
  exact tab_of hg ht hv hd
theorem arr4 {cs : Array Value} (h : cs.toList.length = 4) : ∃ a b c d, cs = #[a, b, c, d] := by
  match hq : cs.toList, h with
  | [a, b, c, d], _ => exact ⟨a, b, c, d, by apply Array.ext'; simpa using hq⟩
end Go.Proofs.YtgijnebgchkenaaGreatDoor.RowKit
end
section
/- Slices of structs among the arguments, as facts on what lay there before. -/
set_option linter.unusedVariables false
set_option linter.unusedSimpArgs false
set_option maxRecDepth 100000
namespace Go.Proofs.YtgijnebgchkenaaGreatDoor.RowKit
open Go.ChangeShapes Go.WideShapes Go.ChangeAt Go.RowKit Go.Proofs Go.Proofs.YtgijnebgchkenaaGreatDoor.Eng Go.Proofs.YtgijnebgchkenaaGreatDoor.Ref03 Go.Proofs.YtgijnebgchkenaaGreatDoor.Ctrl Go.Proofs.YtgijnebgchkenaaGreatDoor.CtrlB

section
variable {H : Type} {enc : TypeId × Value → H} {P : Program} {W : World} {base : Nat} {held : Bool}
/-- A slice of rows. -/
def RowsAt (A : HP) (sz : Nat) (v : Value) (rows : List (List Value)) : Prop := ∃ a cap, v = .slice a rows.length cap ∧ (0 < rows.length → ∃ b o, a = some ⟨b, o, none⟩ ∧ ∀ (i : Nat) r, rows[i]? = some r → ∀ (j : Nat) x, r[j]? = some x → CellAt A ⟨b, o + i * sz + j, none⟩ x) ∧ (a = none → cap = 0 ∧ rows = [])
theorem rows_old {t e : TypeId} {sz fuel : Nat} {sp : Nat → Bool} {cs : List Value} {x : DataW H × List MemPlace} (ht : P.underlying t = some (.slice e)) (hc : P.cellsOf e = sz) (hsz : 0 < sz)
    (h : DataW.trod enc P W base sp held fuel t cs = some x) : ∃ v rows, cs = [v] ∧ RowsAt (Eng.old W) sz v rows ∧ rows.length ≤ maxLen ∧ ∀ r ∈ rows, ∃ m y, DataW.trod enc P W base sp held m e r = some y := by
  rcases DataW.trod_slice ht h with ⟨rfl, _⟩ | ⟨a, len, cap, elems, rest, n, _, rfl, rfl, hb, hl, hm, hlen, hel, _, _⟩
  · exact ⟨_, [], rfl, ⟨none, 0, rfl, fun q => (by simp at q), fun _ => ⟨rfl, rfl⟩⟩, by simp, by simp⟩
  · rw [hc] at hel
    have each : ∀ i, i < len → ∃ r, W.cells? base (a.add (i * sz)) sz = some r ∧ ∃ y, DataW.trod enc P W base sp held n e r = some y := fun i hi => by
      have h1 := hel i hi
      rw [List.getElem?_eq_getElem (by omega), Option.bind_eq_some_iff] at h1
      obtain ⟨r, h2, h3⟩ := h1
      exact ⟨r, h2, _, h3⟩
    have hr : ∀ i, i < len → ((List.range len).map fun i => (W.cells? base (a.add (i * sz)) sz).getD [])[i]? = W.cells? base (a.add (i * sz)) sz := fun i hi => by
      obtain ⟨r, h2, _⟩ := each i hi
      rw [List.getElem?_map, List.getElem?_range hi, Option.map_some, h2]; rfl
    refine ⟨_, (List.range len).map fun i => (W.cells? base (a.add (i * sz)) sz).getD [], rfl, ⟨some a, cap, by simp, fun q => ?_, fun e => by cases e⟩, by simp; omega, fun r hr' => ?_⟩
    · have q0 : 0 < len := by simpa using q
      obtain ⟨b, o, spot⟩ := a
      have hspot : spot = none := by
        obtain ⟨r, h2, _⟩ := each 0 q0
        obtain ⟨_, hlr, hcell⟩ := World.cells?_some h2
        have h3 := hcell 0 (by omega)
        rw [List.getElem?_eq_getElem (by omega)] at h3
        simpa [Addr.add] using World.cell?_spot h3
      subst hspot
      refine ⟨b, o, rfl, fun i r hir j x hx => cell_old ?_⟩
      have hi : i < len := by have := (List.getElem?_eq_some_iff.1 hir).1; simpa using this
      rw [hr i hi] at hir
      obtain ⟨_, hlr, hcell⟩ := World.cells?_some hir
      have hj : j < sz := by have := (List.getElem?_eq_some_iff.1 hx).1; omega
      have h3 := hcell j hj
      rw [hx] at h3
      rw [← h3, add_none, add_none]
    · obtain ⟨i, hi⟩ := List.getElem?_of_mem hr'
      have hil : i < len := by have := (List.getElem?_eq_some_iff.1 hi).1; simpa using this
      obtain ⟨r', h2, y, h3⟩ := each i hil
      rw [hr i hil, h2] at hi
      cases hi
      exact ⟨n, y, h3⟩
theorem rows_map {A : Type} {f : A → List Value} {Q : A → Prop} : ∀ (rows : List (List Value)), (∀ r ∈ rows, ∃ a, r = f a ∧ Q a) → ∃ ys : List A, rows = ys.map f ∧ ∀ a ∈ ys, Q a
  | [], _ => ⟨[], rfl, by simp⟩
  | r :: rows, h => by
    obtain ⟨a, rfl, hq⟩ := h r (by simp)
    obtain ⟨ys, rfl, hqs⟩ := rows_map rows fun r hr => h r (by simp [hr])
    exact ⟨a :: ys, rfl, by simpa using ⟨hq, hqs⟩⟩
end
/-- A slice of turns among the arguments. -/
theorem turns_old {H : Type} {enc : TypeId × Value → H} {W : World} {base : Nat} {held : Bool} {fuel : Nat} {sp : Nat → Bool} {cs : List Value} {x : DataW H × List MemPlace}
    (h : DataW.trod enc Tryz.prog W base sp held fuel 24 cs = some x) : ∃ v ts, cs = [v] ∧ TurnsAt (Eng.old W) v ts ∧ ts.length ≤ maxLen ∧ ∀ t ∈ ts, turnWf t := by
  obtain ⟨v, rows, rfl, hR, hm, hrow⟩ := rows_old (sz := 3) Tryz.underlying24 (by kernel_rfl) (by decide) h
  have c3 : Tryz.prog.cellsOf 3 = 1 := by kernel_rfl
  obtain ⟨ts, rfl, hw⟩ := rows_map (f := turnC) (Q := turnWf) rows fun r hr => by
    obtain ⟨m, y, hy⟩ := hrow r hr
    obtain ⟨xs, m', _, _, hcl, hxl, hfld⟩ := DataW.trod_struct Tryz.underlying41 hy
    have hx3 : xs.length = 3 := hxl
    have f0 : DataW.trod enc Tryz.prog W base sp held m' 3 ((r.drop 0).take (Tryz.prog.cellsOf 3)) = xs[0]? := hfld 0 _ rfl
    have f1 : DataW.trod enc Tryz.prog W base sp held m' 3 ((r.drop 1).take (Tryz.prog.cellsOf 3)) = xs[1]? := hfld 1 _ rfl
    have f2 : DataW.trod enc Tryz.prog W base sp held m' 3 ((r.drop 2).take (Tryz.prog.cellsOf 3)) = xs[2]? := hfld 2 _ rfl
    rw [c3, List.getElem?_eq_getElem (by omega)] at f0 f1 f2
    obtain ⟨z0, e0, _, _⟩ := DataW.trod_int Tryz.underlying3 f0
    obtain ⟨z1, e1, _, w1⟩ := DataW.trod_int Tryz.underlying3 f1
    obtain ⟨z2, e2, _, _⟩ := DataW.trod_int Tryz.underlying3 f2
    have hl3 : r.length = 3 := hcl.trans (by kernel_rfl)
    match r, hl3 with
    | [a, b, c], _ =>
      refine ⟨(z0, z1, z2), ?_, wf_i64 w1⟩
      simp at e0 e1 e2
      rw [e0, e1, e2]; rfl
  obtain ⟨a, cap, rfl, hA, _⟩ := hR
  refine ⟨_, ts, rfl, ⟨a, cap, by rw [List.length_map], fun q => ?_⟩, by simpa using hm, hw⟩
  obtain ⟨b, o, rfl, hA1⟩ := hA (by simpa using q)
  exact ⟨b, o, rfl, fun i t ht j x hx => hA1 i (turnC t) (by rw [List.getElem?_map, ht]; rfl) j x hx⟩
/-- A plan among the arguments. -/
theorem plan_old {H : Type} {enc : TypeId × Value → H} {W : World} {base : Nat} {held : Bool} {fuel : Nat} {sp : Nat → Bool} {cs : Array Value} {x : DataW H × List MemPlace} (hcs : cs.toList.length = Tryz.prog.cellsOf 26) (hsp : sp = fun _ => true)
    (h : DataW.trod enc Tryz.prog W base sp held fuel 26 cs.toList = some x) : ∃ vf vh vt xs hs ts slots, cs = #[vf, .int .i64 slots, vh, vt] ∧ IntsAt (Eng.old W) vf xs ∧ NumsAt .u64 (Eng.old W) vh hs ∧ TurnsAt (Eng.old W) vt ts ∧
      (∀ x ∈ hs, 0 ≤ x ∧ x < 18446744073709551616) ∧ hs.length ≤ maxLen ∧ ts.length ≤ maxLen ∧ (∀ t ∈ ts, turnWf t) ∧ -9223372036854775808 ≤ slots ∧ slots ≤ 9223372036854775807 := by
  subst hsp
  have c25 : Tryz.prog.cellsOf 26 = 4 := by kernel_rfl
  have c22 : Tryz.prog.cellsOf 22 = 1 := by kernel_rfl
  have c3 : Tryz.prog.cellsOf 3 = 1 := by kernel_rfl
  have c56 : Tryz.prog.cellsOf 23 = 1 := by kernel_rfl
  have c23 : Tryz.prog.cellsOf 52 = 1 := by kernel_rfl
  have c57 : Tryz.prog.cellsOf 24 = 1 := by kernel_rfl
  obtain ⟨a, b, c, d, rfl⟩ := arr4 (cs := cs) (by rw [hcs, c25])
  obtain ⟨xs, m, _, _, _, hxl, hfld⟩ := DataW.trod_struct Tryz.underlying26 h
  have hx4 : xs.length = 4 := hxl
  have f0 : DataW.trod enc Tryz.prog W base (fun _ => true) held m 22 (((#[a, b, c, d] : Array Value).toList.drop 0).take (Tryz.prog.cellsOf 22)) = xs[0]? := hfld 0 _ rfl
  rw [c22, List.getElem?_eq_getElem (by omega)] at f0
  have f1 : DataW.trod enc Tryz.prog W base (fun _ => true) held m 3 (((#[a, b, c, d] : Array Value).toList.drop 1).take (Tryz.prog.cellsOf 3)) = xs[1]? := hfld 1 _ rfl
  rw [c3, List.getElem?_eq_getElem (by omega)] at f1
  have f2 : DataW.trod enc Tryz.prog W base (fun _ => true) held m 23 (((#[a, b, c, d] : Array Value).toList.drop 2).take (Tryz.prog.cellsOf 23)) = xs[2]? := hfld 2 _ rfl
  rw [c56, List.getElem?_eq_getElem (by omega)] at f2
  have f3 : DataW.trod enc Tryz.prog W base (fun _ => true) held m 24 (((#[a, b, c, d] : Array Value).toList.drop 3).take (Tryz.prog.cellsOf 24)) = xs[3]? := hfld 3 _ rfl
  rw [c57, List.getElem?_eq_getElem (by omega)] at f3
  obtain ⟨vf, zs, e0, hnum, _, _⟩ := nums_old Tryz.underlying22 Tryz.underlying3 c3 f0
  obtain ⟨z1, e1, _, w1⟩ := DataW.trod_int Tryz.underlying3 f1
  obtain ⟨vh, hs, e2, hhs, hwf, hmx⟩ := nums_old Tryz.underlying23 Tryz.underlying52 c23 f2
  obtain ⟨vt, ts, e3, hts, hmt, htw⟩ := turns_old f3
  obtain rfl : a = vf := by simpa using e0
  obtain rfl : b = .int .i64 z1 := by simpa using e1
  obtain rfl : c = vh := by simpa using e2
  obtain rfl : d = vt := by simpa using e3
  have b1 := wf_i64 w1
  exact ⟨a, c, d, zs, hs, ts, z1, rfl, hnum, hhs, hts, fun x hx => wf_u64 (hwf x hx), hmx, hmt, htw, b1.1, b1.2⟩
end Go.Proofs.YtgijnebgchkenaaGreatDoor.RowKit
end
