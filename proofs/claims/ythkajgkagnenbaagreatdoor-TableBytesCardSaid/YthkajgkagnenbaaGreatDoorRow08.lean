import Derived.Test.YthkajgkagnenbaaGreatDoorRef03
import Derived.Test.YthkajgkagnenbaaGreatDoorCtrl
import Derived.Test.YthkajgkagnenbaaGreatDoorRows
import Derived.WalkKit
import Derived.ProofKit
import Derived.OpenShut
import Derived.ShutString
import Derived.ChangeOld
import Derived.Below
import Derived.Carry
import Derived.SizedLaws
import Derived.LaidMore
import Derived.Lay
import Derived.Stop.Joined
import Derived.Test.YthkajgkagnenbaaGreatDoorExactS
section
/- What a call's arguments and the listed package variables read as, as facts on the piece 'all that lay there before'. -/
set_option linter.unusedVariables false
set_option linter.unusedSimpArgs false
set_option maxRecDepth 100000
namespace Go.Proofs.YthkajgkagnenbaaGreatDoor.RowKit
open Go.ChangeShapes Go.WideShapes Go.ChangeAt Go.RowKit Go.Proofs Go.Proofs.YthkajgkagnenbaaGreatDoor.Eng Go.Proofs.YthkajgkagnenbaaGreatDoor.Ref03 Go.Proofs.YthkajgkagnenbaaGreatDoor.Ctrl Go.Proofs.YthkajgkagnenbaaGreatDoor.CtrlB

theorem laidOut : laidOutB Tryz.prog = true := by kernel_rfl
theorem cell_old {W : World} {a : Addr} {v : Value} (h : W.cell? a = some v) : CellAt (Eng.old W) a v := fun w hs => by
 obtain ⟨f, hi, rfl⟩ := hs
 have hb : ∃ o, W.heap[a.block]? = some o := by
  cases e : W.heap[a.block]? with
  | some o => exact ⟨o, rfl⟩
  | none => simp [World.cell?, e] at h
 obtain ⟨o, ho⟩ := hb
 have := hi a.block o ho
 rw [World.cell?_of_block (w := W) (by rw [this, ho])]
 exact h
/-- A contract on what lay there before: it is as it was. -/
theorem fn_old {P : Program} {f : FuncId} {args : Array Value} {v0 : Value} {W : World} (h : FnOk P f args [Eng.old W] fun v L => v = v0 ∧ L = [Eng.old W]) : Calls P f args W fun e W' => e = .returned v0 ∧ Below W.heap.size W W' := by
 have hs : Sat (stars ([Eng.old W] ++ [])) W := by
  obtain ⟨f, hi, e⟩ := Sat.old W
  exact ⟨f, hi, f, Part.none, e, rfl, Part.disj_none _, (Part.join_none _).symm⟩
 refine (callsIn_wide (n := 0)).1 ((h.calls [] W W hs (Ext.refl W)).mono ?_)
 rintro e W' ⟨v, L', rfl, ⟨rfl, rfl⟩, hs', he'⟩
 exact ⟨rfl, below_of_old hs'.left he'⟩
section
variable {H : Type} {enc : TypeId × Value → H} {P : Program} {W : World} {base : Nat} {held : Bool}
/-- A slice of numbers among the arguments. -/
theorem nums_old {t e : TypeId} {k : IntKind} {fuel : Nat} {cs : List Value} {x : DataW H × List MemPlace} (ht : P.underlying t = some (.slice e)) (he : P.underlying e = some (.int k)) (hc : P.cellsOf e = 1)
  (h : DataW.trod enc P W base (fun _ => true) held fuel t cs = some x) : ∃ v xs, cs = [v] ∧ NumsAt k (Eng.old W) v xs ∧ (∀ n ∈ xs, (Lit.int k n).wf = true) ∧ xs.length ≤ maxLen := by
 rcases open_ints ht he hc h with ⟨rfl, _⟩ | ⟨a, len, cap, zs, rfl, _, hl, hm, hz, _, hcell, hwf⟩
 ·exact ⟨_, [], rfl, ⟨none, 0, rfl, fun q => by simp at q⟩, by simp, by simp [maxLen]⟩
 ·simp only [if_true] at hz
  have hlen : (zs.take len).length = len := by simp; omega
  refine ⟨_, zs.take len, rfl, ⟨some a, cap, by rw [hlen], fun q => ?_⟩, fun n hn => hwf n (List.mem_of_mem_take hn), by omega⟩
  obtain ⟨b, o, rfl, hp⟩ := ints_at hcell (by omega)
  refine ⟨b, o, rfl, fun i x hx => cell_old ?_⟩
  rw [List.getElem?_take] at hx
  split at hx
  ·have hi : i < zs.length := by omega
   rw [hp i hi, List.getD, hx]; rfl
  ·cases hx
end
/-- The table of trailing zeros, as the rows lay it. -/
theorem gTab : Tryz.prog.globalNamed "math/bits.deBruijn64tab" = some 1 := by kernel_rfl
theorem tTab : (Tryz.prog.globals[1]?).map (·.type) = some 304 := by kernel_rfl
theorem tabDatum : (Rows.laid_math_bits_deBruijn64tab : DataW Unit) = .agg (dbt.map fun n => .lit (.int .u8 (n : Nat))) := by kernel_rfl
theorem tab_of {W : World} {enc : TypeId × Value → Unit} {g : Nat} {t : TypeId} {cs : Array Value} {fuel : Nat} {p : List MemPlace} {held : Bool} {sp : Nat → Bool} (hg : Tryz.prog.globalNamed "math/bits.deBruijn64tab" = some g) (ht : (Tryz.prog.globals[g]?).map (·.type) = some t)
  (hv : W.var? Tryz.prog "math/bits.deBruijn64tab" = some cs) (hd : DataW.trod enc Tryz.prog W 0 sp held fuel t cs.toList = some (Rows.laid_math_bits_deBruijn64tab, p)) : TabOk (Eng.old W) := fun i b hb => cell_old (by
 obtain rfl := Option.some.inj (gTab.symm.trans hg)
 obtain rfl := Option.some.inj (tTab.symm.trans ht)
 rw [tabDatum] at hd
 obtain ⟨xs, m, _, ex, _, hl, hel⟩ := DataW.trod_array Tryz.underlying304 hd
 have c5 : Tryz.prog.cellsOf 5 = 1 := by kernel_rfl
 have hlen : dbt.length = 64 := by kernel_rfl
 have hi : i < 64 := by rw [← hlen]; exact (List.getElem?_eq_some_iff.1 hb).1
 have hE := hel i hi
 rw [c5, Nat.mul_one, List.getElem?_eq_getElem (by omega)] at hE
 obtain ⟨z, e1, e2, _⟩ := DataW.trod_int Tryz.underlying5 hE
 have e3 : (xs.map (·.1)) = dbt.map fun n => .lit (.int .u8 (n : Nat)) := (DataW.agg.inj (Prod.mk.inj ex).1).symm
 have e4 : (xs.map (·.1))[i]? = (dbt.map fun n => (DataW.lit (.int .u8 (n : Nat)) : DataW Unit))[i]? := by rw [e3]
 rw [List.getElem?_map, List.getElem?_map, List.getElem?_eq_getElem (by omega : i < xs.length), hb, e2] at e4
 have hz : z = (b : Nat) := by simpa using e4
 rw [World.var?_cell gTab hv i, ← hz]
 have h0 : ((cs.toList.drop i).take 1)[0]? = some (.int .u8 z) := by rw [e1]; rfl
 simpa using h0)
/-- Whether a row with one plain variable is met. -/
theorem tab_laid {W : World} (h : laidMetH Tryz.prog [("math/bits.deBruijn64tab", Rows.laid_math_bits_deBruijn64tab)] W) : TabOk (Eng.old W) := by
 rw [MakeChecks.laidMetH_plain _ _ _ (by kernel_rfl)] at h
 obtain ⟨ps, ⟨g, t, cs, fuel, p, q, hg, ht, hv, hd, _, _⟩, _, _⟩ := h
 exact tab_of hg ht hv hd
end Go.Proofs.YthkajgkagnenbaaGreatDoor.RowKit
end
section
/- Slices of structs among the arguments, as facts on what lay there before. -/
set_option linter.unusedVariables false
set_option linter.unusedSimpArgs false
set_option maxRecDepth 100000
namespace Go.Proofs.YthkajgkagnenbaaGreatDoor.RowKit
open Go.ChangeShapes Go.WideShapes Go.ChangeAt Go.RowKit Go.Proofs Go.Proofs.YthkajgkagnenbaaGreatDoor.Eng Go.Proofs.YthkajgkagnenbaaGreatDoor.Ref03 Go.Proofs.YthkajgkagnenbaaGreatDoor.Ctrl Go.Proofs.YthkajgkagnenbaaGreatDoor.CtrlB

section
variable {H : Type} {enc : TypeId × Value → H} {P : Program} {W : World} {base : Nat} {held : Bool}
/-- A slice of rows. -/
def RowsAt (A : HP) (sz : Nat) (v : Value) (rows : List (List Value)) : Prop := ∃ a cap, v = .slice a rows.length cap ∧ (0 < rows.length → ∃ b o, a = some ⟨b, o, none⟩ ∧ ∀ (i : Nat) r, rows[i]? = some r → ∀ (j : Nat) x, r[j]? = some x → CellAt A ⟨b, o + i * sz + j, none⟩ x) ∧ (a = none → cap = 0 ∧ rows = [])
theorem rows_old {t e : TypeId} {sz fuel : Nat} {sp : Nat → Bool} {cs : List Value} {x : DataW H × List MemPlace} (ht : P.underlying t = some (.slice e)) (hc : P.cellsOf e = sz) (hsz : 0 < sz)
  (h : DataW.trod enc P W base sp held fuel t cs = some x) : ∃ v rows, cs = [v] ∧ RowsAt (Eng.old W) sz v rows ∧ rows.length ≤ maxLen ∧ ∀ r ∈ rows, ∃ m y, DataW.trod enc P W base sp held m e r = some y := by
 rcases DataW.trod_slice ht h with ⟨rfl, _⟩ | ⟨a, len, cap, elems, rest, n, _, rfl, rfl, hb, hl, hm, hlen, hel, _, _⟩
 ·exact ⟨_, [], rfl, ⟨none, 0, rfl, fun q => (by simp at q), fun _ => ⟨rfl, rfl⟩⟩, by simp, by simp⟩
 ·rw [hc] at hel
  have each : ∀ i, i < len → ∃ r, W.cells? base (a.add (i * sz)) sz = some r ∧ ∃ y, DataW.trod enc P W base sp held n e r = some y := fun i hi => by
   have h1 := hel i hi
   rw [List.getElem?_eq_getElem (by omega), Option.bind_eq_some_iff] at h1
   obtain ⟨r, h2, h3⟩ := h1
   exact ⟨r, h2, _, h3⟩
  have hr : ∀ i, i < len → ((List.range len).map fun i => (W.cells? base (a.add (i * sz)) sz).getD [])[i]? = W.cells? base (a.add (i * sz)) sz := fun i hi => by
   obtain ⟨r, h2, _⟩ := each i hi
   rw [List.getElem?_map, List.getElem?_range hi, Option.map_some, h2]; rfl
  refine ⟨_, (List.range len).map fun i => (W.cells? base (a.add (i * sz)) sz).getD [], rfl, ⟨some a, cap, by simp, fun q => ?_, fun e => by cases e⟩, by simp; omega, fun r hr' => ?_⟩
  ·have q0 : 0 < len := by simpa using q
   obtain ⟨b, o, spot⟩ := a
   have hspot : spot = none := by
    obtain ⟨r, h2, _⟩ := each 0 q0
    obtain ⟨_, hlr, hcell⟩ := World.cells?_some h2
    have h3 := hcell 0 (by omega)
    rw [List.getElem?_eq_getElem (by omega)] at h3
    simpa [Addr.add] using World.cell?_spot h3
   subst hspot
   refine ⟨b, o, rfl, fun i r hir j x hx => cell_old ?_⟩
   have hi : i < len := by have := (List.getElem?_eq_some_iff.1 hir).1; simpa using this
   rw [hr i hi] at hir
   obtain ⟨_, hlr, hcell⟩ := World.cells?_some hir
   have hj : j < sz := by have := (List.getElem?_eq_some_iff.1 hx).1; omega
   have h3 := hcell j hj
   rw [hx] at h3
   rw [← h3, add_none, add_none]
  ·obtain ⟨i, hi⟩ := List.getElem?_of_mem hr'
   have hil : i < len := by have := (List.getElem?_eq_some_iff.1 hi).1; simpa using this
   obtain ⟨r', h2, y, h3⟩ := each i hil
   rw [hr i hil, h2] at hi
   cases hi
   exact ⟨n, y, h3⟩
theorem rows_map {A : Type} {f : A → List Value} {Q : A → Prop} : ∀ (rows : List (List Value)), (∀ r ∈ rows, ∃ a, r = f a ∧ Q a) → ∃ ys : List A, rows = ys.map f ∧ ∀ a ∈ ys, Q a
 | [], _ => ⟨[], rfl, by simp⟩
 | r :: rows, h => by
  obtain ⟨a, rfl, hq⟩ := h r (by simp)
  obtain ⟨ys, rfl, hqs⟩ := rows_map rows fun r hr => h r (by simp [hr])
  exact ⟨a :: ys, rfl, by simpa using ⟨hq, hqs⟩⟩
end
end Go.Proofs.YthkajgkagnenbaaGreatDoor.RowKit
end
section
/- TableExact answers true. -/
set_option linter.unusedVariables false
set_option linter.unusedSimpArgs false
set_option linter.unusedSectionVars false
set_option maxRecDepth 100000
namespace Go.Proofs.YthkajgkagnenbaaGreatDoor.Exact
open Go.RowKit Go.Proofs Go.Proofs.YthkajgkagnenbaaGreatDoor.Eng Go.Proofs.YthkajgkagnenbaaGreatDoor.Ty Go.Proofs.YthkajgkagnenbaaGreatDoor.Bits Go.Proofs.YthkajgkagnenbaaGreatDoor.Mem Go.Proofs.YthkajgkagnenbaaGreatDoor.Search Go.Proofs.YthkajgkagnenbaaGreatDoor.Arena Go.Proofs.YthkajgkagnenbaaGreatDoor.CtrlB Go.Proofs.YthkajgkagnenbaaGreatDoor.Ctrl Go.Proofs.YthkajgkagnenbaaGreatDoor.Layout Go.Proofs.YthkajgkagnenbaaGreatDoor.GroupB Go.Proofs.YthkajgkagnenbaaGreatDoor.Group Go.Proofs.YthkajgkagnenbaaGreatDoor.Probe Go.Proofs.YthkajgkagnenbaaGreatDoor.TableB Go.Proofs.YthkajgkagnenbaaGreatDoor.TableI Go.Proofs.YthkajgkagnenbaaGreatDoor.Table Go.Proofs.YthkajgkagnenbaaGreatDoor.Bench Go.Proofs.YthkajgkagnenbaaGreatDoor.Cells Go.Proofs.YthkajgkagnenbaaGreatDoor.Refill Go.Proofs.YthkajgkagnenbaaGreatDoor.RefA Go.Proofs.YthkajgkagnenbaaGreatDoor.RefT Go.Proofs.YthkajgkagnenbaaGreatDoor.Ref03

@[reducible] def opC (o : Op8) : List Value := [.int .i64 o.kind, .int .i64 o.t, .int .i64 o.n, .int .i64 o.m, .int .u64 o.h, .string o.k, .string o.e]
/-- A script among the arguments. -/
def OpsAt (A : HP) (v : Value) (os : List Op8) : Prop := ∃ a cap, v = .slice a os.length cap ∧ (0 < os.length → ∃ b o, a = some ⟨b, o, none⟩ ∧ ∀ (i : Nat) t, os[i]? = some t → ∀ (j : Nat) x, (opC t)[j]? = some x → CellAt A ⟨b, o + i * 7 + j, none⟩ x)
theorem cell_op {A : HP} {os : List Op8} {b o i : Nat} {t : Op8} (h : ∀ (i : Nat) t, os[i]? = some t → ∀ (j : Nat) x, (opC t)[j]? = some x → CellAt A ⟨b, o + i * 7 + j, none⟩ x) (ht : os[i]? = some t) :
  ∀ j x, (opC t)[j]? = some x → CellAt A ((⟨b, o + (i : Int).toNat * 7, none⟩ : Addr).add j) x := fun j x hx => by
 rw [add_none, Int.toNat_natCast]
 exact h i t ht j x hx
end Go.Proofs.YthkajgkagnenbaaGreatDoor.Exact
end
section
/- A script of larderlaw08 among the arguments, as facts on what lay there before. -/
set_option linter.unusedVariables false
set_option linter.unusedSimpArgs false
set_option maxRecDepth 100000
namespace Go.Proofs.YthkajgkagnenbaaGreatDoor.RowKit
open Go.ChangeShapes Go.WideShapes Go.ChangeAt Go.RowKit Go.Proofs Go.Proofs.YthkajgkagnenbaaGreatDoor.Eng Go.Proofs.YthkajgkagnenbaaGreatDoor.Ref03 Go.Proofs.YthkajgkagnenbaaGreatDoor.Ctrl Go.Proofs.YthkajgkagnenbaaGreatDoor.CtrlB Go.Proofs.YthkajgkagnenbaaGreatDoor.Exact
/-- How many rows a slice reads as. -/
theorem rows_len {H : Type} {enc : TypeId × Value → H} {P : Program} {W : World} {base fuel : Nat} {held : Bool} {sp : Nat → Bool} {t e : TypeId} {a : Option Addr} {n cap : Nat} {x : DataW H × List MemPlace} (ht : P.underlying t = some (.slice e))
  (h : DataW.trod enc P W base sp held fuel t [.slice a n cap] = some x) : n = 0 ∨ ∃ es sp', x.1 = .slice es sp' ∧ es.length = n := by
 rcases DataW.trod_slice ht h with ⟨e1, _⟩ | ⟨a', len, cap', elems, rest, m, _, e1, rfl, _, _, _, hlen, _⟩
 ·cases e1; exact .inl rfl
 ·cases e1; exact .inr ⟨_, _, rfl, by simpa using hlen⟩
theorem ops_old {H : Type} {enc : TypeId × Value → H} {W : World} {base : Nat} {held : Bool} {fuel : Nat} {sp : Nat → Bool} {cs : List Value} {x : DataW H × List MemPlace}
  (h : DataW.trod enc Tryz.prog W base sp held fuel 23 cs = some x) : ∃ v os, cs = [v] ∧ OpsAt (Eng.old W) v os ∧ os.length ≤ maxLen ∧ (∀ o ∈ os, o.wf) ∧ (os.length = 0 ∨ ∃ es sp', x.1 = .slice es sp' ∧ es.length = os.length) := by
 obtain ⟨v, rows, rfl, hR, hm, hrow⟩ := rows_old (sz := 7) Tryz.underlying23 (by kernel_rfl) (by decide) h
 have c3 : Tryz.prog.cellsOf 3 = 1 := by kernel_rfl
 have c4 : Tryz.prog.cellsOf 27 = 1 := by kernel_rfl
 have c5 : Tryz.prog.cellsOf 9 = 1 := by kernel_rfl
 obtain ⟨os, rfl, hw⟩ := rows_map (f := opC) (Q := Op8.wf) rows fun r hr => by
  obtain ⟨m, y, hy⟩ := hrow r hr
  obtain ⟨xs, m', _, _, hcl, hxl, hfld⟩ := DataW.trod_struct Tryz.underlying29 hy
  have hx7 : xs.length = 7 := hxl
  have f0 : DataW.trod enc Tryz.prog W base sp held m' 3 ((r.drop 0).take (Tryz.prog.cellsOf 3)) = xs[0]? := hfld 0 _ rfl
  have f1 : DataW.trod enc Tryz.prog W base sp held m' 3 ((r.drop 1).take (Tryz.prog.cellsOf 3)) = xs[1]? := hfld 1 _ rfl
  have f2 : DataW.trod enc Tryz.prog W base sp held m' 3 ((r.drop 2).take (Tryz.prog.cellsOf 3)) = xs[2]? := hfld 2 _ rfl
  have f3 : DataW.trod enc Tryz.prog W base sp held m' 3 ((r.drop 3).take (Tryz.prog.cellsOf 3)) = xs[3]? := hfld 3 _ rfl
  have f4 : DataW.trod enc Tryz.prog W base sp held m' 27 ((r.drop 4).take (Tryz.prog.cellsOf 27)) = xs[4]? := hfld 4 _ rfl
  have f5 : DataW.trod enc Tryz.prog W base sp held m' 9 ((r.drop 5).take (Tryz.prog.cellsOf 9)) = xs[5]? := hfld 5 _ rfl
  have f6 : DataW.trod enc Tryz.prog W base sp held m' 9 ((r.drop 6).take (Tryz.prog.cellsOf 9)) = xs[6]? := hfld 6 _ rfl
  rw [c3, List.getElem?_eq_getElem (by omega)] at f0 f1 f2 f3
  rw [c4, List.getElem?_eq_getElem (by omega)] at f4
  rw [c5, List.getElem?_eq_getElem (by omega)] at f5 f6
  obtain ⟨z0, e0, _, w0⟩ := DataW.trod_int Tryz.underlying3 f0
  obtain ⟨z1, e1, _, w1⟩ := DataW.trod_int Tryz.underlying3 f1
  obtain ⟨z2, e2, _, w2⟩ := DataW.trod_int Tryz.underlying3 f2
  obtain ⟨z3, e3, _, w3⟩ := DataW.trod_int Tryz.underlying3 f3
  obtain ⟨z4, e4, _, w4⟩ := DataW.trod_int Tryz.underlying27 f4
  obtain ⟨z5, e5, _, w5⟩ := DataW.trod_string Tryz.underlying9 f5
  obtain ⟨z6, e6, _, w6⟩ := DataW.trod_string Tryz.underlying9 f6
  have hl7 : r.length = 7 := hcl.trans (by kernel_rfl)
  match r, hl7 with
  | [a, b, c, d, e, f, g], _ =>
   refine ⟨⟨z0, z1, z2, z3, z4, z5, z6⟩, ?_, ⟨wf_i64 w0, wf_i64 w1, wf_i64 w2, wf_i64 w3, wf_u64 w4⟩⟩
   simp at e0 e1 e2 e3 e4 e5 e6
   rw [e0, e1, e2, e3, e4, e5, e6]
 obtain ⟨a, cap, rfl, hA, _⟩ := hR
 refine ⟨_, os, rfl, ⟨a, cap, by rw [List.length_map], fun q => ?_⟩, by simpa using hm, hw, by simpa using rows_len Tryz.underlying23 h⟩
 obtain ⟨b, o, rfl, hA1⟩ := hA (by simpa using q)
 exact ⟨b, o, rfl, fun i t ht j x hx => hA1 i (opC t) (by rw [List.getElem?_map, ht]; rfl) j x hx⟩
end Go.Proofs.YthkajgkagnenbaaGreatDoor.RowKit
end
