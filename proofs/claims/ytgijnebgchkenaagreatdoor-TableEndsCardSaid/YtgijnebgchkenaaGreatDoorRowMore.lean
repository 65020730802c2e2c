/- Slices of structs among the arguments, as facts on what lay there before. -/
import Derived.Test.YtgijnebgchkenaaGreatDoorRowKit
set_option linter.unusedVariables false
set_option linter.unusedSimpArgs false
set_option maxRecDepth 100000
namespace Go.Proofs.YtgijnebgchkenaaGreatDoor.RowKit
open Go.ChangeShapes Go.WideShapes Go.ChangeAt Go.RowKit Go.Proofs Go.Proofs.YtgijnebgchkenaaGreatDoor.Eng Go.Proofs.YtgijnebgchkenaaGreatDoor.Ref03 Go.Proofs.YtgijnebgchkenaaGreatDoor.Ctrl Go.Proofs.YtgijnebgchkenaaGreatDoor.CtrlB

section
variable {H : Type} {enc : TypeId × Value → H} {P : Program} {W : World} {base : Nat} {held : Bool}
/-- A slice of rows. -/
def RowsAt (A : HP) (sz : Nat) (v : Value) (rows : List (List Value)) : Prop := ∃ a cap, v = .slice a rows.length cap ∧ (0 < rows.length → ∃ b o, a = some ⟨b, o, none⟩ ∧ ∀ (i : Nat) r, rows[i]? = some r → ∀ (j : Nat) x, r[j]? = some x → CellAt A ⟨b, o + i * sz + j, none⟩ x) ∧ (a = none → cap = 0 ∧ rows = [])
theorem rows_old {t e : TypeId} {sz fuel : Nat} {sp : Nat → Bool} {cs : List Value} {x : DataW H × List MemPlace} (ht : P.underlying t = some (.slice e)) (hc : P.cellsOf e = sz) (hsz : 0 < sz)
    (h : DataW.trod enc P W base sp held fuel t cs = some x) : ∃ v rows, cs = [v] ∧ RowsAt (Eng.old W) sz v rows ∧ rows.length ≤ maxLen ∧ ∀ r ∈ rows, ∃ m y, DataW.trod enc P W base sp held m e r = some y := by
  rcases DataW.trod_slice ht h with ⟨rfl, _⟩ | ⟨a, len, cap, elems, rest, n, _, rfl, rfl, hb, hl, hm, hlen, hel, _, _⟩
  · exact ⟨_, [], rfl, ⟨none, 0, rfl, fun q => (by simp at q), fun _ => ⟨rfl, rfl⟩⟩, by simp, by simp⟩
  · rw [hc] at hel
    have each : ∀ i, i < len → ∃ r, W.cells? base (a.add (i * sz)) sz = some r ∧ ∃ y, DataW.trod enc P W base sp held n e r = some y := fun i hi => by
      have h1 := hel i hi
      rw [List.getElem?_eq_getElem (by omega), Option.bind_eq_some_iff] at h1
      obtain ⟨r, h2, h3⟩ := h1
      exact ⟨r, h2, _, h3⟩
    have hr : ∀ i, i < len → ((List.range len).map fun i => (W.cells? base (a.add (i * sz)) sz).getD [])[i]? = W.cells? base (a.add (i * sz)) sz := fun i hi => by
      obtain ⟨r, h2, _⟩ := each i hi
      rw [List.getElem?_map, List.getElem?_range hi, Option.map_some, h2]; rfl
    refine ⟨_, (List.range len).map fun i => (W.cells? base (a.add (i * sz)) sz).getD [], rfl, ⟨some a, cap, by simp, fun q => ?_, fun e => by cases e⟩, by simp; omega, fun r hr' => ?_⟩
    · have q0 : 0 < len := by simpa using q
      obtain ⟨b, o, spot⟩ := a
      have hspot : spot = none := by
        obtain ⟨r, h2, _⟩ := each 0 q0
        obtain ⟨_, hlr, hcell⟩ := World.cells?_some h2
        have h3 := hcell 0 (by omega)
        rw [List.getElem?_eq_getElem (by omega)] at h3
        simpa [Addr.add] using World.cell?_spot h3
      subst hspot
      refine ⟨b, o, rfl, fun i r hir j x hx => cell_old ?_⟩
      have hi : i < len := by have := (List.getElem?_eq_some_iff.1 hir).1; simpa using this
      rw [hr i hi] at hir
      obtain ⟨_, hlr, hcell⟩ := World.cells?_some hir
      have hj : j < sz := by have := (List.getElem?_eq_some_iff.1 hx).1; omega
      have h3 := hcell j hj
      rw [hx] at h3
      rw [← h3, add_none, add_none]
    · obtain ⟨i, hi⟩ := List.getElem?_of_mem hr'
      have hil : i < len := by have := (List.getElem?_eq_some_iff.1 hi).1; simpa using this
      obtain ⟨r', h2, y, h3⟩ := each i hil
      rw [hr i hil, h2] at hi
      cases hi
      exact ⟨n, y, h3⟩
theorem rows_map {A : Type} {f : A → List Value} {Q : A → Prop} : ∀ (rows : List (List Value)), (∀ r ∈ rows, ∃ a, r = f a ∧ Q a) → ∃ ys : List A, rows = ys.map f ∧ ∀ a ∈ ys, Q a
  | [], _ => ⟨[], rfl, by simp⟩
  | r :: rows, h => by
    obtain ⟨a, rfl, hq⟩ := h r (by simp)
    obtain ⟨ys, rfl, hqs⟩ := rows_map rows fun r hr => h r (by simp [hr])
    exact ⟨a :: ys, rfl, by simpa using ⟨hq, hqs⟩⟩
end
/-- A slice of turns among the arguments. -/
theorem turns_old {H : Type} {enc : TypeId × Value → H} {W : World} {base : Nat} {held : Bool} {fuel : Nat} {sp : Nat → Bool} {cs : List Value} {x : DataW H × List MemPlace}
    (h : DataW.trod enc Tryz.prog W base sp held fuel 24 cs = some x) : ∃ v ts, cs = [v] ∧ TurnsAt (Eng.old W) v ts ∧ ts.length ≤ maxLen ∧ ∀ t ∈ ts, turnWf t := by
  obtain ⟨v, rows, rfl, hR, hm, hrow⟩ := rows_old (sz := 3) Tryz.underlying24 (by kernel_rfl) (by decide) h
  have c3 : Tryz.prog.cellsOf 3 = 1 := by kernel_rfl
  obtain ⟨ts, rfl, hw⟩ := rows_map (f := turnC) (Q := turnWf) rows fun r hr => by
    obtain ⟨m, y, hy⟩ := hrow r hr
    obtain ⟨xs, m', _, _, hcl, hxl, hfld⟩ := DataW.trod_struct Tryz.underlying41 hy
    have hx3 : xs.length = 3 := hxl
    have f0 : DataW.trod enc Tryz.prog W base sp held m' 3 ((r.drop 0).take (Tryz.prog.cellsOf 3)) = xs[0]? := hfld 0 _ rfl
    have f1 : DataW.trod enc Tryz.prog W base sp held m' 3 ((r.drop 1).take (Tryz.prog.cellsOf 3)) = xs[1]? := hfld 1 _ rfl
    have f2 : DataW.trod enc Tryz.prog W base sp held m' 3 ((r.drop 2).take (Tryz.prog.cellsOf 3)) = xs[2]? := hfld 2 _ rfl
    rw [c3, List.getElem?_eq_getElem (by omega)] at f0 f1 f2
    obtain ⟨z0, e0, _, _⟩ := DataW.trod_int Tryz.underlying3 f0
    obtain ⟨z1, e1, _, w1⟩ := DataW.trod_int Tryz.underlying3 f1
    obtain ⟨z2, e2, _, _⟩ := DataW.trod_int Tryz.underlying3 f2
    have hl3 : r.length = 3 := hcl.trans (by kernel_rfl)
    match r, hl3 with
    | [a, b, c], _ =>
      refine ⟨(z0, z1, z2), ?_, wf_i64 w1⟩
      simp at e0 e1 e2
      rw [e0, e1, e2]; rfl
  obtain ⟨a, cap, rfl, hA, _⟩ := hR
  refine ⟨_, ts, rfl, ⟨a, cap, by rw [List.length_map], fun q => ?_⟩, by simpa using hm, hw⟩
  obtain ⟨b, o, rfl, hA1⟩ := hA (by simpa using q)
  exact ⟨b, o, rfl, fun i t ht j x hx => hA1 i (turnC t) (by rw [List.getElem?_map, ht]; rfl) j x hx⟩
/-- A plan among the arguments. -/
theorem plan_old {H : Type} {enc : TypeId × Value → H} {W : World} {base : Nat} {held : Bool} {fuel : Nat} {sp : Nat → Bool} {cs : Array Value} {x : DataW H × List MemPlace} (hcs : cs.toList.length = Tryz.prog.cellsOf 26) (hsp : sp = fun _ => true)
    (h : DataW.trod enc Tryz.prog W base sp held fuel 26 cs.toList = some x) : ∃ vf vh vt xs hs ts slots, cs = #[vf, .int .i64 slots, vh, vt] ∧ IntsAt (Eng.old W) vf xs ∧ NumsAt .u64 (Eng.old W) vh hs ∧ TurnsAt (Eng.old W) vt ts ∧
      (∀ x ∈ hs, 0 ≤ x ∧ x < 18446744073709551616) ∧ hs.length ≤ maxLen ∧ ts.length ≤ maxLen ∧ (∀ t ∈ ts, turnWf t) ∧ -9223372036854775808 ≤ slots ∧ slots ≤ 9223372036854775807 := by
  subst hsp
  have c25 : Tryz.prog.cellsOf 26 = 4 := by kernel_rfl
  have c22 : Tryz.prog.cellsOf 22 = 1 := by kernel_rfl
  have c3 : Tryz.prog.cellsOf 3 = 1 := by kernel_rfl
  have c56 : Tryz.prog.cellsOf 23 = 1 := by kernel_rfl
  have c23 : Tryz.prog.cellsOf 52 = 1 := by kernel_rfl
  have c57 : Tryz.prog.cellsOf 24 = 1 := by kernel_rfl
  obtain ⟨a, b, c, d, rfl⟩ := arr4 (cs := cs) (by rw [hcs, c25])
  obtain ⟨xs, m, _, _, _, hxl, hfld⟩ := DataW.trod_struct Tryz.underlying26 h
  have hx4 : xs.length = 4 := hxl
  have f0 : DataW.trod enc Tryz.prog W base (fun _ => true) held m 22 (((#[a, b, c, d] : Array Value).toList.drop 0).take (Tryz.prog.cellsOf 22)) = xs[0]? := hfld 0 _ rfl
  rw [c22, List.getElem?_eq_getElem (by omega)] at f0
  have f1 : DataW.trod enc Tryz.prog W base (fun _ => true) held m 3 (((#[a, b, c, d] : Array Value).toList.drop 1).take (Tryz.prog.cellsOf 3)) = xs[1]? := hfld 1 _ rfl
  rw [c3, List.getElem?_eq_getElem (by omega)] at f1
  have f2 : DataW.trod enc Tryz.prog W base (fun _ => true) held m 23 (((#[a, b, c, d] : Array Value).toList.drop 2).take (Tryz.prog.cellsOf 23)) = xs[2]? := hfld 2 _ rfl
  rw [c56, List.getElem?_eq_getElem (by omega)] at f2
  have f3 : DataW.trod enc Tryz.prog W base (fun _ => true) held m 24 (((#[a, b, c, d] : Array Value).toList.drop 3).take (Tryz.prog.cellsOf 24)) = xs[3]? := hfld 3 _ rfl
  rw [c57, List.getElem?_eq_getElem (by omega)] at f3
  obtain ⟨vf, zs, e0, hnum, _, _⟩ := nums_old Tryz.underlying22 Tryz.underlying3 c3 f0
  obtain ⟨z1, e1, _, w1⟩ := DataW.trod_int Tryz.underlying3 f1
  obtain ⟨vh, hs, e2, hhs, hwf, hmx⟩ := nums_old Tryz.underlying23 Tryz.underlying52 c23 f2
  obtain ⟨vt, ts, e3, hts, hmt, htw⟩ := turns_old f3
  obtain rfl : a = vf := by simpa using e0
  obtain rfl : b = .int .i64 z1 := by simpa using e1
  obtain rfl : c = vh := by simpa using e2
  obtain rfl : d = vt := by simpa using e3
  have b1 := wf_i64 w1
  exact ⟨a, c, d, zs, hs, ts, z1, rfl, hnum, hhs, hts, fun x hx => wf_u64 (hwf x hx), hmx, hmt, htw, b1.1, b1.2⟩
end Go.Proofs.YtgijnebgchkenaaGreatDoor.RowKit
