/- Slices of structs among the arguments, as facts on what lay there before. -/
import Derived.Test.YtepkcjfmdenkcaaDoorRowKit
set_option linter.unusedVariables false
set_option linter.unusedSimpArgs false
set_option maxRecDepth 100000
namespace Go.Proofs.YtepkcjfmdenkcaaDoor.RowKit
open Go.ChangeShapes Go.WideShapes Go.ChangeAt Go.RowKit Go.Proofs Go.Proofs.YtepkcjfmdenkcaaDoor.Eng Go.Proofs.YtepkcjfmdenkcaaDoor.Ref03 Go.Proofs.YtepkcjfmdenkcaaDoor.Ctrl Go.Proofs.YtepkcjfmdenkcaaDoor.CtrlB

section
variable {H : Type} {enc : TypeId × Value → H} {P : Program} {W : World} {base : Nat} {held : Bool}
/-- A slice of rows. -/
def RowsAt (A : HP) (sz : Nat) (v : Value) (rows : List (List Value)) : Prop := ∃ a cap, v = .slice a rows.length cap ∧ (0 < rows.length → ∃ b o, a = some ⟨b, o, none⟩ ∧ ∀ (i : Nat) r, rows[i]? = some r → ∀ (j : Nat) x, r[j]? = some x → CellAt A ⟨b, o + i * sz + j, none⟩ x) ∧ (a = none → cap = 0 ∧ rows = [])
theorem rows_old {t e : TypeId} {sz fuel : Nat} {sp : Nat → Bool} {cs : List Value} {x : DataW H × List MemPlace} (ht : P.underlying t = some (.slice e)) (hc : P.cellsOf e = sz) (hsz : 0 < sz)
    (h : DataW.trod enc P W base sp held fuel t cs = some x) : ∃ v rows, cs = [v] ∧ RowsAt (Eng.old W) sz v rows ∧ rows.length ≤ maxLen ∧ ∀ r ∈ rows, ∃ m y, DataW.trod enc P W base sp held m e r = some y := by
  rcases DataW.trod_slice ht h with ⟨rfl, _⟩ | ⟨a, len, cap, elems, rest, n, _, rfl, rfl, hb, hl, hm, hlen, hel, _, _⟩
  · exact ⟨_, [], rfl, ⟨none, 0, rfl, fun q => (by simp at q), fun _ => ⟨rfl, rfl⟩⟩, by simp, by simp⟩
  · rw [hc] at hel
    have each : ∀ i, i < len → ∃ r, W.cells? base (a.add (i * sz)) sz = some r ∧ ∃ y, DataW.trod enc P W base sp held n e r = some y := fun i hi => by
      have h1 := hel i hi
      rw [List.getElem?_eq_getElem (by omega), Option.bind_eq_some_iff] at h1
      obtain ⟨r, h2, h3⟩ := h1
      exact ⟨r, h2, _, h3⟩
    have hr : ∀ i, i < len → ((List.range len).map fun i => (W.cells? base (a.add (i * sz)) sz).getD [])[i]? = W.cells? base (a.add (i * sz)) sz := fun i hi => by
      obtain ⟨r, h2, _⟩ := each i hi
      rw [List.getElem?_map, List.getElem?_range hi, Option.map_some, h2]; rfl
    refine ⟨_, (List.range len).map fun i => (W.cells? base (a.add (i * sz)) sz).getD [], rfl, ⟨some a, cap, by simp, fun q => ?_, fun e => by cases e⟩, by simp; omega, fun r hr' => ?_⟩
    · have q0 : 0 < len := by simpa using q
      obtain ⟨b, o, spot⟩ := a
      have hspot : spot = none := by
        obtain ⟨r, h2, _⟩ := each 0 q0
        obtain ⟨_, hlr, hcell⟩ := World.cells?_some h2
        have h3 := hcell 0 (by omega)
        rw [List.getElem?_eq_getElem (by omega)] at h3
        simpa [Addr.add] using World.cell?_spot h3
      subst hspot
      refine ⟨b, o, rfl, fun i r hir j x hx => cell_old ?_⟩
      have hi : i < len := by have := (List.getElem?_eq_some_iff.1 hir).1; simpa using this
      rw [hr i hi] at hir
      obtain ⟨_, hlr, hcell⟩ := World.cells?_some hir
      have hj : j < sz := by have := (List.getElem?_eq_some_iff.1 hx).1; omega
      have h3 := hcell j hj
      rw [hx] at h3
      rw [← h3, add_none, add_none]
    · obtain ⟨i, hi⟩ := List.getElem?_of_mem hr'
      have hil : i < len := by have := (List.getElem?_eq_some_iff.1 hi).1; simpa using this
      obtain ⟨r', h2, y, h3⟩ := each i hil
      rw [hr i hil, h2] at hi
      cases hi
      exact ⟨n, y, h3⟩
theorem rows_map {A : Type} {f : A → List Value} {Q : A → Prop} : ∀ (rows : List (List Value)), (∀ r ∈ rows, ∃ a, r = f a ∧ Q a) → ∃ ys : List A, rows = ys.map f ∧ ∀ a ∈ ys, Q a
  | [], _ => ⟨[], rfl, by simp⟩
  | r :: rows, h => by
    obtain ⟨a, rfl, hq⟩ := h r (by simp)
    obtain ⟨ys, rfl, hqs⟩ := rows_map rows fun r hr => h r (by simp [hr])
    exact ⟨a :: ys, rfl, by simpa using ⟨hq, hqs⟩⟩
end
end Go.Proofs.YtepkcjfmdenkcaaDoor.RowKit
