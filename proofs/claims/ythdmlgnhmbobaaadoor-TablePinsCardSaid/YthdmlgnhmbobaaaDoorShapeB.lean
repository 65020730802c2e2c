/- Counts of a table's cells, group by group. No program. -/
import Derived.Test.YthdmlgnhmbobaaaDoorBenchB
set_option linter.unusedVariables false
set_option linter.unusedSimpArgs false
set_option maxRecDepth 100000
namespace Go.Proofs.YthdmlgnhmbobaaaDoor.Bench
open Go.RowKit Go.Proofs Go.Proofs.YthdmlgnhmbobaaaDoor.Eng Go.Proofs.YthdmlgnhmbobaaaDoor.Bits Go.Proofs.YthdmlgnhmbobaaaDoor.Layout Go.Proofs.YthdmlgnhmbobaaaDoor.Mem Go.Proofs.YthdmlgnhmbobaaaDoor.CtrlB Go.Proofs.YthdmlgnhmbobaaaDoor.GroupB Go.Proofs.YthdmlgnhmbobaaaDoor.Probe Go.Proofs.YthdmlgnhmbobaaaDoor.TableB Go.Proofs.YthdmlgnhmbobaaaDoor.TableI Go.Proofs.YthdmlgnhmbobaaaDoor.Table

section
variable (p : Cell → Bool) (cells : Nat → Cell)
/-- How many of the first i cells are such, in group g. -/
def cntG (i g : Nat) : Int := ((cnt p cells (min i (8 * g + 8)) : Nat) : Int) - ((cnt p cells (min i (8 * g)) : Nat) : Int)
def cntL (n i : Nat) : List Value := (List.range n).map fun g => .int .i64 (cntG p cells i g)
variable {p} {cells}
theorem cnt_more {a : Nat} : ∀ d, cnt p cells a ≤ cnt p cells (a + d) ∧ cnt p cells (a + d) ≤ cnt p cells a + d
  | 0 => by simp
  | d + 1 => by
    have := cnt_more (a := a) d
    rw [← Nat.add_assoc, cnt_succ]
    split <;> omega
theorem cnt_some {a : Nat} : ∀ d, cnt p cells a < cnt p cells (a + d) → ∃ i, a ≤ i ∧ i < a + d ∧ p (cells i) = true
  | 0, h => by simp at h
  | d + 1, h => by
    rw [← Nat.add_assoc, cnt_succ] at h
    cases q : p (cells (a + d)) with
    | true => exact ⟨a + d, by omega, by omega, q⟩
    | false =>
      rw [q] at h
      obtain ⟨i, h1, h2, h3⟩ := cnt_some d (by simpa using h)
      exact ⟨i, h1, by omega, h3⟩
theorem cnt_nil {a : Nat} : ∀ d, (∀ i, a ≤ i → i < a + d → p (cells i) = false) → cnt p cells (a + d) = cnt p cells a
  | 0, _ => rfl
  | d + 1, h => by rw [← Nat.add_assoc, cnt_succ, cnt_nil d fun i h1 h2 => h i h1 (by omega), h (a + d) (by omega) (by omega)]; rfl
theorem cntG_bnd (i g : Nat) : 0 ≤ cntG p cells i g ∧ cntG p cells i g ≤ 8 := by
  unfold cntG
  obtain ⟨d, hd, h8⟩ : ∃ d, min i (8 * g + 8) = min i (8 * g) + d ∧ d ≤ 8 := ⟨min i (8 * g + 8) - min i (8 * g), by omega, by omega⟩
  have := cnt_more (p := p) (cells := cells) (a := min i (8 * g)) d
  rw [hd]; omega
theorem cntG_step (i g : Nat) : cntG p cells (i + 1) g = cntG p cells i g + if i / 8 = g ∧ p (cells i) = true then 1 else 0 := by
  unfold cntG
  by_cases h1 : i / 8 = g
  · rw [show min (i + 1) (8 * g + 8) = i + 1 by omega, show min (i + 1) (8 * g) = min i (8 * g) by omega, show min i (8 * g + 8) = i by omega, cnt_succ]
    by_cases h2 : p (cells i) = true
    · rw [if_pos h2, if_pos ⟨h1, h2⟩]; omega
    · rw [if_neg h2, if_neg fun q => h2 q.2]; omega
  · rw [if_neg fun q => h1 q.1]
    rcases Nat.lt_or_ge i (8 * g) with h2 | h2
    · rw [show min (i + 1) (8 * g + 8) = i + 1 by omega, show min (i + 1) (8 * g) = i + 1 by omega, show min i (8 * g + 8) = i by omega, show min i (8 * g) = i by omega]; omega
    · rw [show min (i + 1) (8 * g + 8) = min i (8 * g + 8) by omega, show min (i + 1) (8 * g) = min i (8 * g) by omega]; omega
theorem cntL_zero (n : Nat) : List.replicate n (Value.int .i64 0) = cntL p cells n 0 := by
  unfold cntL
  apply List.ext_getElem
  · simp
  · intro i h1 h2
    simp [cntG]
theorem cntL_len (n i : Nat) : (cntL p cells n i).length = n := by simp [cntL]
theorem cntL_get {n i g : Nat} (hg : g < n) : (cntL p cells n i)[g]? = some (.int .i64 (cntG p cells i g)) := by
  unfold cntL
  rw [List.getElem?_map, List.getElem?_range hg]; rfl
theorem cntL_keep {n i : Nat} (h : p (cells i) = false) : cntL p cells n i = cntL p cells n (i + 1) := by
  unfold cntL
  congr 1; funext g
  rw [cntG_step, h]; simp
theorem cntL_set {n i : Nat} (h : p (cells i) = true) : (cntL p cells n i).set (i / 8) (.int .i64 (cntG p cells i (i / 8) + 1)) = cntL p cells n (i + 1) := by
  apply List.ext_getElem
  · simp [cntL]
  · intro g h1 h2
    rw [List.getElem_set]
    simp only [cntL, List.getElem_map, List.getElem_range]
    rw [cntG_step]
    split
    · next q => rw [if_pos ⟨q, h⟩, q]
    · next q => rw [if_neg fun q2 => q q2.1]; simp
theorem cntG_all {n g : Nat} (hg : g < n) : cntG p cells (8 * n) g = ((cnt p cells (8 * g + 8) : Nat) : Int) - ((cnt p cells (8 * g) : Nat) : Int) := by
  unfold cntG
  rw [show min (8 * n) (8 * g + 8) = 8 * g + 8 by omega, show min (8 * n) (8 * g) = 8 * g by omega]
theorem cntG_some {n g : Nat} (hg : g < n) (h : 0 < cntG p cells (8 * n) g) : ∃ i, i < 8 * n ∧ i / 8 = g ∧ p (cells i) = true := by
  rw [cntG_all hg] at h
  obtain ⟨i, h1, h2, h3⟩ := cnt_some (p := p) (cells := cells) (a := 8 * g) 8 (by omega)
  exact ⟨i, by omega, by omega, h3⟩
theorem cntG_none {n g : Nat} (hg : g < n) (h : ∀ r, r < 8 → p (cells (8 * g + r)) = false) : cntG p cells (8 * n) g = 0 := by
  rw [cntG_all hg, cnt_nil 8 fun i h1 h2 => by have := h (i - 8 * g) (by omega); rw [show 8 * g + (i - 8 * g) = i by omega] at this; exact this]
  omega
end
theorem del_iff {c : Cell} : isDel c = true ↔ c = .deleted := by cases c <;> simp [isDel]
theorem emp_iff' {c : Cell} : isEmp c = true ↔ c = .empty := by cases c <;> simp [isEmp]
/-- A cell as the program reads it. -/
def cellV (c : Cell) : List Value := [.int .i64 c.kind, .int .i64 c.tagI, .string c.keyS, .string c.elemS, .int .i64 c.birthI]
theorem cellV5 (c : Cell) : (cellV c).length = 5 := rfl
/-- No group ahead on the way has an empty slot. -/
theorem way_empty {n : Nat} {cells : Nat → Cell} {home : Int} {j : Nat} (hj : j < n) (h : empAt home n cells j = 8) : cntG isEmp cells (8 * n) (gk home n j) = 0 := by
  refine cntG_none (gk_lt (by omega)) fun r hr => ?_
  unfold empAt at h
  rw [firstF_none] at h
  have := h r hr
  cases q : cells (8 * gk home n j + r) with
  | empty => rw [emp_iff.2 (show grpC cells (gk home n j) r = .empty from q)] at this; cases this
  | deleted => rfl
  | full _ _ _ _ => rfl
end Go.Proofs.YthdmlgnhmbobaaaDoor.Bench
