/- SmallHolds answers true. -/
import Derived.Test.YtepkcjfmdenkcaaGreatDoorBenchSN
set_option linter.unusedVariables false
set_option linter.unusedSimpArgs false
set_option maxRecDepth 100000
namespace Go.Proofs.YtepkcjfmdenkcaaGreatDoor.BenchS
open Go.RowKit Go.Proofs Go.Proofs.YtepkcjfmdenkcaaGreatDoor.Eng Go.Proofs.YtepkcjfmdenkcaaGreatDoor.Ty Go.Proofs.YtepkcjfmdenkcaaGreatDoor.Bits Go.Proofs.YtepkcjfmdenkcaaGreatDoor.Mem Go.Proofs.YtepkcjfmdenkcaaGreatDoor.Layout Go.Proofs.YtepkcjfmdenkcaaGreatDoor.GroupB Go.Proofs.YtepkcjfmdenkcaaGreatDoor.Group Go.Proofs.YtepkcjfmdenkcaaGreatDoor.TableB Go.Proofs.YtepkcjfmdenkcaaGreatDoor.TableI Go.Proofs.YtepkcjfmdenkcaaGreatDoor.CtrlB Go.Proofs.YtepkcjfmdenkcaaGreatDoor.Ctrl Go.Proofs.YtepkcjfmdenkcaaGreatDoor.Small Go.Proofs.YtepkcjfmdenkcaaGreatDoor.Arena Go.Proofs.YtepkcjfmdenkcaaGreatDoor.Oracle Go.Proofs.YtepkcjfmdenkcaaGreatDoor.Ref03 Go.Proofs.YtepkcjfmdenkcaaGreatDoor.Ref11 Go.Proofs.YtepkcjfmdenkcaaGreatDoor.Cells

theorem twoI_le {n : Int} {m : Nat} (hm : m ≤ 16) (h : n ≤ 16 * 2 ^ m) : twoI n ≤ 16 * 2 ^ m := by
  unfold twoI
  cases e : (List.range 17).find? (fun e => decide (n ≤ 16 * 2 ^ e)) with
  | none =>
    have := Int.pow_pos (n := 2) (m := m) (by decide)
    simp only; omega
  | some k =>
    rw [List.find?_range_eq_some] at e
    obtain ⟨h1, h2, h3⟩ := e
    have hk : k ≤ m := by
      rcases Nat.lt_or_ge m k with q | q
      · have := h3 m q; simp only [Bool.not_eq_true', decide_eq_false_iff_not] at this; exact absurd h this
      · exact q
    have p1 : 2 ^ k ≤ 2 ^ m := Nat.pow_le_pow_right (by decide) hk
    have pc := pow_cast k
    have pm := pow_cast m
    simp only
    omega
theorem fit16 {l : Lay} (hl : l.err = 0) : classI (32 + l.group) ≤ 65536 := by
  have hb := Lay.bnd hl
  have := twoI_le (n := 32 + l.group) (m := 8) (by decide) (by omega)
  unfold classI
  split
  · decide
  · split <;> omega
end Go.Proofs.YtepkcjfmdenkcaaGreatDoor.BenchS
