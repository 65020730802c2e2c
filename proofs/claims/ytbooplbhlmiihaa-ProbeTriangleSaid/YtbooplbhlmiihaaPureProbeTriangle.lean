/- ProbeTriangle answers true: for every home, every number of groups and every step; no condition. -/
import Derived.Test.YtbooplbhlmiihaaPProbeTrianglex1
import Derived.Test.YtbooplbhlmiihaaBits
set_option linter.unusedVariables false
set_option linter.unusedSimpArgs false
namespace Go.Proofs.Ytbooplbhlmiihaa.Pure
open Go.RowKit Go.Proofs.Ytbooplbhlmiihaa.PProbeTriangle Go.Proofs.YtbooplbhlmiihaaW.PrintWords Go.Proofs.YtbooplbhlmiihaaW.PrintLast Go.Proofs.Ytbooplbhlmiihaa.Bits

theorem valid_yes (k : Nat) (hk : k ≤ 13) : larderlaw07_valid.f ((2 : Int) ^ k) = some true ∧ probe_power.f ((2 : Int) ^ k) 1 8192 = some true := by
  have h0 : 0 < 2 ^ k := Nat.two_pow_pos k
  have h1 : 2 ^ k ≤ 8192 := (Nat.pow_le_pow_right (by decide : 0 < 2) hk : 2 ^ k ≤ 2 ^ 13)
  have hp : pow2 ((2 ^ k : Nat) : Int) = true := (pow2_nat _ h0 (by omega)).2 ⟨k, rfl⟩
  rw [pow_cast] at hp
  have e := pow_cast k
  unfold larderlaw07_valid.f probe_power.f
  rw [if_pos (by omega), if_pos (by omega)]
  exact ⟨congrArg some hp, congrArg some hp⟩

theorem valid_no (g : Int) (h : ¬ ∃ k : Nat, k ≤ 13 ∧ g = (2 : Int) ^ k) : larderlaw07_valid.f g = some false ∧ probe_power.f g 1 8192 = some false := by
  unfold larderlaw07_valid.f probe_power.f
  by_cases h1 : g ≥ 1
  · by_cases h2 : g ≤ 8192
    · have hp : pow2 g = false := by
        rw [Bool.eq_false_iff]
        intro hp
        obtain ⟨n, rfl⟩ := Int.eq_ofNat_of_zero_le (by omega : 0 ≤ g)
        obtain ⟨k, hk⟩ := (pow2_nat n (by omega) (by omega)).1 hp
        refine h ⟨k, ?_, by rw [hk]; exact pow_cast k⟩
        have : (2 : Nat) ^ k ≤ 2 ^ 13 := by rw [← hk]; omega
        exact pow2_le this
      rw [if_pos h1, if_pos h2]
      exact ⟨congrArg some hp, congrArg some hp⟩
    · rw [if_pos h1, if_neg h2]; exact ⟨rfl, rfl⟩
  · rw [if_neg h1]; exact ⟨rfl, rfl⟩

theorem at_no (h g n : Int) (hg : ¬ ∃ k : Nat, k ≤ 13 ∧ g = (2 : Int) ^ k) : probe_At.f h g n = some (-1) := by
  unfold probe_At.f
  rw [(valid_no g hg).2]; rfl

theorem at_out (h n : Int) (k : Nat) (hk : k ≤ 13) (hn : n < 0 ∨ (2 : Int) ^ k ≤ n) : probe_At.f h ((2 : Int) ^ k) n = some (-1) := by
  unfold probe_At.f
  rw [(valid_yes k hk).2]
  simp only [Option.bind_some, if_true]
  by_cases h0 : n < 0
  · rw [if_pos h0]
  · rw [if_neg h0, if_pos (by omega)]

theorem mul_le (n g : Int) (h0 : 0 ≤ n) (h1 : n < g) (hg : g ≤ 8192) : 0 ≤ n * (n + 1) ∧ n * (n + 1) ≤ 67108864 := by
  refine ⟨Int.mul_nonneg h0 (by omega), ?_⟩
  have : n * (n + 1) ≤ 8191 * 8192 := Int.mul_le_mul (by omega) (by omega) (by omega) (by omega)
  omega

theorem dvd64 (k : Nat) (hk : k ≤ 13) : (2 : Int) ^ k ∣ 18446744073709551616 := by
  have : (18446744073709551616 : Int) = 2 ^ k * 2 ^ (64 - k) := by
    rw [← Int.pow_add, show k + (64 - k) = 64 by omega]; decide
  exact ⟨_, this⟩

theorem at_in (h n : Int) (hh : 0 ≤ h) (hl : h < 18446744073709551616) (k : Nat) (hk : k ≤ 13) (h0 : 0 ≤ n) (h1 : n < (2 : Int) ^ k) :
    probe_At.f h ((2 : Int) ^ k) n = some ((h + n * (n + 1) / 2) % (2 : Int) ^ k) := by
  have hg : (2 : Int) ^ k ≤ 8192 := by
    have := pow_cast k
    have : 2 ^ k ≤ 8192 := (Nat.pow_le_pow_right (by decide : 0 < 2) hk : 2 ^ k ≤ 2 ^ 13)
    omega
  obtain ⟨m0, m1⟩ := mul_le n _ h0 h1 hg
  unfold probe_At.f
  rw [(valid_yes k hk).2]
  simp only [Option.bind_some, if_true]
  rw [if_neg (by omega), if_neg (by omega)]
  have e1 : wrap64 (n + 1) = n + 1 := by unfold wrap64; omega
  have e2 : wrap64 ((2 : Int) ^ k - 1) = (2 : Int) ^ k - 1 := by unfold wrap64; omega
  have e3 : IntKind.u64.wrap ((2 : Int) ^ k - 1) = (2 : Int) ^ k - 1 := by rw [IntKind.wrap_u64]; omega
  rw [e1, e2, e3]
  generalize n * (n + 1) = p at m0 m1 ⊢
  have e4 : wrap64 p = p := by unfold wrap64; omega
  have e5 : Int.tdiv p 2 = p / 2 := Int.tdiv_eq_ediv_of_nonneg m0
  have e6 : wrap64 (p / 2) = p / 2 := by unfold wrap64; omega
  have e7 : IntKind.u64.wrap (p / 2) = p / 2 := by rw [IntKind.wrap_u64]; omega
  rw [e4, e5, e6, e7, IntKind.wrap_u64, mask_u64 _ (by omega) (by omega) k (by omega), Int.emod_emod_of_dvd _ (dvd64 k hk)]
  have l0 := Int.emod_nonneg (h + p / 2) (by omega : (2 : Int) ^ k ≠ 0)
  have l1 := Int.emod_lt_of_pos (h + p / 2) (by omega : 0 < (2 : Int) ^ k)
  congr 1
  unfold wrap64; omega

theorem step_tri (n : Int) : (n + 1) * (n + 1 + 1) / 2 = n * (n + 1) / 2 + n + 1 := by
  have : (n + 1) * (n + 1 + 1) = n * (n + 1) + 2 * (n + 1) := by simp only [Int.add_mul, Int.mul_add]; omega
  rw [this]; generalize n * (n + 1) = p; omega

theorem ProbeTriangle : larderlaw07_ProbeTriangle.Pure := by
  intro h g n wh _ _
  obtain ⟨hh, hl⟩ : 0 ≤ h ∧ h < 18446744073709551616 := by simp [Lit.wf, IntKind.min, IntKind.max, IntKind.signed, IntKind.bits] at wh; omega
  refine ⟨2, ?_⟩
  unfold larderlaw07_ProbeTriangle.f probe_Start.f
  by_cases hg : ∃ k : Nat, k ≤ 13 ∧ g = (2 : Int) ^ k
  · obtain ⟨k, hk, rfl⟩ := hg
    have hg0 : 0 < (2 : Int) ^ k := by have := pow_cast k; have := Nat.two_pow_pos k; omega
    have hg1 : (2 : Int) ^ k ≤ 8192 := by
      have := pow_cast k
      have : 2 ^ k ≤ 8192 := (Nat.pow_le_pow_right (by decide : 0 < 2) hk : 2 ^ k ≤ 2 ^ 13)
      omega
    have e1 : IntKind.u64.wrap ((2 : Int) ^ k) = (2 : Int) ^ k := by rw [IntKind.wrap_u64]; omega
    have e2 : wrap64 ((2 : Int) ^ k - 1) = (2 : Int) ^ k - 1 := by unfold wrap64; omega
    have l0 := Int.emod_nonneg h (by omega : (2 : Int) ^ k ≠ 0)
    have l1 := Int.emod_lt_of_pos h hg0
    have e3 : wrap64 (Int.tmod h ((2 : Int) ^ k)) = h % (2 : Int) ^ k := by rw [Int.tmod_eq_emod_of_nonneg hh]; unfold wrap64; omega
    rw [(valid_yes k hk).1, e1, e3, at_in h 0 hh hl k hk (by omega) hg0]
    have e4 : (h + 0 * (0 + 1) / 2) % (2 : Int) ^ k = h % (2 : Int) ^ k := by simp
    rw [e4]
    simp only [Option.bind_some, if_true, bne_self_eq_false]
    rw [if_neg (by omega), larderlaw07_ProbeTriangle.j0, if_neg (by decide), e2]
    by_cases hn0 : n < 0
    · rw [if_pos hn0, larderlaw07_ProbeTriangle.j1, if_pos rfl, e2, if_neg (by omega), at_out h n k hk (.inl hn0)]; rfl
    · rw [if_neg hn0]
      by_cases hn1 : n ≥ (2 : Int) ^ k - 1
      · rw [decide_eq_true hn1, larderlaw07_ProbeTriangle.j1, if_pos rfl, e2]
        by_cases hn2 : n = (2 : Int) ^ k - 1
        · rw [if_pos hn2]
        · rw [if_neg hn2, at_out h n k hk (.inr (by omega))]; rfl
      · rw [decide_eq_false hn1, larderlaw07_ProbeTriangle.j1, if_neg (by decide), at_in h n hh hl k hk (by omega) (by omega)]
        have e5 : wrap64 (n + 1) = n + 1 := by unfold wrap64; omega
        rw [e5, at_in h (n + 1) hh hl k hk (by omega) (by omega), step_tri]
        simp only [Option.bind_some]
        rw [if_neg (by omega), e1, IntKind.wrap_u64, at_in ((h + (2 : Int) ^ k) % 18446744073709551616) n (by omega) (by omega) k hk (by omega) (by omega)]
        generalize n * (n + 1) / 2 = t
        have a0 := Int.emod_nonneg (h + t) (by omega : (2 : Int) ^ k ≠ 0)
        have a1 := Int.emod_lt_of_pos (h + t) hg0
        have e6 : wrap64 (wrap64 ((h + t) % (2 : Int) ^ k + n) + 1) = (h + t) % (2 : Int) ^ k + (n + 1) := by unfold wrap64; omega
        rw [e6, Int.tmod_eq_emod_of_nonneg (by omega), Int.emod_add_emod, if_pos (by congr 1; omega)]
        simp only [Option.bind_some, Option.some.injEq, beq_iff_eq]
        rw [Int.add_emod, Int.emod_emod_of_dvd _ (dvd64 k hk), Int.add_emod_right, ← Int.add_emod]
  · rw [(valid_no g hg).1, at_no h g 0 hg, at_no h g n hg]; rfl
end Go.Proofs.Ytbooplbhlmiihaa.Pure
