/- The way through the groups, in plain numbers: every group is met, just once. No program's text. -/
import Derived.Test.YtgijnebgchkenaaGreatDoorProbe
set_option linter.unusedVariables false
set_option linter.unusedSimpArgs false
namespace Go.Proofs.YtgijnebgchkenaaGreatDoor.Probe
open Go.RowKit Go.Proofs Go.Proofs.YtgijnebgchkenaaGreatDoor.Eng Go.Proofs.YtgijnebgchkenaaGreatDoor.Bits

theorem pow_dvd_odd {m a b : Nat} (h : 2 ^ m ∣ a * b) (ha : a % 2 = 1) : 2 ^ m ∣ b := by
  have : Nat.Coprime (2 ^ m) a := by
    apply Nat.Coprime.pow_left
    rw [Nat.coprime_iff_gcd_eq_one, Nat.gcd_comm, Nat.gcd_comm]
    rw [Nat.gcd_rec, ha]
    simp
  exact this.dvd_of_dvd_mul_left h

/-- Two steps of the way that come to one group are one. -/
theorem tri_inj {e i j : Nat} (hi : i < 2 ^ e) (hj : j < 2 ^ e) (hij : i < j) (h : 2 ^ e ∣ j * (j + 1) / 2 - i * (i + 1) / 2) : False := by
  obtain ⟨d, rfl⟩ : ∃ d, j = i + d := ⟨j - i, by omega⟩
  have e1 : (i + d) * (i + d + 1) = i * (i + 1) + d * (2 * i + d + 1) := by
    simp only [Nat.add_mul, Nat.mul_add, Nat.mul_one, Nat.one_mul]
    rw [Nat.mul_comm i d, Nat.mul_comm d (2 * i), Nat.mul_assoc 2 i d, Nat.mul_comm i d]
    omega
  have even : ∀ n : Nat, n * (n + 1) % 2 = 0 := fun n => by
    rcases Nat.mod_two_eq_zero_or_one n with q | q <;> simp [Nat.mul_mod, Nat.add_mod, q]
  have ev1 := even i
  have ev2 := even (i + d)
  have hd2 : 2 ^ (e + 1) ∣ d * (2 * i + d + 1) := by
    obtain ⟨c, hc⟩ := h
    refine ⟨c, ?_⟩
    have : 2 ^ (e + 1) * c = 2 * (2 ^ e * c) := by rw [Nat.pow_succ, Nat.mul_comm (2 ^ e) 2, Nat.mul_assoc]
    rw [this, ← hc]
    omega
  have hp : 2 ^ (e + 1) = 2 * 2 ^ e := by rw [Nat.pow_succ]; omega
  rcases Nat.mod_two_eq_zero_or_one d with q | q
  · have hdv : 2 ^ (e + 1) ∣ d := pow_dvd_odd (a := 2 * i + d + 1) (by rw [Nat.mul_comm]; exact hd2) (by omega)
    have := Nat.le_of_dvd (by omega) hdv
    omega
  · have hdv := pow_dvd_odd hd2 q
    have := Nat.le_of_dvd (by omega) hdv
    omega

theorem ord_inj {home : Int} {g e i j : Nat} (hg : g = 2 ^ e) (hi : i < g) (hj : j < g) (h : ord home g i = ord home g j) : i = j := by
  have key : ∀ a b : Nat, a < g → b < g → a < b → ord home g a = ord home g b → False := fun a b ha hb hab hh => by
    unfold ord at hh
    have h2 := Int.emod_emod_of_dvd
    have h3 : ((b * (b + 1) / 2 : Nat) : Int) - ((a * (a + 1) / 2 : Nat) : Int) = (g : Int) * ((home + ((b * (b + 1) / 2 : Nat) : Int)) / g - (home + ((a * (a + 1) / 2 : Nat) : Int)) / g) := by
      have x1 := Int.mul_ediv_add_emod (home + ((a * (a + 1) / 2 : Nat) : Int)) g
      have x2 := Int.mul_ediv_add_emod (home + ((b * (b + 1) / 2 : Nat) : Int)) g
      rw [Int.mul_sub]
      omega
    have hle : a * (a + 1) / 2 ≤ b * (b + 1) / 2 := Nat.div_le_div_right (Nat.mul_le_mul (by omega) (by omega))
    have h4 : ((b * (b + 1) / 2 - a * (a + 1) / 2 : Nat) : Int) = (g : Int) * ((home + ((b * (b + 1) / 2 : Nat) : Int)) / g - (home + ((a * (a + 1) / 2 : Nat) : Int)) / g) := by
      rw [← h3]; omega
    have h5 : (g : Int) ∣ ((b * (b + 1) / 2 - a * (a + 1) / 2 : Nat) : Int) := ⟨_, h4⟩
    have h6 : g ∣ b * (b + 1) / 2 - a * (a + 1) / 2 := Int.natCast_dvd_natCast.1 h5
    subst hg
    exact tri_inj ha hb hab h6
  rcases Nat.lt_trichotomy i j with q | q | q
  · exact (key i j hi hj q h).elim
  · exact q
  · exact (key j i hj hi q h.symm).elim

theorem pigeon : ∀ (n m : Nat) (f : Nat → Nat), (∀ k, k < n → f k < m) → (∀ i j, i < n → j < n → f i = f j → i = j) → n ≤ m
  | 0, m, f, _, _ => by omega
  | n + 1, m, f, h1, h2 => by
    have hv := h1 n (by omega)
    have := pigeon n (m - 1) (fun k => if f k > f n then f k - 1 else f k) (fun k hk => by
      have a := h1 k (by omega)
      have b : f k ≠ f n := fun q => by have := h2 k n (by omega) (by omega) q; omega
      try dsimp only
      split <;> omega) (fun i j hi hj hh => by
      have a : f i ≠ f n := fun q => by have := h2 i n (by omega) (by omega) q; omega
      have b : f j ≠ f n := fun q => by have := h2 j n (by omega) (by omega) q; omega
      refine h2 i j (by omega) (by omega) ?_
      try dsimp only at hh
      split at hh <;> split at hh <;> omega)
    omega
theorem onto (n : Nat) (f : Nat → Nat) (h1 : ∀ k, k < n → f k < n) (h2 : ∀ i j, i < n → j < n → f i = f j → i = j) (v : Nat) (hv : v < n) : ∃ k, k < n ∧ f k = v := by
  refine Classical.byContradiction fun hno => ?_
  have hne : ∀ k, k < n → f k ≠ v := fun k hk q => hno ⟨k, hk, q⟩
  have := pigeon n (n - 1) (fun k => if f k > v then f k - 1 else f k) (fun k hk => by
    have a := h1 k hk
    have b := hne k hk
    try dsimp only
    split <;> omega) (fun i j hi hj hh => by
    have a := hne i hi
    have b := hne j hj
    refine h2 i j hi hj ?_
    try dsimp only at hh
    split at hh <;> split at hh <;> omega)
  omega

theorem ord_bounds (home : Int) (g k : Nat) (h : 0 < g) : 0 ≤ ord home g k ∧ ord home g k < (g : Int) := by
  unfold ord
  exact ⟨Int.emod_nonneg _ (by omega), Int.emod_lt_of_pos _ (by omega)⟩
theorem ord_onto {home : Int} {g e : Nat} (hg : g = 2 ^ e) {v : Int} (h0 : 0 ≤ v) (h1 : v < g) : ∃ k, k < g ∧ ord home g k = v := by
  have hp : 0 < g := by rw [hg]; exact Nat.two_pow_pos e
  obtain ⟨k, hk, h⟩ := onto g (fun k => (ord home g k).toNat) (fun k _ => by have := ord_bounds home g k hp; (try dsimp only); omega) (fun i j hi hj hh => by
    have a := ord_bounds home g i hp
    have b := ord_bounds home g j hp
    try dsimp only at hh
    exact ord_inj (home := home) hg hi hj (by omega)) v.toNat (by omega)
  have a := ord_bounds home g k hp
  try dsimp only at h
  exact ⟨k, hk, by omega⟩

/-- Where there are groups. -/
theorem stI_ord {home groups : Int} (hv : powB groups 1 8192 = true) {k : Nat} (hk : k < grp groups) : stI home groups (ord home (grp groups) k) = k := by
  obtain ⟨_, e, _, hg⟩ := grp_yes hv
  exact stI_hit hk rfl fun j hj q => by have := ord_inj hg (by omega) hk q; omega
theorem stI_cases {home groups : Int} (hv : powB groups 1 8192 = true) (v : Int) :
    ((0 ≤ v ∧ v < groups) ∧ ∃ k : Nat, k < grp groups ∧ stI home groups v = k ∧ ord home (grp groups) k = v) ∨ (¬ (0 ≤ v ∧ v < groups) ∧ stI home groups v = -1) := by
  obtain ⟨hgi, e, _, hg⟩ := grp_yes hv
  by_cases h : 0 ≤ v ∧ v < groups
  · obtain ⟨k, hk, hko⟩ := ord_onto (home := home) hg h.1 (by omega)
    exact .inl ⟨h, k, hk, by rw [← hko]; exact stI_ord hv hk, hko⟩
  · refine .inr ⟨h, stI_miss fun j hj q => ?_⟩
    have := ord_bounds home (grp groups) j (by omega)
    omega
theorem atI_cases {home groups : Int} (hv : powB groups 1 8192 = true) (n : Int) :
    ((0 ≤ n ∧ n < groups) ∧ (0 ≤ atI home groups n ∧ atI home groups n < groups) ∧ stI home groups (atI home groups n) = n) ∨ (¬ (0 ≤ n ∧ n < groups) ∧ atI home groups n = -1) := by
  obtain ⟨hgi, e, _, hg⟩ := grp_yes hv
  by_cases h : 0 ≤ n ∧ n < groups
  · have ha : atI home groups n = ord home (grp groups) n.toNat := by unfold atI; rw [if_pos ⟨h.1, by omega⟩]
    have hb := ord_bounds home (grp groups) n.toNat (by omega)
    refine .inl ⟨h, by omega, ?_⟩
    rw [ha, stI_ord hv (by omega)]
    omega
  · exact .inr ⟨h, by unfold atI; rw [if_neg (by omega)]⟩
theorem atI_st {home groups : Int} (hv : powB groups 1 8192 = true) {v : Int} (h : 0 ≤ v ∧ v < groups) : 0 ≤ stI home groups v ∧ stI home groups v < groups ∧ atI home groups (stI home groups v) = v := by
  obtain ⟨hgi, e, _, hg⟩ := grp_yes hv
  rcases stI_cases (home := home) hv v with ⟨_, k, hk, h1, h2⟩ | ⟨h1, _⟩
  · rw [h1]
    refine ⟨by omega, by omega, ?_⟩
    unfold atI
    rw [if_pos ⟨by omega, by omega⟩, Int.toNat_natCast, h2]
  · exact absurd h h1
theorem no_at {home groups n : Int} (hv : powB groups 1 8192 = false) : atI home groups n = -1 := by unfold atI; rw [grp_no hv, if_neg (by omega)]
theorem no_st {home groups n : Int} (hv : powB groups 1 8192 = false) : stI home groups n = -1 := stI_miss fun j hj => by rw [grp_no hv] at hj; omega
end Go.Proofs.YtgijnebgchkenaaGreatDoor.Probe
