import Derived.Test.YtgijnebgchkenaaGreatDoorProbeWay
section
/- The contracts of package probe, continued: sizes; and of the reference of layer 7. -/
set_option linter.unusedVariables false
set_option linter.unusedSimpArgs false
set_option maxRecDepth 100000
namespace Go.Proofs.YtgijnebgchkenaaGreatDoor.Probe
open Go.RowKit Go.Proofs Go.Proofs.YtgijnebgchkenaaGreatDoor.Eng Go.Proofs.YtgijnebgchkenaaGreatDoor.Ty Go.Proofs.YtgijnebgchkenaaGreatDoor.Bits

def mostI (s : Int) : Int := if powB s 8 65536 then s - s / 8 else 0
theorem powB_le {n lo hi : Int} (h : powB n lo hi = true) : lo ≤ n ∧ n ≤ hi := by simp only [powB, Bool.and_eq_true, decide_eq_true_eq] at h; omega

theorem Most_ok (s : Int) : FnOk Tryz.prog 72 #[.int .i64 s] [] (fun v L => v = .int .i64 (mostI s) ∧ L = []) := by
  refine fn_intro en72 Tryz.func72 rfl rfl rfl fun Fr w0 => t_nm ?_
  refine sr <| asg rfl rfl <| lc <| t_seq <| sr <| mv rfl rfl <| lc1 rfl rfl rfl (power_ok _ _ _ (by omega) (by omega)) ?_
  refine l_q rfl (q_un rfl (u_not ·)) <| lc <| t_if rfl (fun h => ?_) fun h => ?_
  · refine sr <| asg rfl rfl <| lc <| rt <| fr1 rfl ([]) (.tmp rfl) ?_
    exact ⟨by unfold mostI; rw [show powB s 8 65536 = false by simpa using h]; rfl, rfl⟩
  · have hb := powB_le (show powB s 8 65536 = true by simpa using h)
    refine t_skip <| nz <| mv rfl rfl <| mv rfl rfl <| l_q rfl (qquo rfl rfl) ?_
    refine l_q rfl (qsub rfl rfl) ?_
    refine asg rfl rfl <| lc <| rt <| fr1 rfl ([]) (.tmp rfl) ?_
    exact ⟨by unfold mostI; rw [show powB s 8 65536 = true by simpa using h]; rfl, rfl⟩

/-- How many bits. -/
def blen (x : Int) : Nat := if x = 0 then 0 else Nat.log2 x.toNat + 1
def tabS : ByteArray := (⟨#[0, 1, 2, 2, 3, 3, 3, 3, 4, 4, 4, 4, 4, 4, 4, 4, 5, 5, 5, 5, 5, 5, 5, 5, 5, 5, 5, 5, 5, 5, 5, 5, 6, 6, 6, 6, 6, 6, 6, 6, 6, 6, 6, 6, 6, 6, 6, 6, 6, 6, 6, 6, 6, 6, 6, 6, 6, 6, 6, 6, 6, 6, 6, 6, 7, 7, 7, 7, 7, 7, 7, 7, 7, 7, 7, 7, 7, 7, 7, 7, 7, 7, 7, 7, 7, 7, 7, 7, 7, 7, 7, 7, 7, 7, 7, 7, 7, 7, 7, 7, 7, 7, 7, 7, 7, 7, 7, 7, 7, 7, 7, 7, 7, 7, 7, 7, 7, 7, 7, 7, 7, 7, 7, 7, 7, 7, 7, 7, 8, 8, 8, 8, 8, 8, 8, 8, 8, 8, 8, 8, 8, 8, 8, 8, 8, 8, 8, 8, 8, 8, 8, 8, 8, 8, 8, 8, 8, 8, 8, 8, 8, 8, 8, 8, 8, 8, 8, 8, 8, 8, 8, 8, 8, 8, 8, 8, 8, 8, 8, 8, 8, 8, 8, 8, 8, 8, 8, 8, 8, 8, 8, 8, 8, 8, 8, 8, 8, 8, 8, 8, 8, 8, 8, 8, 8, 8, 8, 8, 8, 8, 8, 8, 8, 8, 8, 8, 8, 8, 8, 8, 8, 8, 8, 8, 8, 8, 8, 8, 8, 8, 8, 8, 8, 8, 8, 8, 8, 8, 8, 8, 8, 8, 8, 8, 8, 8, 8, 8, 8, 8, 8, 8, 8, 8, 8, 8]⟩ : ByteArray)
theorem tab8 : ∀ i : Fin 256, tabS[i.val]? = some (UInt8.ofNat (blen (i.val : Int))) ∧ blen (i.val : Int) ≤ 8 := by decide +kernel
theorem tabAt {i : Int} (h0 : 0 ≤ i) (h1 : i < 256) : ∃ u : UInt8, tabS[i.toNat]? = some u ∧ (u.toNat : Int) = blen i := by
  have := tab8 ⟨i.toNat, by omega⟩
  have e : ((i.toNat : Nat) : Int) = i := by omega
  simp only [e] at this
  exact ⟨_, this.1, by rw [UInt8.toNat_ofNat']; omega⟩
theorem blen_shift {x : Int} (h0 : 256 ≤ x) : blen x = 8 + blen (x / 256) := by
  obtain ⟨n, rfl⟩ := Int.eq_ofNat_of_zero_le (by omega : 0 ≤ x)
  have h1 : n / 256 ≠ 0 := by omega
  have e : ((n : Int) / 256).toNat = n / 256 := by omega
  unfold blen
  rw [if_neg (by omega), if_neg (by omega), e, Int.toNat_natCast]
  have : Nat.log2 n = Nat.log2 (n / 256) + 8 := by
    have a1 := Nat.log2_self_le h1
    have a2 := Nat.lt_log2_self (n := n / 256)
    rw [Nat.log2_eq_iff (by omega)]
    generalize Nat.log2 (n / 256) = l at a1 a2 ⊢
    have b1 : 2 ^ (l + 8) = 2 ^ l * 256 := Nat.pow_add 2 l 8
    have b2 : 2 ^ (l + 8 + 1) = 2 ^ l * 512 := Nat.pow_add 2 l 9
    have b3 : 2 ^ (l + 1) = 2 ^ l * 2 := Nat.pow_add 2 l 1
    omega
  omega

/-- The least table that holds n keys, s slots; 0: there is none. -/
def LeastS (n s : Int) : Prop := ((n < 0 ∨ 57344 < n) ∧ s = 0) ∨ (0 ≤ n ∧ n ≤ 57344 ∧ ∃ k : Nat, k ≤ 13 ∧ s = 8 * 2 ^ k ∧ n ≤ 7 * 2 ^ k ∧ (k = 0 ∨ 7 * 2 ^ k < 2 * n))

theorem pow_step (k : Nat) : (2 : Int) ^ (k + 1) = 2 * 2 ^ k := by rw [Int.pow_succ]; omega
theorem pow_pos2 (k : Nat) : (1 : Int) ≤ 2 ^ k := by have := pow_cast k; have := Nat.two_pow_pos k; omega
theorem pow_le2 {j k : Nat} (h : j ≤ k) : (2 : Int) ^ j ≤ 2 ^ k := by
  have a := pow_cast j; have b := pow_cast k
  have : 2 ^ j ≤ 2 ^ k := Nat.pow_le_pow_right (by decide) h
  omega
theorem powB8 (n : Int) : powB n 8 65536 = true ↔ ∃ k : Nat, k ≤ 13 ∧ n = 8 * 2 ^ k := by
  have := powB_iff n 8 3 16 65536 (by decide) (by decide) (by decide)
  refine this.trans ⟨fun ⟨k, a, b, e⟩ => ⟨k - 3, by omega, ?_⟩, fun ⟨k, a, e⟩ => ⟨k + 3, by omega, by omega, by rw [e, Int.pow_add]; omega⟩⟩
  rw [e]
  have : (2 : Int) ^ (k - 3 + 3) = 2 ^ (k - 3) * 2 ^ 3 := Int.pow_add 2 (k - 3) 3
  rw [show k - 3 + 3 = k by omega] at this
  rw [this]; omega
theorem most8 (k : Nat) (h : k ≤ 13) : mostI (8 * 2 ^ k) = 7 * 2 ^ k := by
  unfold mostI
  rw [(powB8 _).2 ⟨k, h, rfl⟩]
  simp only [if_true]
  omega
theorem LeastS.uniq {n s t : Int} (h : LeastS n s) (k : LeastS n t) : s = t := by
  rcases h with ⟨h1, rfl⟩ | ⟨h1, h2, j, hj, rfl, h3, h4⟩
  · rcases k with ⟨_, rfl⟩ | ⟨k1, k2, _⟩
    · rfl
    · omega
  · rcases k with ⟨k1, rfl⟩ | ⟨_, _, i, hi, rfl, k3, k4⟩
    · omega
    · have : j = i := by
        rcases Nat.lt_trichotomy j i with q | q | q
        · exfalso
          have a := pow_le2 (show j + 1 ≤ i from q)
          rw [pow_step] at a
          omega
        · exact q
        · exfalso
          have a := pow_le2 (show i + 1 ≤ j from q)
          rw [pow_step] at a
          omega
      rw [this]

theorem LeastS.yes {n s : Int} (h : LeastS n s) (h0 : 0 ≤ n) (h1 : n ≤ 57344) : ∃ k : Nat, k ≤ 13 ∧ s = 8 * 2 ^ k ∧ n ≤ 7 * 2 ^ k ∧ (k = 0 ∨ 7 * 2 ^ k < 2 * n) := by
  rcases h with ⟨h2, _⟩ | ⟨_, _, h2⟩
  · omega
  · exact h2
theorem blen_pow {x : Int} (h0 : 1 ≤ x) : (2 : Int) ^ blen x ≤ 2 * x ∧ x < 2 ^ blen x := by
  obtain ⟨n, rfl⟩ := Int.eq_ofNat_of_zero_le (by omega : 0 ≤ x)
  have hn : n ≠ 0 := by omega
  unfold blen
  rw [if_neg (by omega), Int.toNat_natCast]
  have a1 := Nat.log2_self_le hn
  have a2 := Nat.lt_log2_self (n := n)
  have b1 := pow_cast (Nat.log2 n)
  have b2 := pow_cast (Nat.log2 n + 1)
  have b3 := pow_step (Nat.log2 n)
  omega

/-! The reference -/
theorem powB1 (n most : Int) (K : Nat) (hK : K ≤ 20) (hm : most = 2 ^ K) : powB n 1 most = true ↔ ∃ k : Nat, k ≤ K ∧ n = 2 ^ k := by
  have := powB_iff n 1 0 K most (by decide) hm hK
  exact this.trans ⟨fun ⟨k, _, a, b⟩ => ⟨k, a, b⟩, fun ⟨k, a, b⟩ => ⟨k, by omega, a, b⟩⟩
/-! The laws that ask for sizes alone -/
end Go.Proofs.YtgijnebgchkenaaGreatDoor.Probe
end
section
/- Contracts of grow.Choose and of the reference's Choose. -/
set_option linter.unusedVariables false
set_option linter.unusedSimpArgs false
set_option maxRecDepth 100000
namespace Go.Proofs.YtgijnebgchkenaaGreatDoor.Grow
open Go.RowKit Go.Proofs Go.Proofs.YtgijnebgchkenaaGreatDoor.Eng Go.Proofs.YtgijnebgchkenaaGreatDoor.Ty Go.Proofs.YtgijnebgchkenaaGreatDoor.Bits Go.Proofs.YtgijnebgchkenaaGreatDoor.Probe

/-- How a table is replaced: 0 none, 1 renewed, 2 doubled, 3 split. -/
def chooseI (us sl dp lim : Int) : Int :=
  if mostI sl = 0 ∨ us < 0 ∨ mostI sl < us ∨ dp < 0 ∨ 6 < dp then 0 else if 2 * us ≤ mostI sl then 1 else if 2 * sl ≤ lim ∨ dp = 6 then 2 else 3
theorem most_bnd (sl : Int) : mostI sl = 0 ∨ (8 ≤ sl ∧ sl ≤ 65536 ∧ 0 ≤ mostI sl ∧ mostI sl ≤ 65536) := by
  unfold mostI
  cases h : powB sl 8 65536 with
  | false => exact .inl rfl
  | true =>
    have := powB_le h
    right
    simp only [if_true]
    omega
theorem Choose_ok (us sl lf dp pn nx gp lim : Int) (rb : Bool) (hl : -9223372036854775808 ≤ lim ∧ lim ≤ 9223372036854775807) : FnOk Tryz.prog 54 #[.agg #[.int .i64 us, .int .i64 sl, .int .i64 lf, .int .i64 dp, .int .i64 pn, .int .i64 nx, .bool rb, .int .i64 gp], .int .i64 lim] [] (fun v L => v = .int .i64 (chooseI us sl dp lim) ∧ L = []) := by
  have hm := most_bnd sl
  refine fn_intro en54 Tryz.func54 rfl rfl rfl fun Fr w0 => t_nm ?_
  refine sr <| o_boxA rfl rfl fun b2 => asg rfl rfl <| lz <| l_q rfl (qfa 1 rfl yU47 rfl rfl yS3) <| l_q rfl (qld rfl yA3) ?_
  refine lc1 rfl rfl rfl (Most_ok sl) ?_
  refine asg rfl rfl <| lc <| t_seq <| t_block <| sr <| mv rfl rfl <| l_q rfl (qi rfl rfl (b_eql ·)) <| mv rfl rfl <| l_pt (t := 12) rfl (fun c1 => ?_) fun c1 => ?_
  · refine l_off rfl rfl rfl rfl <| l_off rfl rfl rfl rfl <| l_off rfl rfl rfl rfl <| l_q rfl (q_pk rfl rfl) <| mv rfl rfl <| l_off rfl rfl rfl rfl <| l_off rfl rfl rfl rfl <| l_off rfl rfl rfl rfl <| l_off rfl rfl rfl rfl <| l_q rfl (q_pk rfl rfl) <| mv rfl rfl <| l_off rfl rfl rfl rfl <| l_off rfl rfl rfl rfl <| l_off rfl rfl rfl rfl <| l_q rfl (q_pk rfl rfl) <| mv rfl rfl <| l_off rfl rfl rfl rfl <| l_off rfl rfl rfl rfl <| l_off rfl rfl rfl rfl <| l_q rfl (q_pk rfl rfl) <| asg rfl rfl <| lc <| t_cond_t rfl <| sr <| asg rfl rfl <| lc <| rt <| fr1 rfl ([]) (.tmp rfl) ?_
    exact ⟨by unfold chooseI; rw [if_pos (.inl c1)], rfl⟩
  · refine l_on rfl rfl <| l_q rfl (qfa 0 rfl yU47 rfl rfl yS3) <| l_on rfl rfl <| l_q rfl (qld rfl yA3) ?_
    refine l_on rfl rfl <| l_q rfl (qi rfl rfl (b_lss ·)) <| l_q rfl (q_pk rfl rfl) <| mv rfl rfl <| l_pt (t := 17) rfl (fun c2 => ?_) fun c2 => ?_
    · refine l_off rfl rfl rfl rfl <| l_off rfl rfl rfl rfl <| l_off rfl rfl rfl rfl <| l_off rfl rfl rfl rfl <| l_q rfl (q_pk rfl rfl) <| mv rfl rfl <| l_off rfl rfl rfl rfl <| l_off rfl rfl rfl rfl <| l_off rfl rfl rfl rfl <| l_q rfl (q_pk rfl rfl) <| mv rfl rfl <| l_off rfl rfl rfl rfl <| l_off rfl rfl rfl rfl <| l_off rfl rfl rfl rfl <| l_q rfl (q_pk rfl rfl) <| asg rfl rfl <| lc <| t_cond_t rfl <| sr <| asg rfl rfl <| lc <| rt <| fr1 rfl ([]) (.tmp rfl) ?_
      exact ⟨by unfold chooseI; rw [if_pos (by omega)], rfl⟩
    · refine l_on rfl rfl <| l_q rfl (qfa 0 rfl yU47 rfl rfl yS3) <| l_on rfl rfl <| l_q rfl (qld rfl yA3) ?_
      refine l_on rfl rfl <| mv rfl rfl <| l_on rfl rfl <| l_q rfl (qi rfl rfl (b_gtr ·)) <| l_q rfl (q_pk rfl rfl) <| mv rfl rfl <| l_pt (t := 23) rfl (fun c3 => ?_) fun c3 => ?_
      · refine l_off rfl rfl rfl rfl <| l_off rfl rfl rfl rfl <| l_off rfl rfl rfl rfl <| l_q rfl (q_pk rfl rfl) <| mv rfl rfl <| l_off rfl rfl rfl rfl <| l_off rfl rfl rfl rfl <| l_off rfl rfl rfl rfl <| l_q rfl (q_pk rfl rfl) <| asg rfl rfl <| lc <| t_cond_t rfl <| sr <| asg rfl rfl <| lc <| rt <| fr1 rfl ([]) (.tmp rfl) ?_
        exact ⟨by unfold chooseI; rw [if_pos (by omega)], rfl⟩
      · refine l_on rfl rfl <| l_q rfl (qfa 3 rfl yU47 rfl rfl yS3) <| l_on rfl rfl <| l_q rfl (qld rfl yA3) ?_
        refine l_on rfl rfl <| l_q rfl (qi rfl rfl (b_lss ·)) <| l_q rfl (q_pk rfl rfl) <| mv rfl rfl <| l_pt (t := 28) rfl (fun c4 => ?_) fun c4 => ?_
        · refine l_off rfl rfl rfl rfl <| l_off rfl rfl rfl rfl <| l_off rfl rfl rfl rfl <| l_q rfl (q_pk rfl rfl) <| asg rfl rfl <| lc <| t_cond_t rfl <| sr <| asg rfl rfl <| lc <| rt <| fr1 rfl ([]) (.tmp rfl) ?_
          exact ⟨by unfold chooseI; rw [if_pos (by omega)], rfl⟩
        · refine l_on rfl rfl <| l_q rfl (qfa 3 rfl yU47 rfl rfl yS3) <| l_on rfl rfl <| l_q rfl (qld rfl yA3) ?_
          refine l_on rfl rfl <| l_q rfl (qi rfl rfl (b_gtr ·)) <| l_q rfl (q_pk rfl rfl) <| asg rfl rfl <| lc <| t_if rfl (fun c5 => ?_) fun c5 => ?_
          · refine sr <| asg rfl rfl <| lc <| rt <| fr1 rfl ([]) (.tmp rfl) ?_
            exact ⟨by unfold chooseI; rw [if_pos (by omega)], rfl⟩
          · refine sr <| l_q rfl (qfa 0 rfl yU47 rfl rfl yS3) <| l_q rfl (qld rfl yA3) ?_
            refine l_q rfl (qmul rfl rfl) ?_
            refine mv rfl rfl <| l_q rfl (qi rfl rfl (b_leq ·)) <| asg rfl rfl <| lc <| t_if rfl (fun c6 => ?_) fun c6 => ?_
            · refine sr <| asg rfl rfl <| lc <| rt <| fr1 rfl ([]) (.tmp rfl) ?_
              exact ⟨by unfold chooseI; rw [if_neg (by omega), if_pos c6], rfl⟩
            · refine sr <| l_q rfl (qfa 1 rfl yU47 rfl rfl yS3) <| l_q rfl (qld rfl yA3) ?_
              refine l_q rfl (qmul rfl rfl) ?_
              refine mv rfl rfl <| l_q rfl (qi rfl rfl (b_leq ·)) <| mv rfl rfl <| l_pt (t := 45) rfl (fun c7 => ?_) fun c7 => ?_
              · refine l_off rfl rfl rfl rfl <| l_off rfl rfl rfl rfl <| l_off rfl rfl rfl rfl <| l_q rfl (q_pk rfl rfl) <| asg rfl rfl <| lc <| t_cond_t rfl <| sr <| asg rfl rfl <| lc <| rt <| fr1 rfl ([]) (.tmp rfl) ?_
                exact ⟨by unfold chooseI; rw [if_neg (by omega), if_neg c6, if_pos (.inl c7)], rfl⟩
              · refine l_on rfl rfl <| l_q rfl (qfa 3 rfl yU47 rfl rfl yS3) <| l_on rfl rfl <| l_q rfl (qld rfl yA3) ?_
                refine l_on rfl rfl <| l_q rfl (qi rfl rfl (b_eql ·)) <| l_q rfl (q_pk rfl rfl) <| asg rfl rfl <| lc <| t_if rfl (fun c8 => ?_) fun c8 => ?_
                · refine sr <| asg rfl rfl <| lc <| rt <| fr1 rfl ([]) (.tmp rfl) ?_
                  exact ⟨by unfold chooseI; rw [if_neg (by omega), if_neg c6, if_pos (.inr c8)], rfl⟩
                · refine t_skip <| n_blk <| nz <| asg rfl rfl <| lc <| rt <| fr1 rfl ([]) (.tmp rfl) ?_
                  exact ⟨by unfold chooseI; rw [if_neg (by omega), if_neg c6, if_neg (by omega)], rfl⟩
end Go.Proofs.YtgijnebgchkenaaGreatDoor.Grow
end
