import Derived.Test.YtgijnebgchkenaaGreatDoorProbeWay
section
/- The contracts of package probe, continued: sizes; and of the reference of layer 7. -/
set_option linter.unusedVariables false
set_option linter.unusedSimpArgs false
set_option maxRecDepth 100000
namespace Go.Proofs.YtgijnebgchkenaaGreatDoor.Probe
open Go.RowKit Go.Proofs Go.Proofs.YtgijnebgchkenaaGreatDoor.Eng Go.Proofs.YtgijnebgchkenaaGreatDoor.Ty Go.Proofs.YtgijnebgchkenaaGreatDoor.Bits

def mostI (s : Int) : Int := if powB s 8 65536 then s - s / 8 else 0
theorem powB_le {n lo hi : Int} (h : powB n lo hi = true) : lo ≤ n ∧ n ≤ hi := by simp only [powB, Bool.and_eq_true, decide_eq_true_eq] at h; omega

theorem Most_ok (s : Int) : FnOk Tryz.prog 72 #[.int .i64 s] [] (fun v L => v = .int .i64 (mostI s) ∧ L = []) := by
  refine fn_intro en72 Tryz.func72 rfl rfl rfl fun Fr w0 => t_nm ?_
  refine sr <| asg rfl rfl <| lc <| t_seq <| sr <| mv rfl rfl <| lc1 rfl rfl rfl (power_ok _ _ _ (by omega) (by omega)) ?_
  refine l_q rfl (q_un rfl (u_not ·)) <| lc <| t_if rfl (fun h => ?_) fun h => ?_
  · refine sr <| asg rfl rfl <| lc <| rt <| fr1 rfl ([]) (.tmp rfl) ?_
    exact ⟨by unfold mostI; rw [show powB s 8 65536 = false by simpa using h]; rfl, rfl⟩
  · have hb := powB_le (show powB s 8 65536 = true by simpa using h)
    refine t_skip <| nz <| mv rfl rfl <| mv rfl rfl <| l_q rfl (qquo rfl rfl) ?_
    refine l_q rfl (qsub rfl rfl) ?_
    refine asg rfl rfl <| lc <| rt <| fr1 rfl ([]) (.tmp rfl) ?_
    exact ⟨by unfold mostI; rw [show powB s 8 65536 = true by simpa using h]; rfl, rfl⟩

/-- The least table that holds n keys, s slots; 0: there is none. -/
def LeastS (n s : Int) : Prop := ((n < 0 ∨ 57344 < n) ∧ s = 0) ∨ (0 ≤ n ∧ n ≤ 57344 ∧ ∃ k : Nat, k ≤ 13 ∧ s = 8 * 2 ^ k ∧ n ≤ 7 * 2 ^ k ∧ (k = 0 ∨ 7 * 2 ^ k < 2 * n))

theorem pow_step (k : Nat) : (2 : Int) ^ (k + 1) = 2 * 2 ^ k := by rw [Int.pow_succ]; omega
theorem pow_le2 {j k : Nat} (h : j ≤ k) : (2 : Int) ^ j ≤ 2 ^ k := by
  have a := pow_cast j; have b := pow_cast k
  have : 2 ^ j ≤ 2 ^ k := Nat.pow_le_pow_right (by decide) h
  omega
theorem LeastS.uniq {n s t : Int} (h : LeastS n s) (k : LeastS n t) : s = t := by
  rcases h with ⟨h1, rfl⟩ | ⟨h1, h2, j, hj, rfl, h3, h4⟩
  · rcases k with ⟨_, rfl⟩ | ⟨k1, k2, _⟩
    · rfl
    · omega
  · rcases k with ⟨k1, rfl⟩ | ⟨_, _, i, hi, rfl, k3, k4⟩
    · omega
    · have : j = i := by
        rcases Nat.lt_trichotomy j i with q | q | q
        · exfalso
          have a := pow_le2 (show j + 1 ≤ i from q)
          rw [pow_step] at a
          omega
        · exact q
        · exfalso
          have a := pow_le2 (show i + 1 ≤ j from q)
          rw [pow_step] at a
          omega
      rw [this]

theorem LeastS.yes {n s : Int} (h : LeastS n s) (h0 : 0 ≤ n) (h1 : n ≤ 57344) : ∃ k : Nat, k ≤ 13 ∧ s = 8 * 2 ^ k ∧ n ≤ 7 * 2 ^ k ∧ (k = 0 ∨ 7 * 2 ^ k < 2 * n) := by
  rcases h with ⟨h2, _⟩ | ⟨_, _, h2⟩
  · omega
  · exact h2
/-! The reference -/
/-! The laws that ask for sizes alone -/
end Go.Proofs.YtgijnebgchkenaaGreatDoor.Probe
end
section
/- Contracts of grow.Choose and of the reference's Choose. -/
set_option linter.unusedVariables false
set_option linter.unusedSimpArgs false
set_option maxRecDepth 100000
namespace Go.Proofs.YtgijnebgchkenaaGreatDoor.Grow
open Go.RowKit Go.Proofs Go.Proofs.YtgijnebgchkenaaGreatDoor.Eng Go.Proofs.YtgijnebgchkenaaGreatDoor.Ty Go.Proofs.YtgijnebgchkenaaGreatDoor.Bits Go.Proofs.YtgijnebgchkenaaGreatDoor.Probe

/-- How a table is replaced: 0 none, 1 renewed, 2 doubled, 3 split. -/
def chooseI (us sl dp lim : Int) : Int :=
  if mostI sl = 0 ∨ us < 0 ∨ mostI sl < us ∨ dp < 0 ∨ 6 < dp then 0 else if 2 * us ≤ mostI sl then 1 else if 2 * sl ≤ lim ∨ dp = 6 then 2 else 3
theorem most_bnd (sl : Int) : mostI sl = 0 ∨ (8 ≤ sl ∧ sl ≤ 65536 ∧ 0 ≤ mostI sl ∧ mostI sl ≤ 65536) := by
  unfold mostI
  cases h : powB sl 8 65536 with
  | false => exact .inl rfl
  | true =>
    have := powB_le h
    right
    simp only [if_true]
    omega
theorem Choose_ok (us sl lf dp pn nx gp lim : Int) (rb : Bool) (hl : -9223372036854775808 ≤ lim ∧ lim ≤ 9223372036854775807) : FnOk Tryz.prog 54 #[.agg #[.int .i64 us, .int .i64 sl, .int .i64 lf, .int .i64 dp, .int .i64 pn, .int .i64 nx, .bool rb, .int .i64 gp], .int .i64 lim] [] (fun v L => v = .int .i64 (chooseI us sl dp lim) ∧ L = []) := by
  have hm := most_bnd sl
  refine fn_intro en54 Tryz.func54 rfl rfl rfl fun Fr w0 => t_nm ?_
  refine sr <| o_boxA rfl rfl fun b2 => asg rfl rfl <| lz <| l_q rfl (qfa 1 rfl yU47 rfl rfl yS3) <| l_q rfl (qld rfl yA3) ?_
  refine lc1 rfl rfl rfl (Most_ok sl) ?_
  refine asg rfl rfl <| lc <| t_seq <| t_block <| sr <| mv rfl rfl <| l_q rfl (qi rfl rfl (b_eql ·)) <| mv rfl rfl <| l_pt (t := 12) rfl (fun c1 => ?_) fun c1 => ?_
  · refine l_off rfl rfl rfl rfl <| l_off rfl rfl rfl rfl <| l_off rfl rfl rfl rfl <| l_q rfl (q_pk rfl rfl) <| mv rfl rfl <| l_off rfl rfl rfl rfl <| l_off rfl rfl rfl rfl <| l_off rfl rfl rfl rfl <| l_off rfl rfl rfl rfl <| l_q rfl (q_pk rfl rfl) <| mv rfl rfl <| l_off rfl rfl rfl rfl <| l_off rfl rfl rfl rfl <| l_off rfl rfl rfl rfl <| l_q rfl (q_pk rfl rfl) <| mv rfl rfl <| l_off rfl rfl rfl rfl <| l_off rfl rfl rfl rfl <| l_off rfl rfl rfl rfl <| l_q rfl (q_pk rfl rfl) <| asg rfl rfl <| lc <| t_cond_t rfl <| sr <| asg rfl rfl <| lc <| rt <| fr1 rfl ([]) (.tmp rfl) ?_
    exact ⟨by unfold chooseI; rw [if_pos (.inl c1)], rfl⟩
  · refine l_on rfl rfl <| l_q rfl (qfa 0 rfl yU47 rfl rfl yS3) <| l_on rfl rfl <| l_q rfl (qld rfl yA3) ?_
    refine l_on rfl rfl <| l_q rfl (qi rfl rfl (b_lss ·)) <| l_q rfl (q_pk rfl rfl) <| mv rfl rfl <| l_pt (t := 17) rfl (fun c2 => ?_) fun c2 => ?_
    · refine l_off rfl rfl rfl rfl <| l_off rfl rfl rfl rfl <| l_off rfl rfl rfl rfl <| l_off rfl rfl rfl rfl <| l_q rfl (q_pk rfl rfl) <| mv rfl rfl <| l_off rfl rfl rfl rfl <| l_off rfl rfl rfl rfl <| l_off rfl rfl rfl rfl <| l_q rfl (q_pk rfl rfl) <| mv rfl rfl <| l_off rfl rfl rfl rfl <| l_off rfl rfl rfl rfl <| l_off rfl rfl rfl rfl <| l_q rfl (q_pk rfl rfl) <| asg rfl rfl <| lc <| t_cond_t rfl <| sr <| asg rfl rfl <| lc <| rt <| fr1 rfl ([]) (.tmp rfl) ?_
      exact ⟨by unfold chooseI; rw [if_pos (by omega)], rfl⟩
    · refine l_on rfl rfl <| l_q rfl (qfa 0 rfl yU47 rfl rfl yS3) <| l_on rfl rfl <| l_q rfl (qld rfl yA3) ?_
      refine l_on rfl rfl <| mv rfl rfl <| l_on rfl rfl <| l_q rfl (qi rfl rfl (b_gtr ·)) <| l_q rfl (q_pk rfl rfl) <| mv rfl rfl <| l_pt (t := 23) rfl (fun c3 => ?_) fun c3 => ?_
      · refine l_off rfl rfl rfl rfl <| l_off rfl rfl rfl rfl <| l_off rfl rfl rfl rfl <| l_q rfl (q_pk rfl rfl) <| mv rfl rfl <| l_off rfl rfl rfl rfl <| l_off rfl rfl rfl rfl <| l_off rfl rfl rfl rfl <| l_q rfl (q_pk rfl rfl) <| asg rfl rfl <| lc <| t_cond_t rfl <| sr <| asg rfl rfl <| lc <| rt <| fr1 rfl ([]) (.tmp rfl) ?_
        exact ⟨by unfold chooseI; rw [if_pos (by omega)], rfl⟩
      · refine l_on rfl rfl <| l_q rfl (qfa 3 rfl yU47 rfl rfl yS3) <| l_on rfl rfl <| l_q rfl (qld rfl yA3) ?_
        refine l_on rfl rfl <| l_q rfl (qi rfl rfl (b_lss ·)) <| l_q rfl (q_pk rfl rfl) <| mv rfl rfl <| l_pt (t := 28) rfl (fun c4 => ?_) fun c4 => ?_
        · refine l_off rfl rfl rfl rfl <| l_off rfl rfl rfl rfl <| l_off rfl rfl rfl rfl <| l_q rfl (q_pk rfl rfl) <| asg rfl rfl <| lc <| t_cond_t rfl <| sr <| asg rfl rfl <| lc <| rt <| fr1 rfl ([]) (.tmp rfl) ?_
          exact ⟨by unfold chooseI; rw [if_pos (by omega)], rfl⟩
        · refine l_on rfl rfl <| l_q rfl (qfa 3 rfl yU47 rfl rfl yS3) <| l_on rfl rfl <| l_q rfl (qld rfl yA3) ?_
          refine l_on rfl rfl <| l_q rfl (qi rfl rfl (b_gtr ·)) <| l_q rfl (q_pk rfl rfl) <| asg rfl rfl <| lc <| t_if rfl (fun c5 => ?_) fun c5 => ?_
          · refine sr <| asg rfl rfl <| lc <| rt <| fr1 rfl ([]) (.tmp rfl) ?_
            exact ⟨by unfold chooseI; rw [if_pos (by omega)], rfl⟩
          · refine sr <| l_q rfl (qfa 0 rfl yU47 rfl rfl yS3) <| l_q rfl (qld rfl yA3) ?_
            refine l_q rfl (qmul rfl rfl) ?_
            refine mv rfl rfl <| l_q rfl (qi rfl rfl (b_leq ·)) <| asg rfl rfl <| lc <| t_if rfl (fun c6 => ?_) fun c6 => ?_
            · refine sr <| asg rfl rfl <| lc <| rt <| fr1 rfl ([]) (.tmp rfl) ?_
              exact ⟨by unfold chooseI; rw [if_neg (by omega), if_pos c6], rfl⟩
            · refine sr <| l_q rfl (qfa 1 rfl yU47 rfl rfl yS3) <| l_q rfl (qld rfl yA3) ?_
              refine l_q rfl (qmul rfl rfl) ?_
              refine mv rfl rfl <| l_q rfl (qi rfl rfl (b_leq ·)) <| mv rfl rfl <| l_pt (t := 45) rfl (fun c7 => ?_) fun c7 => ?_
              · refine l_off rfl rfl rfl rfl <| l_off rfl rfl rfl rfl <| l_off rfl rfl rfl rfl <| l_q rfl (q_pk rfl rfl) <| asg rfl rfl <| lc <| t_cond_t rfl <| sr <| asg rfl rfl <| lc <| rt <| fr1 rfl ([]) (.tmp rfl) ?_
                exact ⟨by unfold chooseI; rw [if_neg (by omega), if_neg c6, if_pos (.inl c7)], rfl⟩
              · refine l_on rfl rfl <| l_q rfl (qfa 3 rfl yU47 rfl rfl yS3) <| l_on rfl rfl <| l_q rfl (qld rfl yA3) ?_
                refine l_on rfl rfl <| l_q rfl (qi rfl rfl (b_eql ·)) <| l_q rfl (q_pk rfl rfl) <| asg rfl rfl <| lc <| t_if rfl (fun c8 => ?_) fun c8 => ?_
                · refine sr <| asg rfl rfl <| lc <| rt <| fr1 rfl ([]) (.tmp rfl) ?_
                  exact ⟨by unfold chooseI; rw [if_neg (by omega), if_neg c6, if_pos (.inr c8)], rfl⟩
                · refine t_skip <| n_blk <| nz <| asg rfl rfl <| lc <| rt <| fr1 rfl ([]) (.tmp rfl) ?_
                  exact ⟨by unfold chooseI; rw [if_neg (by omega), if_neg c6, if_neg (by omega)], rfl⟩
end Go.Proofs.YtgijnebgchkenaaGreatDoor.Grow
end
