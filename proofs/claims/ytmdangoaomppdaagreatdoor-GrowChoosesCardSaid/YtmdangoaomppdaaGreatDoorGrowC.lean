/- Contracts of grow.Choose and of the reference's Choose. -/
import Derived.Test.YtmdangoaomppdaaGreatDoorProbeSz
set_option linter.unusedVariables false
set_option linter.unusedSimpArgs false
set_option maxRecDepth 100000
namespace Go.Proofs.YtmdangoaomppdaaGreatDoor.Grow
open Go.RowKit Go.Proofs Go.Proofs.YtmdangoaomppdaaGreatDoor.Eng Go.Proofs.YtmdangoaomppdaaGreatDoor.Ty Go.Proofs.YtmdangoaomppdaaGreatDoor.Bits Go.Proofs.YtmdangoaomppdaaGreatDoor.Probe

/-- How a table is replaced: 0 none, 1 renewed, 2 doubled, 3 split. -/
def chooseI (us sl dp lim : Int) : Int :=
  if mostI sl = 0 ∨ us < 0 ∨ mostI sl < us ∨ dp < 0 ∨ 6 < dp then 0 else if 2 * us ≤ mostI sl then 1 else if 2 * sl ≤ lim ∨ dp = 6 then 2 else 3
theorem most_bnd (sl : Int) : mostI sl = 0 ∨ (8 ≤ sl ∧ sl ≤ 65536 ∧ 0 ≤ mostI sl ∧ mostI sl ≤ 65536) := by
  unfold mostI
  cases h : powB sl 8 65536 with
  | false => exact .inl rfl
  | true =>
    have := powB_le h
    right
    simp only [if_true]
    omega
theorem Choose_ok (us sl lf dp pn nx gp lim : Int) (rb : Bool) (hl : -9223372036854775808 ≤ lim ∧ lim ≤ 9223372036854775807) : FnOk Tryz.prog 26 #[.agg #[.int .i64 us, .int .i64 sl, .int .i64 lf, .int .i64 dp, .int .i64 pn, .int .i64 nx, .bool rb, .int .i64 gp], .int .i64 lim] [] (fun v L => v = .int .i64 (chooseI us sl dp lim) ∧ L = []) := by
  have hm := most_bnd sl
  refine fn_intro en26 Tryz.func26 rfl rfl rfl fun Fr w0 => t_nm ?_
  refine sr <| o_boxA rfl rfl fun b2 => asg rfl rfl <| lz <| l_q rfl (qfa 1 rfl yU39 rfl rfl yS3) <| l_q rfl (qld rfl yA3) ?_
  refine lc1 rfl rfl rfl (Most_ok sl) ?_
  refine asg rfl rfl <| lc <| t_seq <| t_block <| sr <| mv rfl rfl <| l_q rfl (qi rfl rfl (b_eql ·)) <| mv rfl rfl <| l_pt (t := 12) rfl (fun c1 => ?_) fun c1 => ?_
  · refine l_off rfl rfl rfl rfl <| l_off rfl rfl rfl rfl <| l_off rfl rfl rfl rfl <| l_q rfl (q_pk rfl rfl) <| mv rfl rfl <| l_off rfl rfl rfl rfl <| l_off rfl rfl rfl rfl <| l_off rfl rfl rfl rfl <| l_off rfl rfl rfl rfl <| l_q rfl (q_pk rfl rfl) <| mv rfl rfl <| l_off rfl rfl rfl rfl <| l_off rfl rfl rfl rfl <| l_off rfl rfl rfl rfl <| l_q rfl (q_pk rfl rfl) <| mv rfl rfl <| l_off rfl rfl rfl rfl <| l_off rfl rfl rfl rfl <| l_off rfl rfl rfl rfl <| l_q rfl (q_pk rfl rfl) <| asg rfl rfl <| lc <| t_cond_t rfl <| sr <| asg rfl rfl <| lc <| rt <| fr1 rfl ([]) (.tmp rfl) ?_
    exact ⟨by unfold chooseI; rw [if_pos (.inl c1)], rfl⟩
  · refine l_on rfl rfl <| l_q rfl (qfa 0 rfl yU39 rfl rfl yS3) <| l_on rfl rfl <| l_q rfl (qld rfl yA3) ?_
    refine l_on rfl rfl <| l_q rfl (qi rfl rfl (b_lss ·)) <| l_q rfl (q_pk rfl rfl) <| mv rfl rfl <| l_pt (t := 17) rfl (fun c2 => ?_) fun c2 => ?_
    · refine l_off rfl rfl rfl rfl <| l_off rfl rfl rfl rfl <| l_off rfl rfl rfl rfl <| l_off rfl rfl rfl rfl <| l_q rfl (q_pk rfl rfl) <| mv rfl rfl <| l_off rfl rfl rfl rfl <| l_off rfl rfl rfl rfl <| l_off rfl rfl rfl rfl <| l_q rfl (q_pk rfl rfl) <| mv rfl rfl <| l_off rfl rfl rfl rfl <| l_off rfl rfl rfl rfl <| l_off rfl rfl rfl rfl <| l_q rfl (q_pk rfl rfl) <| asg rfl rfl <| lc <| t_cond_t rfl <| sr <| asg rfl rfl <| lc <| rt <| fr1 rfl ([]) (.tmp rfl) ?_
      exact ⟨by unfold chooseI; rw [if_pos (by omega)], rfl⟩
    · refine l_on rfl rfl <| l_q rfl (qfa 0 rfl yU39 rfl rfl yS3) <| l_on rfl rfl <| l_q rfl (qld rfl yA3) ?_
      refine l_on rfl rfl <| mv rfl rfl <| l_on rfl rfl <| l_q rfl (qi rfl rfl (b_gtr ·)) <| l_q rfl (q_pk rfl rfl) <| mv rfl rfl <| l_pt (t := 23) rfl (fun c3 => ?_) fun c3 => ?_
      · refine l_off rfl rfl rfl rfl <| l_off rfl rfl rfl rfl <| l_off rfl rfl rfl rfl <| l_q rfl (q_pk rfl rfl) <| mv rfl rfl <| l_off rfl rfl rfl rfl <| l_off rfl rfl rfl rfl <| l_off rfl rfl rfl rfl <| l_q rfl (q_pk rfl rfl) <| asg rfl rfl <| lc <| t_cond_t rfl <| sr <| asg rfl rfl <| lc <| rt <| fr1 rfl ([]) (.tmp rfl) ?_
        exact ⟨by unfold chooseI; rw [if_pos (by omega)], rfl⟩
      · refine l_on rfl rfl <| l_q rfl (qfa 3 rfl yU39 rfl rfl yS3) <| l_on rfl rfl <| l_q rfl (qld rfl yA3) ?_
        refine l_on rfl rfl <| l_q rfl (qi rfl rfl (b_lss ·)) <| l_q rfl (q_pk rfl rfl) <| mv rfl rfl <| l_pt (t := 28) rfl (fun c4 => ?_) fun c4 => ?_
        · refine l_off rfl rfl rfl rfl <| l_off rfl rfl rfl rfl <| l_off rfl rfl rfl rfl <| l_q rfl (q_pk rfl rfl) <| asg rfl rfl <| lc <| t_cond_t rfl <| sr <| asg rfl rfl <| lc <| rt <| fr1 rfl ([]) (.tmp rfl) ?_
          exact ⟨by unfold chooseI; rw [if_pos (by omega)], rfl⟩
        · refine l_on rfl rfl <| l_q rfl (qfa 3 rfl yU39 rfl rfl yS3) <| l_on rfl rfl <| l_q rfl (qld rfl yA3) ?_
          refine l_on rfl rfl <| l_q rfl (qi rfl rfl (b_gtr ·)) <| l_q rfl (q_pk rfl rfl) <| asg rfl rfl <| lc <| t_if rfl (fun c5 => ?_) fun c5 => ?_
          · refine sr <| asg rfl rfl <| lc <| rt <| fr1 rfl ([]) (.tmp rfl) ?_
            exact ⟨by unfold chooseI; rw [if_pos (by omega)], rfl⟩
          · refine sr <| l_q rfl (qfa 0 rfl yU39 rfl rfl yS3) <| l_q rfl (qld rfl yA3) ?_
            refine l_q rfl (qmul rfl rfl) ?_
            refine mv rfl rfl <| l_q rfl (qi rfl rfl (b_leq ·)) <| asg rfl rfl <| lc <| t_if rfl (fun c6 => ?_) fun c6 => ?_
            · refine sr <| asg rfl rfl <| lc <| rt <| fr1 rfl ([]) (.tmp rfl) ?_
              exact ⟨by unfold chooseI; rw [if_neg (by omega), if_pos c6], rfl⟩
            · refine sr <| l_q rfl (qfa 1 rfl yU39 rfl rfl yS3) <| l_q rfl (qld rfl yA3) ?_
              refine l_q rfl (qmul rfl rfl) ?_
              refine mv rfl rfl <| l_q rfl (qi rfl rfl (b_leq ·)) <| mv rfl rfl <| l_pt (t := 45) rfl (fun c7 => ?_) fun c7 => ?_
              · refine l_off rfl rfl rfl rfl <| l_off rfl rfl rfl rfl <| l_off rfl rfl rfl rfl <| l_q rfl (q_pk rfl rfl) <| asg rfl rfl <| lc <| t_cond_t rfl <| sr <| asg rfl rfl <| lc <| rt <| fr1 rfl ([]) (.tmp rfl) ?_
                exact ⟨by unfold chooseI; rw [if_neg (by omega), if_neg c6, if_pos (.inl c7)], rfl⟩
              · refine l_on rfl rfl <| l_q rfl (qfa 3 rfl yU39 rfl rfl yS3) <| l_on rfl rfl <| l_q rfl (qld rfl yA3) ?_
                refine l_on rfl rfl <| l_q rfl (qi rfl rfl (b_eql ·)) <| l_q rfl (q_pk rfl rfl) <| asg rfl rfl <| lc <| t_if rfl (fun c8 => ?_) fun c8 => ?_
                · refine sr <| asg rfl rfl <| lc <| rt <| fr1 rfl ([]) (.tmp rfl) ?_
                  exact ⟨by unfold chooseI; rw [if_neg (by omega), if_neg c6, if_pos (.inr c8)], rfl⟩
                · refine t_skip <| n_blk <| nz <| asg rfl rfl <| lc <| rt <| fr1 rfl ([]) (.tmp rfl) ?_
                  exact ⟨by unfold chooseI; rw [if_neg (by omega), if_neg c6, if_neg (by omega)], rfl⟩
theorem rChoose_ok (us sl lf dp pn nx gp lim : Int) (rb : Bool) (hl : -9223372036854775808 ≤ lim ∧ lim ≤ 9223372036854775807) : FnOk Tryz.prog 27 #[.agg #[.int .i64 us, .int .i64 sl, .int .i64 lf, .int .i64 dp, .int .i64 pn, .int .i64 nx, .bool rb, .int .i64 gp], .int .i64 lim] [] (fun v L => v = .int .i64 (chooseI us sl dp lim) ∧ L = []) := by
  have hm := most_bnd sl
  refine fn_intro en27 Tryz.func27 rfl rfl rfl fun Fr w0 => t_nm ?_
  refine sr <| o_boxA rfl rfl fun b2 => asg rfl rfl <| lz <| l_q rfl (qfa 1 rfl yU39 rfl rfl yS3) <| l_q rfl (qld rfl yA3) ?_
  refine lc1 rfl rfl rfl (rMost_ok sl) ?_
  refine asg rfl rfl <| lc <| t_seq <| sr <| mv rfl rfl <| l_q rfl (qi rfl rfl (b_eql ·)) <| mv rfl rfl <| l_pt (t := 11) rfl (fun c1 => ?_) fun c1 => ?_
  · refine l_off rfl rfl rfl rfl <| l_off rfl rfl rfl rfl <| l_off rfl rfl rfl rfl <| l_q rfl (q_pk rfl rfl) <| mv rfl rfl <| l_off rfl rfl rfl rfl <| l_off rfl rfl rfl rfl <| l_off rfl rfl rfl rfl <| l_off rfl rfl rfl rfl <| l_q rfl (q_pk rfl rfl) <| mv rfl rfl <| l_off rfl rfl rfl rfl <| l_off rfl rfl rfl rfl <| l_off rfl rfl rfl rfl <| l_q rfl (q_pk rfl rfl) <| mv rfl rfl <| l_off rfl rfl rfl rfl <| l_off rfl rfl rfl rfl <| l_off rfl rfl rfl rfl <| l_q rfl (q_pk rfl rfl) <| lc <| t_cond_t rfl <| sr <| asg rfl rfl <| lc <| rt <| fr1 rfl ([]) (.tmp rfl) ?_
    exact ⟨by unfold chooseI; rw [if_pos (.inl c1)], rfl⟩
  · refine l_on rfl rfl <| l_q rfl (qfa 0 rfl yU39 rfl rfl yS3) <| l_on rfl rfl <| l_q rfl (qld rfl yA3) ?_
    refine l_on rfl rfl <| l_q rfl (qi rfl rfl (b_lss ·)) <| l_q rfl (q_pk rfl rfl) <| mv rfl rfl <| l_pt (t := 16) rfl (fun c2 => ?_) fun c2 => ?_
    · refine l_off rfl rfl rfl rfl <| l_off rfl rfl rfl rfl <| l_off rfl rfl rfl rfl <| l_off rfl rfl rfl rfl <| l_q rfl (q_pk rfl rfl) <| mv rfl rfl <| l_off rfl rfl rfl rfl <| l_off rfl rfl rfl rfl <| l_off rfl rfl rfl rfl <| l_q rfl (q_pk rfl rfl) <| mv rfl rfl <| l_off rfl rfl rfl rfl <| l_off rfl rfl rfl rfl <| l_off rfl rfl rfl rfl <| l_q rfl (q_pk rfl rfl) <| lc <| t_cond_t rfl <| sr <| asg rfl rfl <| lc <| rt <| fr1 rfl ([]) (.tmp rfl) ?_
      exact ⟨by unfold chooseI; rw [if_pos (by omega)], rfl⟩
    · refine l_on rfl rfl <| l_q rfl (qfa 0 rfl yU39 rfl rfl yS3) <| l_on rfl rfl <| l_q rfl (qld rfl yA3) ?_
      refine l_on rfl rfl <| mv rfl rfl <| l_on rfl rfl <| l_q rfl (qi rfl rfl (b_gtr ·)) <| l_q rfl (q_pk rfl rfl) <| mv rfl rfl <| l_pt (t := 22) rfl (fun c3 => ?_) fun c3 => ?_
      · refine l_off rfl rfl rfl rfl <| l_off rfl rfl rfl rfl <| l_off rfl rfl rfl rfl <| l_q rfl (q_pk rfl rfl) <| mv rfl rfl <| l_off rfl rfl rfl rfl <| l_off rfl rfl rfl rfl <| l_off rfl rfl rfl rfl <| l_q rfl (q_pk rfl rfl) <| lc <| t_cond_t rfl <| sr <| asg rfl rfl <| lc <| rt <| fr1 rfl ([]) (.tmp rfl) ?_
        exact ⟨by unfold chooseI; rw [if_pos (by omega)], rfl⟩
      · refine l_on rfl rfl <| l_q rfl (qfa 3 rfl yU39 rfl rfl yS3) <| l_on rfl rfl <| l_q rfl (qld rfl yA3) ?_
        refine l_on rfl rfl <| l_q rfl (qi rfl rfl (b_lss ·)) <| l_q rfl (q_pk rfl rfl) <| mv rfl rfl <| l_pt (t := 27) rfl (fun c4 => ?_) fun c4 => ?_
        · refine l_off rfl rfl rfl rfl <| l_off rfl rfl rfl rfl <| l_off rfl rfl rfl rfl <| l_q rfl (q_pk rfl rfl) <| lc <| t_cond_t rfl <| sr <| asg rfl rfl <| lc <| rt <| fr1 rfl ([]) (.tmp rfl) ?_
          exact ⟨by unfold chooseI; rw [if_pos (by omega)], rfl⟩
        · refine l_on rfl rfl <| l_q rfl (qfa 3 rfl yU39 rfl rfl yS3) <| l_on rfl rfl <| l_q rfl (qld rfl yA3) ?_
          refine l_on rfl rfl <| l_q rfl (qi rfl rfl (b_gtr ·)) <| l_q rfl (q_pk rfl rfl) <| lc <| t_if rfl (fun c5 => ?_) fun c5 => ?_
          · refine sr <| asg rfl rfl <| lc <| rt <| fr1 rfl ([]) (.tmp rfl) ?_
            exact ⟨by unfold chooseI; rw [if_pos (by omega)], rfl⟩
          · refine t_skip <| n_code <| t_seq <| sr <| l_q rfl (qfa 0 rfl yU39 rfl rfl yS3) <| l_q rfl (qld rfl yA3) ?_
            refine mv rfl rfl <| l_q rfl (qfa 0 rfl yU39 rfl rfl yS3) <| l_q rfl (qld rfl yA3) ?_
            refine l_q rfl (qsub rfl rfl) ?_
            refine l_q rfl (qi rfl rfl (b_leq ·)) <| lc <| t_if rfl (fun c6 => ?_) fun c6 => ?_
            · refine sr <| asg rfl rfl <| lc <| rt <| fr1 rfl ([]) (.tmp rfl) ?_
              exact ⟨by unfold chooseI; rw [if_neg (by omega), if_pos (by omega)], rfl⟩
            · refine t_skip <| n_code <| t_seq <| sr <| mv rfl rfl <| l_q rfl (qi rfl rfl (b_gtr ·)) <| mv rfl rfl <| l_pt (t := 41) rfl (fun c7 => ?_) fun c7 => ?_
              · refine l_on rfl rfl <| l_q rfl (qfa 1 rfl yU39 rfl rfl yS3) <| l_on rfl rfl <| l_q rfl (qld rfl yA3) ?_
                refine l_on rfl rfl <| mv rfl rfl <| l_on rfl rfl <| l_q rfl (qfa 1 rfl yU39 rfl rfl yS3) <| l_on rfl rfl <| l_q rfl (qld rfl yA3) ?_
                refine l_on rfl rfl <| l_q rfl (qsub rfl rfl) ?_
                refine l_on rfl rfl <| l_q rfl (qi rfl rfl (b_leq ·)) <| l_q rfl (q_pk rfl rfl) <| lc <| t_if rfl (fun c8 => ?_) fun c8 => ?_
                · refine sr <| asg rfl rfl <| lc <| rt <| fr1 rfl ([]) (.tmp rfl) ?_
                  exact ⟨by unfold chooseI; rw [if_neg (by omega), if_neg (by omega), if_pos (by omega)], rfl⟩
                · refine t_skip <| n_code <| t_seq <| sr <| l_q rfl (qfa 3 rfl yU39 rfl rfl yS3) <| l_q rfl (qld rfl yA3) ?_
                  refine l_q rfl (qi rfl rfl (b_lss ·)) <| lc <| t_if rfl (fun c9 => ?_) fun c9 => ?_
                  · refine sr <| asg rfl rfl <| lc <| rt <| fr1 rfl ([]) (.tmp rfl) ?_
                    exact ⟨by unfold chooseI; rw [if_neg (by omega), if_neg (by omega), if_neg (by omega)], rfl⟩
                  · refine t_skip <| nz <| asg rfl rfl <| lc <| rt <| fr1 rfl ([]) (.tmp rfl) ?_
                    exact ⟨by unfold chooseI; rw [if_neg (by omega), if_neg (by omega), if_pos (by omega)], rfl⟩
              · refine l_off rfl rfl rfl rfl <| l_off rfl rfl rfl rfl <| l_off rfl rfl rfl rfl <| l_off rfl rfl rfl rfl <| l_off rfl rfl rfl rfl <| l_off rfl rfl rfl rfl <| l_off rfl rfl rfl rfl <| l_q rfl (q_pk rfl rfl) <| lc <| t_cond_f rfl <| t_skip <| n_code <| t_seq <| sr <| l_q rfl (qfa 3 rfl yU39 rfl rfl yS3) <| l_q rfl (qld rfl yA3) ?_
                refine l_q rfl (qi rfl rfl (b_lss ·)) <| lc <| t_if rfl (fun c9 => ?_) fun c9 => ?_
                · refine sr <| asg rfl rfl <| lc <| rt <| fr1 rfl ([]) (.tmp rfl) ?_
                  exact ⟨by unfold chooseI; rw [if_neg (by omega), if_neg (by omega), if_neg (by omega)], rfl⟩
                · refine t_skip <| nz <| asg rfl rfl <| lc <| rt <| fr1 rfl ([]) (.tmp rfl) ?_
                  exact ⟨by unfold chooseI; rw [if_neg (by omega), if_neg (by omega), if_pos (by omega)], rfl⟩
end Go.Proofs.YtmdangoaomppdaaGreatDoor.Grow
