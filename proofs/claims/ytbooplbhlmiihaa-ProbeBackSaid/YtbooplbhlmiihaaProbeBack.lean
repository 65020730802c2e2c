/- ProbeBack answers true: its walk. -/
import Derived.Test.YtbooplbhlmiihaaProbeSz
import Derived.Test.YtbooplbhlmiihaaProbeWay
set_option linter.unusedVariables false
set_option linter.unusedSimpArgs false
set_option maxRecDepth 100000
namespace Go.Proofs.Ytbooplbhlmiihaa.Probe
open Go.RowKit Go.Proofs Go.Proofs.Ytbooplbhlmiihaa.Eng Go.Proofs.Ytbooplbhlmiihaa.Ty Go.Proofs.Ytbooplbhlmiihaa.Bits

theorem ProbeBack_ok (home groups n g : Int) (hh : 0 ≤ home ∧ home < 18446744073709551616) :
    FnOk Try.prog 7 #[.int .u64 home, .int .i64 groups, .int .i64 n, .int .i64 g] [] (fun v L => v = .bool true ∧ L = []) := by
  refine fn_intro en7 Try.func7 rfl rfl rfl ?_
  intro Fr w0
  refine t_norm fun M hM => ?_
  try simp only [List.cons_append, List.nil_append, List.append_nil] at hM
  subst M
  refine t_seq ?_
  refine t_region ?_
  refine l_q rfl (q_assign rfl) ?_
  refine l_nil ?_
  refine n_code ?_
  refine t_seq ?_
  refine t_region ?_
  refine l_q rfl (q_move rfl) ?_
  refine l_q rfl (q_move rfl) ?_
  refine l_q rfl (q_move rfl) ?_
  apply l_callf rfl rfl rfl (At_ok _ _ _ hh)
  · repeat (first | with_reducible exact .nil | apply Pick.cons | with_reducible exact .here | apply Take.there)
  rintro v L' ⟨rfl, rfl⟩
  refine l_norm fun M hM => ?_
  try simp only [List.cons_append, List.nil_append, List.append_nil] at hM
  subst M
  refine l_q rfl (q_assign rfl) ?_
  refine l_nil ?_
  refine n_code ?_
  refine t_seq ?_
  refine t_region ?_
  refine l_q rfl (q_move rfl) ?_
  refine l_q rfl (q_move rfl) ?_
  refine l_q rfl (q_move rfl) ?_
  apply l_callf rfl rfl rfl (Steps_ok _ _ _ hh)
  · repeat (first | with_reducible exact .nil | apply Pick.cons | with_reducible exact .here | apply Take.there)
  rintro v L' ⟨rfl, rfl⟩
  refine l_norm fun M hM => ?_
  try simp only [List.cons_append, List.nil_append, List.append_nil] at hM
  subst M
  refine l_q rfl (q_assign rfl) ?_
  refine l_nil ?_
  refine n_code ?_
  refine t_seq ?_
  refine t_seq ?_
  refine t_region ?_
  refine l_q rfl (q_move rfl) ?_
  apply l_callf rfl rfl rfl (valid_ok _)
  · repeat (first | with_reducible exact .nil | apply Pick.cons | with_reducible exact .here | apply Take.there)
  rintro v L' ⟨rfl, rfl⟩
  refine l_norm fun M hM => ?_
  try simp only [List.cons_append, List.nil_append, List.append_nil] at hM
  subst M
  refine l_q rfl (q_un rfl (fun w => u_not w)) ?_
  refine l_nil ?_
  refine n_code ?_
  first | refine t_cond_d rfl (fun h => ?_) (fun h => ?_) | refine t_cond_n rfl (fun h => ?_) (fun h => ?_) | refine t_cond rfl (fun h => ?_) (fun h => ?_)
  · have hv : powB groups 1 8192 = false := by simpa using h
    rw [no_at hv, no_st hv]
    refine t_seq ?_
    refine t_region ?_
    refine l_q rfl (q_move rfl) ?_
    apply l_q rfl
    · apply q_bin rfl rfl (fun w => g_int w); exact fun w => b_eql w
    refine l_q rfl (q_move rfl) ?_
    first | refine l_part_d (t := 24) rfl (fun k => ?_) (fun k => ?_) | refine l_part_n (t := 24) rfl (fun k => ?_) (fun k => ?_) | refine l_part (t := 24) rfl (fun k => ?_) (fun k => ?_)
    · refine l_on rfl rfl ?_
      refine l_q rfl (q_move rfl) ?_
      refine l_on rfl rfl ?_
      apply l_q rfl
      · apply q_bin rfl rfl (fun w => g_int w); exact fun w => b_eql w
      apply l_q rfl
      · first | exact q_pick_t rfl rfl | exact q_pick_f rfl rfl
      refine l_q rfl (q_move rfl) ?_
      first | refine l_part_d (t := 28) rfl (fun m => ?_) (fun m => ?_) | refine l_part_n (t := 28) rfl (fun m => ?_) (fun m => ?_) | refine l_part (t := 28) rfl (fun m => ?_) (fun m => ?_)
      · refine l_on rfl rfl ?_
        refine l_q rfl (q_move rfl) ?_
        refine l_on rfl rfl ?_
        refine l_q rfl (q_move rfl) ?_
        refine l_on rfl rfl ?_
        apply l_callf rfl rfl rfl (Start_ok _ _ hh)
        · repeat (first | with_reducible exact .nil | apply Pick.cons | with_reducible exact .here | apply Take.there)
        rintro v L' ⟨rfl, rfl⟩
        refine l_norm fun M hM => ?_
        try simp only [List.cons_append, List.nil_append, List.append_nil] at hM
        subst M
        refine l_on rfl rfl ?_
        apply l_q rfl
        · apply q_bin rfl rfl (fun w => g_int w); exact fun w => b_eql w
        apply l_q rfl
        · first | exact q_pick_t rfl rfl | exact q_pick_f rfl rfl
        refine l_q rfl (q_assign rfl) ?_
        refine l_nil ?_
        refine n_code ?_
        refine t_ret ?_
        refine r_code ?_
        apply f_ret (.inl rfl) ([])
        · apply res1 rfl
          · exact .tmp rfl
        · exact ⟨by rw [no_at hv]; rfl, rfl⟩
        · first | exact Ent.refl _ | ((try push_cast); apply Sel.ent; (repeat (first | apply Sel.cons | with_reducible exact Sel.nil | apply Sel.rest | with_reducible exact Take.here | apply Take.there | exact Drop.refl | apply Drop.skip)))
      · refine l_off rfl rfl rfl rfl ?_
        refine l_off rfl rfl rfl rfl ?_
        refine l_off rfl rfl rfl rfl ?_
        refine l_off rfl rfl rfl rfl ?_
        apply l_q rfl
        · first | exact q_pick_t rfl rfl | exact q_pick_f rfl rfl
        refine l_q rfl (q_assign rfl) ?_
        refine l_nil ?_
        refine n_code ?_
        refine t_ret ?_
        refine r_code ?_
        exact absurd rfl m
    · refine l_off rfl rfl rfl rfl ?_
      refine l_off rfl rfl rfl rfl ?_
      apply l_q rfl
      · first | exact q_pick_t rfl rfl | exact q_pick_f rfl rfl
      refine l_q rfl (q_move rfl) ?_
      refine l_off rfl rfl rfl rfl ?_
      refine l_off rfl rfl rfl rfl ?_
      refine l_off rfl rfl rfl rfl ?_
      refine l_off rfl rfl rfl rfl ?_
      apply l_q rfl
      · first | exact q_pick_t rfl rfl | exact q_pick_f rfl rfl
      refine l_q rfl (q_assign rfl) ?_
      refine l_nil ?_
      refine n_code ?_
      refine t_ret ?_
      refine r_code ?_
      exact absurd rfl k
  · have hv : powB groups 1 8192 = true := by simpa using h
    refine t_skip ?_
    refine n_code ?_
    refine t_seq ?_
    refine t_seq ?_
    refine t_region ?_
    refine l_q rfl (q_move rfl) ?_
    apply l_q rfl
    · apply q_bin rfl rfl (fun w => g_int w); exact fun w => b_lss w
    refine l_q rfl (q_move rfl) ?_
    first | refine l_part_d (t := 36) rfl (fun k => ?_) (fun k => ?_) | refine l_part_n (t := 36) rfl (fun k => ?_) (fun k => ?_) | refine l_part (t := 36) rfl (fun k => ?_) (fun k => ?_)
    · refine l_off rfl rfl rfl rfl ?_
      refine l_off rfl rfl rfl rfl ?_
      refine l_off rfl rfl rfl rfl ?_
      apply l_q rfl
      · first | exact q_pick_t rfl rfl | exact q_pick_f rfl rfl
      refine l_nil ?_
      refine n_code ?_
      refine t_cond_t rfl ?_
      refine t_seq ?_
      refine t_region ?_
      refine l_q rfl (q_move rfl) ?_
      apply l_q rfl
      · apply q_bin rfl rfl (fun w => g_int w); exact fun w => b_neq w
      refine l_nil ?_
      refine n_code ?_
      have hat : atI home groups n = -1 := by
        rcases atI_cases (home := home) hv n with ⟨x, _⟩ | ⟨_, x⟩
        · omega
        · exact x
      first | refine t_cond_d rfl (fun m => ?_) (fun m => ?_) | refine t_cond_n rfl (fun m => ?_) (fun m => ?_) | refine t_cond rfl (fun m => ?_) (fun m => ?_)
      · refine t_seq ?_
        refine t_region ?_
        refine l_q rfl (q_assign rfl) ?_
        refine l_nil ?_
        refine n_code ?_
        refine t_ret ?_
        refine r_code ?_
        exact absurd hat m
      · refine t_skip ?_
        refine n_code ?_
        refine t_seq ?_
        refine t_seq ?_
        refine t_region ?_
        refine l_q rfl (q_move rfl) ?_
        apply l_q rfl
        · apply q_bin rfl rfl (fun w => g_int w); exact fun w => b_lss w
        refine l_q rfl (q_move rfl) ?_
        first | refine l_part_d (t := 60) rfl (fun q => ?_) (fun q => ?_) | refine l_part_n (t := 60) rfl (fun q => ?_) (fun q => ?_) | refine l_part (t := 60) rfl (fun q => ?_) (fun q => ?_)
        · refine l_off rfl rfl rfl rfl ?_
          refine l_off rfl rfl rfl rfl ?_
          refine l_off rfl rfl rfl rfl ?_
          apply l_q rfl
          · first | exact q_pick_t rfl rfl | exact q_pick_f rfl rfl
          refine l_nil ?_
          refine n_code ?_
          refine t_cond_t rfl ?_
          refine t_seq ?_
          refine t_region ?_
          refine l_q rfl (q_move rfl) ?_
          apply l_q rfl
          · apply q_bin rfl rfl (fun w => g_int w); exact fun w => b_eql w
          refine l_q rfl (q_assign rfl) ?_
          refine l_nil ?_
          refine n_code ?_
          refine t_ret ?_
          refine r_code ?_
          have hs : stI home groups g = -1 := by
            rcases stI_cases (home := home) hv g with ⟨x, _⟩ | ⟨_, x⟩
            · omega
            · exact x
          apply f_ret (.inl rfl) ([])
          · apply res1 rfl
            · exact .tmp rfl
          · exact ⟨by rw [hs]; rfl, rfl⟩
          · first | exact Ent.refl _ | ((try push_cast); apply Sel.ent; (repeat (first | apply Sel.cons | with_reducible exact Sel.nil | apply Sel.rest | with_reducible exact Take.here | apply Take.there | exact Drop.refl | apply Drop.skip)))
        · refine l_on rfl rfl ?_
          refine l_q rfl (q_move rfl) ?_
          refine l_on rfl rfl ?_
          refine l_q rfl (q_move rfl) ?_
          refine l_on rfl rfl ?_
          apply l_q rfl
          · apply q_bin rfl rfl (fun w => g_int w); exact fun w => b_geq w
          apply l_q rfl
          · first | exact q_pick_t rfl rfl | exact q_pick_f rfl rfl
          refine l_nil ?_
          refine n_code ?_
          first | refine t_cond_d rfl (fun r => ?_) (fun r => ?_) | refine t_cond_n rfl (fun r => ?_) (fun r => ?_) | refine t_cond rfl (fun r => ?_) (fun r => ?_)
          · refine t_seq ?_
            refine t_region ?_
            refine l_q rfl (q_move rfl) ?_
            apply l_q rfl
            · apply q_bin rfl rfl (fun w => g_int w); exact fun w => b_eql w
            refine l_q rfl (q_assign rfl) ?_
            refine l_nil ?_
            refine n_code ?_
            refine t_ret ?_
            refine r_code ?_
            have hs : stI home groups g = -1 := by
              rcases stI_cases (home := home) hv g with ⟨x, _⟩ | ⟨_, x⟩
              · omega
              · exact x
            apply f_ret (.inl rfl) ([])
            · apply res1 rfl
              · exact .tmp rfl
            · exact ⟨by rw [hs]; rfl, rfl⟩
            · first | exact Ent.refl _ | ((try push_cast); apply Sel.ent; (repeat (first | apply Sel.cons | with_reducible exact Sel.nil | apply Sel.rest | with_reducible exact Take.here | apply Take.there | exact Drop.refl | apply Drop.skip)))
          · refine t_skip ?_
            refine n_code ?_
            refine t_seq ?_
            refine t_region ?_
            refine l_q rfl (q_move rfl) ?_
            apply l_q rfl
            · apply q_bin rfl rfl (fun w => g_int w); exact fun w => b_geq w
            refine l_q rfl (q_move rfl) ?_
            have ha := atI_st (home := home) hv (v := g) ⟨by omega, by omega⟩
            first | refine l_part_d (t := 69) rfl (fun t => ?_) (fun t => ?_) | refine l_part_n (t := 69) rfl (fun t => ?_) (fun t => ?_) | refine l_part (t := 69) rfl (fun t => ?_) (fun t => ?_)
            · refine l_on rfl rfl ?_
              refine l_q rfl (q_move rfl) ?_
              refine l_on rfl rfl ?_
              refine l_q rfl (q_move rfl) ?_
              refine l_on rfl rfl ?_
              apply l_q rfl
              · apply q_bin rfl rfl (fun w => g_int w); exact fun w => b_lss w
              apply l_q rfl
              · first | exact q_pick_t rfl rfl | exact q_pick_f rfl rfl
              refine l_q rfl (q_move rfl) ?_
              first | refine l_part_d (t := 74) rfl (fun u => ?_) (fun u => ?_) | refine l_part_n (t := 74) rfl (fun u => ?_) (fun u => ?_) | refine l_part (t := 74) rfl (fun u => ?_) (fun u => ?_)
              · refine l_on rfl rfl ?_
                refine l_q rfl (q_move rfl) ?_
                refine l_on rfl rfl ?_
                refine l_q rfl (q_move rfl) ?_
                refine l_on rfl rfl ?_
                refine l_q rfl (q_move rfl) ?_
                refine l_on rfl rfl ?_
                apply l_callf rfl rfl rfl (At_ok _ _ _ hh)
                · repeat (first | with_reducible exact .nil | apply Pick.cons | with_reducible exact .here | apply Take.there)
                rintro v L' ⟨rfl, rfl⟩
                refine l_norm fun M hM => ?_
                try simp only [List.cons_append, List.nil_append, List.append_nil] at hM
                subst M
                refine l_on rfl rfl ?_
                refine l_q rfl (q_move rfl) ?_
                refine l_on rfl rfl ?_
                apply l_q rfl
                · apply q_bin rfl rfl (fun w => g_int w); exact fun w => b_eql w
                apply l_q rfl
                · first | exact q_pick_t rfl rfl | exact q_pick_f rfl rfl
                refine l_q rfl (q_assign rfl) ?_
                refine l_nil ?_
                refine n_code ?_
                refine t_ret ?_
                apply f_ret (.inl rfl) ([])
                · apply res1 rfl
                  · exact .tmp rfl
                · exact ⟨by rw [ha.2.2]; simp, rfl⟩
                · first | exact Ent.refl _ | ((try push_cast); apply Sel.ent; (repeat (first | apply Sel.cons | with_reducible exact Sel.nil | apply Sel.rest | with_reducible exact Take.here | apply Take.there | exact Drop.refl | apply Drop.skip)))
              · refine l_off rfl rfl rfl rfl ?_
                refine l_off rfl rfl rfl rfl ?_
                refine l_off rfl rfl rfl rfl ?_
                refine l_off rfl rfl rfl rfl ?_
                refine l_off rfl rfl rfl rfl ?_
                refine l_off rfl rfl rfl rfl ?_
                apply l_q rfl
                · first | exact q_pick_t rfl rfl | exact q_pick_f rfl rfl
                refine l_q rfl (q_assign rfl) ?_
                refine l_nil ?_
                refine n_code ?_
                refine t_ret ?_
                exact absurd ha.2.1 u
            · refine l_off rfl rfl rfl rfl ?_
              refine l_off rfl rfl rfl rfl ?_
              refine l_off rfl rfl rfl rfl ?_
              apply l_q rfl
              · first | exact q_pick_t rfl rfl | exact q_pick_f rfl rfl
              refine l_q rfl (q_move rfl) ?_
              refine l_off rfl rfl rfl rfl ?_
              refine l_off rfl rfl rfl rfl ?_
              refine l_off rfl rfl rfl rfl ?_
              refine l_off rfl rfl rfl rfl ?_
              refine l_off rfl rfl rfl rfl ?_
              refine l_off rfl rfl rfl rfl ?_
              apply l_q rfl
              · first | exact q_pick_t rfl rfl | exact q_pick_f rfl rfl
              refine l_q rfl (q_assign rfl) ?_
              refine l_nil ?_
              refine n_code ?_
              refine t_ret ?_
              exact absurd ha.1 t
    · refine l_on rfl rfl ?_
      refine l_q rfl (q_move rfl) ?_
      refine l_on rfl rfl ?_
      refine l_q rfl (q_move rfl) ?_
      refine l_on rfl rfl ?_
      apply l_q rfl
      · apply q_bin rfl rfl (fun w => g_int w); exact fun w => b_geq w
      apply l_q rfl
      · first | exact q_pick_t rfl rfl | exact q_pick_f rfl rfl
      refine l_nil ?_
      refine n_code ?_
      first | refine t_cond_d rfl (fun l => ?_) (fun l => ?_) | refine t_cond_n rfl (fun l => ?_) (fun l => ?_) | refine t_cond rfl (fun l => ?_) (fun l => ?_)
      · refine t_seq ?_
        refine t_region ?_
        refine l_q rfl (q_move rfl) ?_
        apply l_q rfl
        · apply q_bin rfl rfl (fun w => g_int w); exact fun w => b_neq w
        refine l_nil ?_
        refine n_code ?_
        have hat : atI home groups n = -1 := by
          rcases atI_cases (home := home) hv n with ⟨x, _⟩ | ⟨_, x⟩
          · omega
          · exact x
        first | refine t_cond_d rfl (fun m => ?_) (fun m => ?_) | refine t_cond_n rfl (fun m => ?_) (fun m => ?_) | refine t_cond rfl (fun m => ?_) (fun m => ?_)
        · refine t_seq ?_
          refine t_region ?_
          refine l_q rfl (q_assign rfl) ?_
          refine l_nil ?_
          refine n_code ?_
          refine t_ret ?_
          refine r_code ?_
          exact absurd hat m
        · refine t_skip ?_
          refine n_code ?_
          refine t_seq ?_
          refine t_seq ?_
          refine t_region ?_
          refine l_q rfl (q_move rfl) ?_
          apply l_q rfl
          · apply q_bin rfl rfl (fun w => g_int w); exact fun w => b_lss w
          refine l_q rfl (q_move rfl) ?_
          first | refine l_part_d (t := 60) rfl (fun q => ?_) (fun q => ?_) | refine l_part_n (t := 60) rfl (fun q => ?_) (fun q => ?_) | refine l_part (t := 60) rfl (fun q => ?_) (fun q => ?_)
          · refine l_off rfl rfl rfl rfl ?_
            refine l_off rfl rfl rfl rfl ?_
            refine l_off rfl rfl rfl rfl ?_
            apply l_q rfl
            · first | exact q_pick_t rfl rfl | exact q_pick_f rfl rfl
            refine l_nil ?_
            refine n_code ?_
            refine t_cond_t rfl ?_
            refine t_seq ?_
            refine t_region ?_
            refine l_q rfl (q_move rfl) ?_
            apply l_q rfl
            · apply q_bin rfl rfl (fun w => g_int w); exact fun w => b_eql w
            refine l_q rfl (q_assign rfl) ?_
            refine l_nil ?_
            refine n_code ?_
            refine t_ret ?_
            refine r_code ?_
            have hs : stI home groups g = -1 := by
              rcases stI_cases (home := home) hv g with ⟨x, _⟩ | ⟨_, x⟩
              · omega
              · exact x
            apply f_ret (.inl rfl) ([])
            · apply res1 rfl
              · exact .tmp rfl
            · exact ⟨by rw [hs]; rfl, rfl⟩
            · first | exact Ent.refl _ | ((try push_cast); apply Sel.ent; (repeat (first | apply Sel.cons | with_reducible exact Sel.nil | apply Sel.rest | with_reducible exact Take.here | apply Take.there | exact Drop.refl | apply Drop.skip)))
          · refine l_on rfl rfl ?_
            refine l_q rfl (q_move rfl) ?_
            refine l_on rfl rfl ?_
            refine l_q rfl (q_move rfl) ?_
            refine l_on rfl rfl ?_
            apply l_q rfl
            · apply q_bin rfl rfl (fun w => g_int w); exact fun w => b_geq w
            apply l_q rfl
            · first | exact q_pick_t rfl rfl | exact q_pick_f rfl rfl
            refine l_nil ?_
            refine n_code ?_
            first | refine t_cond_d rfl (fun r => ?_) (fun r => ?_) | refine t_cond_n rfl (fun r => ?_) (fun r => ?_) | refine t_cond rfl (fun r => ?_) (fun r => ?_)
            · refine t_seq ?_
              refine t_region ?_
              refine l_q rfl (q_move rfl) ?_
              apply l_q rfl
              · apply q_bin rfl rfl (fun w => g_int w); exact fun w => b_eql w
              refine l_q rfl (q_assign rfl) ?_
              refine l_nil ?_
              refine n_code ?_
              refine t_ret ?_
              refine r_code ?_
              have hs : stI home groups g = -1 := by
                rcases stI_cases (home := home) hv g with ⟨x, _⟩ | ⟨_, x⟩
                · omega
                · exact x
              apply f_ret (.inl rfl) ([])
              · apply res1 rfl
                · exact .tmp rfl
              · exact ⟨by rw [hs]; rfl, rfl⟩
              · first | exact Ent.refl _ | ((try push_cast); apply Sel.ent; (repeat (first | apply Sel.cons | with_reducible exact Sel.nil | apply Sel.rest | with_reducible exact Take.here | apply Take.there | exact Drop.refl | apply Drop.skip)))
            · refine t_skip ?_
              refine n_code ?_
              refine t_seq ?_
              refine t_region ?_
              refine l_q rfl (q_move rfl) ?_
              apply l_q rfl
              · apply q_bin rfl rfl (fun w => g_int w); exact fun w => b_geq w
              refine l_q rfl (q_move rfl) ?_
              have ha := atI_st (home := home) hv (v := g) ⟨by omega, by omega⟩
              first | refine l_part_d (t := 69) rfl (fun t => ?_) (fun t => ?_) | refine l_part_n (t := 69) rfl (fun t => ?_) (fun t => ?_) | refine l_part (t := 69) rfl (fun t => ?_) (fun t => ?_)
              · refine l_on rfl rfl ?_
                refine l_q rfl (q_move rfl) ?_
                refine l_on rfl rfl ?_
                refine l_q rfl (q_move rfl) ?_
                refine l_on rfl rfl ?_
                apply l_q rfl
                · apply q_bin rfl rfl (fun w => g_int w); exact fun w => b_lss w
                apply l_q rfl
                · first | exact q_pick_t rfl rfl | exact q_pick_f rfl rfl
                refine l_q rfl (q_move rfl) ?_
                first | refine l_part_d (t := 74) rfl (fun u => ?_) (fun u => ?_) | refine l_part_n (t := 74) rfl (fun u => ?_) (fun u => ?_) | refine l_part (t := 74) rfl (fun u => ?_) (fun u => ?_)
                · refine l_on rfl rfl ?_
                  refine l_q rfl (q_move rfl) ?_
                  refine l_on rfl rfl ?_
                  refine l_q rfl (q_move rfl) ?_
                  refine l_on rfl rfl ?_
                  refine l_q rfl (q_move rfl) ?_
                  refine l_on rfl rfl ?_
                  apply l_callf rfl rfl rfl (At_ok _ _ _ hh)
                  · repeat (first | with_reducible exact .nil | apply Pick.cons | with_reducible exact .here | apply Take.there)
                  rintro v L' ⟨rfl, rfl⟩
                  refine l_norm fun M hM => ?_
                  try simp only [List.cons_append, List.nil_append, List.append_nil] at hM
                  subst M
                  refine l_on rfl rfl ?_
                  refine l_q rfl (q_move rfl) ?_
                  refine l_on rfl rfl ?_
                  apply l_q rfl
                  · apply q_bin rfl rfl (fun w => g_int w); exact fun w => b_eql w
                  apply l_q rfl
                  · first | exact q_pick_t rfl rfl | exact q_pick_f rfl rfl
                  refine l_q rfl (q_assign rfl) ?_
                  refine l_nil ?_
                  refine n_code ?_
                  refine t_ret ?_
                  apply f_ret (.inl rfl) ([])
                  · apply res1 rfl
                    · exact .tmp rfl
                  · exact ⟨by rw [ha.2.2]; simp, rfl⟩
                  · first | exact Ent.refl _ | ((try push_cast); apply Sel.ent; (repeat (first | apply Sel.cons | with_reducible exact Sel.nil | apply Sel.rest | with_reducible exact Take.here | apply Take.there | exact Drop.refl | apply Drop.skip)))
                · refine l_off rfl rfl rfl rfl ?_
                  refine l_off rfl rfl rfl rfl ?_
                  refine l_off rfl rfl rfl rfl ?_
                  refine l_off rfl rfl rfl rfl ?_
                  refine l_off rfl rfl rfl rfl ?_
                  refine l_off rfl rfl rfl rfl ?_
                  apply l_q rfl
                  · first | exact q_pick_t rfl rfl | exact q_pick_f rfl rfl
                  refine l_q rfl (q_assign rfl) ?_
                  refine l_nil ?_
                  refine n_code ?_
                  refine t_ret ?_
                  exact absurd ha.2.1 u
              · refine l_off rfl rfl rfl rfl ?_
                refine l_off rfl rfl rfl rfl ?_
                refine l_off rfl rfl rfl rfl ?_
                apply l_q rfl
                · first | exact q_pick_t rfl rfl | exact q_pick_f rfl rfl
                refine l_q rfl (q_move rfl) ?_
                refine l_off rfl rfl rfl rfl ?_
                refine l_off rfl rfl rfl rfl ?_
                refine l_off rfl rfl rfl rfl ?_
                refine l_off rfl rfl rfl rfl ?_
                refine l_off rfl rfl rfl rfl ?_
                refine l_off rfl rfl rfl rfl ?_
                apply l_q rfl
                · first | exact q_pick_t rfl rfl | exact q_pick_f rfl rfl
                refine l_q rfl (q_assign rfl) ?_
                refine l_nil ?_
                refine n_code ?_
                refine t_ret ?_
                exact absurd ha.1 t
      · refine t_seq ?_
        refine t_region ?_
        refine l_q rfl (q_move rfl) ?_
        apply l_q rfl
        · apply q_bin rfl rfl (fun w => g_int w); exact fun w => b_lss w
        refine l_q rfl (q_move rfl) ?_
        have hat : (0 ≤ atI home groups n ∧ atI home groups n < groups) ∧ stI home groups (atI home groups n) = n := by
          rcases atI_cases (home := home) hv n with ⟨_, x⟩ | ⟨x, _⟩
          · exact x
          · omega
        obtain ⟨⟨hat0, hat1⟩, hat2⟩ := hat
        first | refine l_part_d (t := 45) rfl (fun x => ?_) (fun x => ?_) | refine l_part_n (t := 45) rfl (fun x => ?_) (fun x => ?_) | refine l_part (t := 45) rfl (fun x => ?_) (fun x => ?_)
        · refine l_off rfl rfl rfl rfl ?_
          refine l_off rfl rfl rfl rfl ?_
          refine l_off rfl rfl rfl rfl ?_
          apply l_q rfl
          · first | exact q_pick_t rfl rfl | exact q_pick_f rfl rfl
          refine l_q rfl (q_move rfl) ?_
          refine l_off rfl rfl rfl rfl ?_
          refine l_off rfl rfl rfl rfl ?_
          refine l_off rfl rfl rfl rfl ?_
          refine l_off rfl rfl rfl rfl ?_
          refine l_off rfl rfl rfl rfl ?_
          refine l_off rfl rfl rfl rfl ?_
          apply l_q rfl
          · first | exact q_pick_t rfl rfl | exact q_pick_f rfl rfl
          refine l_nil ?_
          refine n_code ?_
          refine t_cond_t rfl ?_
          refine t_seq ?_
          refine t_region ?_
          refine l_q rfl (q_assign rfl) ?_
          refine l_nil ?_
          refine n_code ?_
          refine t_ret ?_
          refine r_code ?_
          omega
        · refine l_on rfl rfl ?_
          refine l_q rfl (q_move rfl) ?_
          refine l_on rfl rfl ?_
          refine l_q rfl (q_move rfl) ?_
          refine l_on rfl rfl ?_
          apply l_q rfl
          · apply q_bin rfl rfl (fun w => g_int w); exact fun w => b_geq w
          apply l_q rfl
          · first | exact q_pick_t rfl rfl | exact q_pick_f rfl rfl
          refine l_q rfl (q_move rfl) ?_
          first | refine l_part_d (t := 50) rfl (fun y => ?_) (fun y => ?_) | refine l_part_n (t := 50) rfl (fun y => ?_) (fun y => ?_) | refine l_part (t := 50) rfl (fun y => ?_) (fun y => ?_)
          · refine l_off rfl rfl rfl rfl ?_
            refine l_off rfl rfl rfl rfl ?_
            refine l_off rfl rfl rfl rfl ?_
            refine l_off rfl rfl rfl rfl ?_
            refine l_off rfl rfl rfl rfl ?_
            refine l_off rfl rfl rfl rfl ?_
            apply l_q rfl
            · first | exact q_pick_t rfl rfl | exact q_pick_f rfl rfl
            refine l_nil ?_
            refine n_code ?_
            refine t_cond_t rfl ?_
            refine t_seq ?_
            refine t_region ?_
            refine l_q rfl (q_assign rfl) ?_
            refine l_nil ?_
            refine n_code ?_
            refine t_ret ?_
            refine r_code ?_
            omega
          · refine l_on rfl rfl ?_
            refine l_q rfl (q_move rfl) ?_
            refine l_on rfl rfl ?_
            refine l_q rfl (q_move rfl) ?_
            refine l_on rfl rfl ?_
            refine l_q rfl (q_move rfl) ?_
            refine l_on rfl rfl ?_
            apply l_callf rfl rfl rfl (Steps_ok _ _ _ hh)
            · repeat (first | with_reducible exact .nil | apply Pick.cons | with_reducible exact .here | apply Take.there)
            rintro v L' ⟨rfl, rfl⟩
            refine l_norm fun M hM => ?_
            try simp only [List.cons_append, List.nil_append, List.append_nil] at hM
            subst M
            refine l_on rfl rfl ?_
            refine l_q rfl (q_move rfl) ?_
            refine l_on rfl rfl ?_
            apply l_q rfl
            · apply q_bin rfl rfl (fun w => g_int w); exact fun w => b_neq w
            apply l_q rfl
            · first | exact q_pick_t rfl rfl | exact q_pick_f rfl rfl
            refine l_nil ?_
            refine n_code ?_
            first | refine t_cond_d rfl (fun z => ?_) (fun z => ?_) | refine t_cond_n rfl (fun z => ?_) (fun z => ?_) | refine t_cond rfl (fun z => ?_) (fun z => ?_)
            · refine t_seq ?_
              refine t_region ?_
              refine l_q rfl (q_assign rfl) ?_
              refine l_nil ?_
              refine n_code ?_
              refine t_ret ?_
              refine r_code ?_
              exact absurd hat2 z
            · refine t_skip ?_
              refine n_code ?_
              refine t_seq ?_
              refine t_seq ?_
              refine t_region ?_
              refine l_q rfl (q_move rfl) ?_
              apply l_q rfl
              · apply q_bin rfl rfl (fun w => g_int w); exact fun w => b_lss w
              refine l_q rfl (q_move rfl) ?_
              first | refine l_part_d (t := 60) rfl (fun q => ?_) (fun q => ?_) | refine l_part_n (t := 60) rfl (fun q => ?_) (fun q => ?_) | refine l_part (t := 60) rfl (fun q => ?_) (fun q => ?_)
              · refine l_off rfl rfl rfl rfl ?_
                refine l_off rfl rfl rfl rfl ?_
                refine l_off rfl rfl rfl rfl ?_
                apply l_q rfl
                · first | exact q_pick_t rfl rfl | exact q_pick_f rfl rfl
                refine l_nil ?_
                refine n_code ?_
                refine t_cond_t rfl ?_
                refine t_seq ?_
                refine t_region ?_
                refine l_q rfl (q_move rfl) ?_
                apply l_q rfl
                · apply q_bin rfl rfl (fun w => g_int w); exact fun w => b_eql w
                refine l_q rfl (q_assign rfl) ?_
                refine l_nil ?_
                refine n_code ?_
                refine t_ret ?_
                refine r_code ?_
                have hs : stI home groups g = -1 := by
                  rcases stI_cases (home := home) hv g with ⟨x, _⟩ | ⟨_, x⟩
                  · omega
                  · exact x
                apply f_ret (.inl rfl) ([])
                · apply res1 rfl
                  · exact .tmp rfl
                · exact ⟨by rw [hs]; rfl, rfl⟩
                · first | exact Ent.refl _ | ((try push_cast); apply Sel.ent; (repeat (first | apply Sel.cons | with_reducible exact Sel.nil | apply Sel.rest | with_reducible exact Take.here | apply Take.there | exact Drop.refl | apply Drop.skip)))
              · refine l_on rfl rfl ?_
                refine l_q rfl (q_move rfl) ?_
                refine l_on rfl rfl ?_
                refine l_q rfl (q_move rfl) ?_
                refine l_on rfl rfl ?_
                apply l_q rfl
                · apply q_bin rfl rfl (fun w => g_int w); exact fun w => b_geq w
                apply l_q rfl
                · first | exact q_pick_t rfl rfl | exact q_pick_f rfl rfl
                refine l_nil ?_
                refine n_code ?_
                first | refine t_cond_d rfl (fun r => ?_) (fun r => ?_) | refine t_cond_n rfl (fun r => ?_) (fun r => ?_) | refine t_cond rfl (fun r => ?_) (fun r => ?_)
                · refine t_seq ?_
                  refine t_region ?_
                  refine l_q rfl (q_move rfl) ?_
                  apply l_q rfl
                  · apply q_bin rfl rfl (fun w => g_int w); exact fun w => b_eql w
                  refine l_q rfl (q_assign rfl) ?_
                  refine l_nil ?_
                  refine n_code ?_
                  refine t_ret ?_
                  refine r_code ?_
                  have hs : stI home groups g = -1 := by
                    rcases stI_cases (home := home) hv g with ⟨x, _⟩ | ⟨_, x⟩
                    · omega
                    · exact x
                  apply f_ret (.inl rfl) ([])
                  · apply res1 rfl
                    · exact .tmp rfl
                  · exact ⟨by rw [hs]; rfl, rfl⟩
                  · first | exact Ent.refl _ | ((try push_cast); apply Sel.ent; (repeat (first | apply Sel.cons | with_reducible exact Sel.nil | apply Sel.rest | with_reducible exact Take.here | apply Take.there | exact Drop.refl | apply Drop.skip)))
                · refine t_skip ?_
                  refine n_code ?_
                  refine t_seq ?_
                  refine t_region ?_
                  refine l_q rfl (q_move rfl) ?_
                  apply l_q rfl
                  · apply q_bin rfl rfl (fun w => g_int w); exact fun w => b_geq w
                  refine l_q rfl (q_move rfl) ?_
                  have ha := atI_st (home := home) hv (v := g) ⟨by omega, by omega⟩
                  first | refine l_part_d (t := 69) rfl (fun t => ?_) (fun t => ?_) | refine l_part_n (t := 69) rfl (fun t => ?_) (fun t => ?_) | refine l_part (t := 69) rfl (fun t => ?_) (fun t => ?_)
                  · refine l_on rfl rfl ?_
                    refine l_q rfl (q_move rfl) ?_
                    refine l_on rfl rfl ?_
                    refine l_q rfl (q_move rfl) ?_
                    refine l_on rfl rfl ?_
                    apply l_q rfl
                    · apply q_bin rfl rfl (fun w => g_int w); exact fun w => b_lss w
                    apply l_q rfl
                    · first | exact q_pick_t rfl rfl | exact q_pick_f rfl rfl
                    refine l_q rfl (q_move rfl) ?_
                    first | refine l_part_d (t := 74) rfl (fun u => ?_) (fun u => ?_) | refine l_part_n (t := 74) rfl (fun u => ?_) (fun u => ?_) | refine l_part (t := 74) rfl (fun u => ?_) (fun u => ?_)
                    · refine l_on rfl rfl ?_
                      refine l_q rfl (q_move rfl) ?_
                      refine l_on rfl rfl ?_
                      refine l_q rfl (q_move rfl) ?_
                      refine l_on rfl rfl ?_
                      refine l_q rfl (q_move rfl) ?_
                      refine l_on rfl rfl ?_
                      apply l_callf rfl rfl rfl (At_ok _ _ _ hh)
                      · repeat (first | with_reducible exact .nil | apply Pick.cons | with_reducible exact .here | apply Take.there)
                      rintro v L' ⟨rfl, rfl⟩
                      refine l_norm fun M hM => ?_
                      try simp only [List.cons_append, List.nil_append, List.append_nil] at hM
                      subst M
                      refine l_on rfl rfl ?_
                      refine l_q rfl (q_move rfl) ?_
                      refine l_on rfl rfl ?_
                      apply l_q rfl
                      · apply q_bin rfl rfl (fun w => g_int w); exact fun w => b_eql w
                      apply l_q rfl
                      · first | exact q_pick_t rfl rfl | exact q_pick_f rfl rfl
                      refine l_q rfl (q_assign rfl) ?_
                      refine l_nil ?_
                      refine n_code ?_
                      refine t_ret ?_
                      apply f_ret (.inl rfl) ([])
                      · apply res1 rfl
                        · exact .tmp rfl
                      · exact ⟨by rw [ha.2.2]; simp, rfl⟩
                      · first | exact Ent.refl _ | ((try push_cast); apply Sel.ent; (repeat (first | apply Sel.cons | with_reducible exact Sel.nil | apply Sel.rest | with_reducible exact Take.here | apply Take.there | exact Drop.refl | apply Drop.skip)))
                    · refine l_off rfl rfl rfl rfl ?_
                      refine l_off rfl rfl rfl rfl ?_
                      refine l_off rfl rfl rfl rfl ?_
                      refine l_off rfl rfl rfl rfl ?_
                      refine l_off rfl rfl rfl rfl ?_
                      refine l_off rfl rfl rfl rfl ?_
                      apply l_q rfl
                      · first | exact q_pick_t rfl rfl | exact q_pick_f rfl rfl
                      refine l_q rfl (q_assign rfl) ?_
                      refine l_nil ?_
                      refine n_code ?_
                      refine t_ret ?_
                      exact absurd ha.2.1 u
                  · refine l_off rfl rfl rfl rfl ?_
                    refine l_off rfl rfl rfl rfl ?_
                    refine l_off rfl rfl rfl rfl ?_
                    apply l_q rfl
                    · first | exact q_pick_t rfl rfl | exact q_pick_f rfl rfl
                    refine l_q rfl (q_move rfl) ?_
                    refine l_off rfl rfl rfl rfl ?_
                    refine l_off rfl rfl rfl rfl ?_
                    refine l_off rfl rfl rfl rfl ?_
                    refine l_off rfl rfl rfl rfl ?_
                    refine l_off rfl rfl rfl rfl ?_
                    refine l_off rfl rfl rfl rfl ?_
                    apply l_q rfl
                    · first | exact q_pick_t rfl rfl | exact q_pick_f rfl rfl
                    refine l_q rfl (q_assign rfl) ?_
                    refine l_nil ?_
                    refine n_code ?_
                    refine t_ret ?_
                    exact absurd ha.1 t
end Go.Proofs.Ytbooplbhlmiihaa.Probe
