/- TablePiles answers true. -/
import Derived.Test.YthdmlgnhmbobaaaDoorPilesB
import Derived.Test.YthdmlgnhmbobaaaDoorTableW
import Derived.Test.YthdmlgnhmbobaaaDoorTableN
set_option linter.unusedVariables false
set_option linter.unusedSimpArgs false
set_option maxRecDepth 100000
namespace Go.Proofs.YthdmlgnhmbobaaaDoor.Piles
open Go.RowKit Go.Proofs Go.Proofs.YthdmlgnhmbobaaaDoor.Eng Go.Proofs.YthdmlgnhmbobaaaDoor.Ty Go.Proofs.YthdmlgnhmbobaaaDoor.Bits Go.Proofs.YthdmlgnhmbobaaaDoor.Mem Go.Proofs.YthdmlgnhmbobaaaDoor.Search Go.Proofs.YthdmlgnhmbobaaaDoor.Arena Go.Proofs.YthdmlgnhmbobaaaDoor.CtrlB Go.Proofs.YthdmlgnhmbobaaaDoor.Ctrl Go.Proofs.YthdmlgnhmbobaaaDoor.Layout Go.Proofs.YthdmlgnhmbobaaaDoor.GroupB Go.Proofs.YthdmlgnhmbobaaaDoor.Group Go.Proofs.YthdmlgnhmbobaaaDoor.Probe Go.Proofs.YthdmlgnhmbobaaaDoor.TableB Go.Proofs.YthdmlgnhmbobaaaDoor.TableI Go.Proofs.YthdmlgnhmbobaaaDoor.Table Go.Proofs.YthdmlgnhmbobaaaDoor.Ref03

theorem slots_pow {a : Int} (h1 : 8 ≤ a) (h2 : a ≤ 65536) (h3 : bits .and .i64 a (a - 1) = 0) : ∃ e n : Nat, e ≤ 13 ∧ n = 2 ^ e ∧ a = 8 * (n : Int) := by
  have hp : Probe.powB a 8 65536 = true := by
    unfold Probe.powB
    have := Probe.pow2_eq (n := a) (by omega) (by omega)
    rw [h3] at this
    simp only [decide_true] at this
    rw [← this]; simp [h1, h2]
  obtain ⟨k, k1, k2, e⟩ := (Probe.powB_iff a 8 3 16 65536 (by decide) (by decide) (by decide)).1 hp
  refine ⟨k - 3, 2 ^ (k - 3), by omega, rfl, ?_⟩
  rw [e, show k = (k - 3) + 3 by omega, Int.pow_add, pow_cast, Int.mul_comm]; rfl
theorem room_small {n : Nat} {l : Lay} (hl : l.err = 0) (hn : n ≤ 128) : ((n * gN l : Nat) : Int) ≤ 1048576 ∧ 64 + classI ((n * gN l : Nat) : Int) ≤ 2097152 := by
  have hb := Lay.bnd hl
  have hN := layN hl
  have hg : gN l ≤ 2232 := by have := hN.g; omega
  have h1 : n * gN l ≤ 128 * 2232 := Nat.mul_le_mul hn hg
  by_cases h0 : n * gN l = 0
  · rw [h0]; decide
  · have := classI_bnd (n := ((n * gN l : Nat) : Int)) (by omega)
    omega
theorem quo128 {h : Int} (hh : 0 ≤ h ∧ h < 18446744073709551616) : IntKind.u64.wrap (h.tdiv 128) = h / 128 := by
  rw [Int.tdiv_eq_ediv_of_nonneg hh.1, wrap_u64 (by omega)]
theorem at_gk {home : Int} {n e k : Nat} (he : e ≤ 13) (hn : n = 2 ^ e) (hk : k / 8 < n) : atI home (n : Int) ((k : Int) / 8) = ((gk home n (k / 8) : Nat) : Int) := by
  have hg := grp_n he hn
  unfold atI
  rw [hg, if_pos (by omega), gk_cast (by omega), show ((k : Int) / 8).toNat = k / 8 by omega]
set_option maxHeartbeats 1000000 in
theorem TablePiles_ok (G : HP) (hG : TabOk G) (vf : Value) (xs : List Int) (hA : IntsAt G vf xs) (slots N h : Int) (hs : -9223372036854775808 ≤ slots ∧ slots ≤ 9223372036854775807) (hh : 0 ≤ h ∧ h < 18446744073709551616) :
    FnOk Tryd.prog 3 #[.agg #[vf, .int .i64 slots, .int .i64 N, .int .u64 h]] [G] (fun v L => v = .bool true ∧ L = [G]) := by
  refine fn_intro en3 Tryd.func3 rfl rfl rfl ?_
  intro Fr w0
  refine t_nm ?_
  refine t_seq ?_
  refine t_region ?_
  refine o_boxA rfl rfl (fun b1 => ?_)
  refine l_q rfl (q_assign rfl) ?_
  refine l_nil ?_
  refine n_code ?_
  refine t_seq ?_
  refine t_region ?_
  first | refine l_q rfl (q_fieldAddr0 0 rfl Tryd.underlying25 rfl rfl ty_size22) ?_ | refine l_q rfl (q_fieldAddrK 0 rfl Tryd.underlying25 rfl rfl ty_size22) ?_
  refine l_q rfl (q_loadL rfl ty_agg22 tk ga) ?_
  apply l_callf rfl rfl rfl (Parse_ok G vf xs hA)
  · exact pk
  rintro v L' ⟨rfl, (⟨hpe, hle, rfl⟩ | ⟨hpe, rfl⟩)⟩
  refine l_nm ?_
  · skip
    refine l_q rfl (q_move rfl) ?_
    refine l_q rfl (q_extractL rfl ga) ?_
    refine l_q rfl (q_extractL rfl ga) ?_
    refine o_allocA rfl ty_zero27 (fun b3 => ?_)
    apply o_storeAggL rfl rfl rfl ty_size27 rfl rfl (by simp)
    · exact tk
    · exact sal
    refine l_q rfl (q_assign rfl) ?_
    refine l_nil ?_
    refine n_code ?_
    refine t_seq ?_
    refine t_seq ?_
    refine t_region ?_
    refine l_q rfl (q_move rfl) ?_
    apply l_q rfl
    · apply q_bin rfl rfl (fun w => g_int w); exact fun w => b_neq w
    refine l_q rfl (q_move rfl) ?_
    first | refine l_part_d (t := 29) rfl (fun p1 => ?_) (fun p1 => ?_) | refine l_part_n (t := 29) rfl (fun p1 => ?_) (fun p1 => ?_) | refine l_part (t := 29) rfl (fun p1 => ?_) (fun p1 => ?_)
    · exact absurd rfl p1
    · refine l_on rfl rfl ?_
      first | refine l_q rfl (q_fieldAddr0 1 rfl Tryd.underlying25 rfl rfl ty_size3) ?_ | refine l_q rfl (q_fieldAddrK 1 rfl Tryd.underlying25 rfl rfl ty_size3) ?_
      refine l_on rfl rfl ?_
      refine l_q rfl (q_loadL rfl ty_agg3 tk ga) ?_
      refine l_on rfl rfl ?_
      apply l_q rfl
      · apply q_bin rfl rfl (fun w => g_int w); exact fun w => b_lss w
      first | refine l_q rfl (q_pick_t rfl rfl) ?_ | refine l_q rfl (q_pick_f rfl rfl) ?_
      refine l_q rfl (q_move rfl) ?_
      first | refine l_part_d (t := 34) rfl (fun p2 => ?_) (fun p2 => ?_) | refine l_part_n (t := 34) rfl (fun p2 => ?_) (fun p2 => ?_) | refine l_part (t := 34) rfl (fun p2 => ?_) (fun p2 => ?_)
      · refine l_off rfl rfl rfl rfl ?_
        refine l_off rfl rfl rfl rfl ?_
        refine l_off rfl rfl rfl rfl ?_
        first | refine l_q rfl (q_pick_t rfl rfl) ?_ | refine l_q rfl (q_pick_f rfl rfl) ?_
        refine l_q rfl (q_move rfl) ?_
        refine l_off rfl rfl rfl rfl ?_
        refine l_off rfl rfl rfl rfl ?_
        refine l_off rfl rfl rfl rfl ?_
        refine l_off rfl rfl rfl rfl ?_
        refine l_off rfl rfl rfl rfl ?_
        refine l_off rfl rfl rfl rfl ?_
        refine l_off rfl rfl rfl rfl ?_
        first | refine l_q rfl (q_pick_t rfl rfl) ?_ | refine l_q rfl (q_pick_f rfl rfl) ?_
        refine l_q rfl (q_move rfl) ?_
        refine l_off rfl rfl rfl rfl ?_
        refine l_off rfl rfl rfl rfl ?_
        refine l_off rfl rfl rfl rfl ?_
        first | refine l_q rfl (q_pick_t rfl rfl) ?_ | refine l_q rfl (q_pick_f rfl rfl) ?_
        refine l_q rfl (q_move rfl) ?_
        refine l_off rfl rfl rfl rfl ?_
        refine l_off rfl rfl rfl rfl ?_
        refine l_off rfl rfl rfl rfl ?_
        first | refine l_q rfl (q_pick_t rfl rfl) ?_ | refine l_q rfl (q_pick_f rfl rfl) ?_
        refine l_q rfl (q_move rfl) ?_
        refine l_off rfl rfl rfl rfl ?_
        refine l_off rfl rfl rfl rfl ?_
        refine l_off rfl rfl rfl rfl ?_
        first | refine l_q rfl (q_pick_t rfl rfl) ?_ | refine l_q rfl (q_pick_f rfl rfl) ?_
        refine l_nil ?_
        refine n_code ?_
        refine t_cond_t rfl ?_
        refine t_seq ?_
        refine t_region ?_
        refine l_q rfl (q_assign rfl) ?_
        refine l_nil ?_
        refine n_code ?_
        refine t_ret ?_
        refine r_code ?_
        apply f_ret (.inl rfl) ([G])
        · apply res1 rfl
          · exact .tmp rfl
        · exact ⟨rfl, rfl⟩
        · exact en
      · refine l_on rfl rfl ?_
        first | refine l_q rfl (q_fieldAddr0 1 rfl Tryd.underlying25 rfl rfl ty_size3) ?_ | refine l_q rfl (q_fieldAddrK 1 rfl Tryd.underlying25 rfl rfl ty_size3) ?_
        refine l_on rfl rfl ?_
        refine l_q rfl (q_loadL rfl ty_agg3 tk ga) ?_
        refine l_on rfl rfl ?_
        apply l_q rfl
        · apply q_bin rfl rfl (fun w => g_int w); exact fun w => b_gtr w
        first | refine l_q rfl (q_pick_t rfl rfl) ?_ | refine l_q rfl (q_pick_f rfl rfl) ?_
        refine l_q rfl (q_move rfl) ?_
        first | refine l_part_d (t := 39) rfl (fun p3 => ?_) (fun p3 => ?_) | refine l_part_n (t := 39) rfl (fun p3 => ?_) (fun p3 => ?_) | refine l_part (t := 39) rfl (fun p3 => ?_) (fun p3 => ?_)
        · refine l_off rfl rfl rfl rfl ?_
          refine l_off rfl rfl rfl rfl ?_
          refine l_off rfl rfl rfl rfl ?_
          refine l_off rfl rfl rfl rfl ?_
          refine l_off rfl rfl rfl rfl ?_
          refine l_off rfl rfl rfl rfl ?_
          refine l_off rfl rfl rfl rfl ?_
          first | refine l_q rfl (q_pick_t rfl rfl) ?_ | refine l_q rfl (q_pick_f rfl rfl) ?_
          refine l_q rfl (q_move rfl) ?_
          refine l_off rfl rfl rfl rfl ?_
          refine l_off rfl rfl rfl rfl ?_
          refine l_off rfl rfl rfl rfl ?_
          first | refine l_q rfl (q_pick_t rfl rfl) ?_ | refine l_q rfl (q_pick_f rfl rfl) ?_
          refine l_q rfl (q_move rfl) ?_
          refine l_off rfl rfl rfl rfl ?_
          refine l_off rfl rfl rfl rfl ?_
          refine l_off rfl rfl rfl rfl ?_
          first | refine l_q rfl (q_pick_t rfl rfl) ?_ | refine l_q rfl (q_pick_f rfl rfl) ?_
          refine l_q rfl (q_move rfl) ?_
          refine l_off rfl rfl rfl rfl ?_
          refine l_off rfl rfl rfl rfl ?_
          refine l_off rfl rfl rfl rfl ?_
          first | refine l_q rfl (q_pick_t rfl rfl) ?_ | refine l_q rfl (q_pick_f rfl rfl) ?_
          refine l_nil ?_
          refine n_code ?_
          refine t_cond_t rfl ?_
          refine t_seq ?_
          refine t_region ?_
          refine l_q rfl (q_assign rfl) ?_
          refine l_nil ?_
          refine n_code ?_
          refine t_ret ?_
          refine r_code ?_
          apply f_ret (.inl rfl) ([G])
          · apply res1 rfl
            · exact .tmp rfl
          · exact ⟨rfl, rfl⟩
          · exact en
        · refine l_on rfl rfl ?_
          first | refine l_q rfl (q_fieldAddr0 1 rfl Tryd.underlying25 rfl rfl ty_size3) ?_ | refine l_q rfl (q_fieldAddrK 1 rfl Tryd.underlying25 rfl rfl ty_size3) ?_
          refine l_on rfl rfl ?_
          refine l_q rfl (q_loadL rfl ty_agg3 tk ga) ?_
          refine l_on rfl rfl ?_
          first | refine l_q rfl (q_fieldAddr0 1 rfl Tryd.underlying25 rfl rfl ty_size3) ?_ | refine l_q rfl (q_fieldAddrK 1 rfl Tryd.underlying25 rfl rfl ty_size3) ?_
          refine l_on rfl rfl ?_
          refine l_q rfl (q_loadL rfl ty_agg3 tk ga) ?_
          refine l_on rfl rfl ?_
          apply l_q rfl
          · apply q_bin rfl rfl (fun w => g_int w); first | exact fun w => b_sub_i w (by omega) | exact fun w => b_sub w
          refine l_on rfl rfl ?_
          apply l_q rfl
          · apply q_bin rfl rfl (fun w => g_int w); exact fun w => b_bits w rfl
          refine l_on rfl rfl ?_
          apply l_q rfl
          · apply q_bin rfl rfl (fun w => g_int w); exact fun w => b_neq w
          first | refine l_q rfl (q_pick_t rfl rfl) ?_ | refine l_q rfl (q_pick_f rfl rfl) ?_
          refine l_q rfl (q_move rfl) ?_
          first | refine l_part_d (t := 48) rfl (fun p4 => ?_) (fun p4 => ?_) | refine l_part_n (t := 48) rfl (fun p4 => ?_) (fun p4 => ?_) | refine l_part (t := 48) rfl (fun p4 => ?_) (fun p4 => ?_)
          · refine l_off rfl rfl rfl rfl ?_
            refine l_off rfl rfl rfl rfl ?_
            refine l_off rfl rfl rfl rfl ?_
            first | refine l_q rfl (q_pick_t rfl rfl) ?_ | refine l_q rfl (q_pick_f rfl rfl) ?_
            refine l_q rfl (q_move rfl) ?_
            refine l_off rfl rfl rfl rfl ?_
            refine l_off rfl rfl rfl rfl ?_
            refine l_off rfl rfl rfl rfl ?_
            first | refine l_q rfl (q_pick_t rfl rfl) ?_ | refine l_q rfl (q_pick_f rfl rfl) ?_
            refine l_q rfl (q_move rfl) ?_
            refine l_off rfl rfl rfl rfl ?_
            refine l_off rfl rfl rfl rfl ?_
            refine l_off rfl rfl rfl rfl ?_
            first | refine l_q rfl (q_pick_t rfl rfl) ?_ | refine l_q rfl (q_pick_f rfl rfl) ?_
            refine l_nil ?_
            refine n_code ?_
            refine t_cond_t rfl ?_
            refine t_seq ?_
            refine t_region ?_
            refine l_q rfl (q_assign rfl) ?_
            refine l_nil ?_
            refine n_code ?_
            refine t_ret ?_
            refine r_code ?_
            apply f_ret (.inl rfl) ([G])
            · apply res1 rfl
              · exact .tmp rfl
            · exact ⟨rfl, rfl⟩
            · exact en
          · refine l_on rfl rfl ?_
            first | refine l_q rfl (q_fieldAddr0 2 rfl Tryd.underlying25 rfl rfl ty_size3) ?_ | refine l_q rfl (q_fieldAddrK 2 rfl Tryd.underlying25 rfl rfl ty_size3) ?_
            refine l_on rfl rfl ?_
            refine l_q rfl (q_loadL rfl ty_agg3 tk ga) ?_
            refine l_on rfl rfl ?_
            apply l_q rfl
            · apply q_bin rfl rfl (fun w => g_int w); exact fun w => b_lss w
            first | refine l_q rfl (q_pick_t rfl rfl) ?_ | refine l_q rfl (q_pick_f rfl rfl) ?_
            refine l_q rfl (q_move rfl) ?_
            first | refine l_part_d (t := 53) rfl (fun p5 => ?_) (fun p5 => ?_) | refine l_part_n (t := 53) rfl (fun p5 => ?_) (fun p5 => ?_) | refine l_part (t := 53) rfl (fun p5 => ?_) (fun p5 => ?_)
            · refine l_off rfl rfl rfl rfl ?_
              refine l_off rfl rfl rfl rfl ?_
              refine l_off rfl rfl rfl rfl ?_
              first | refine l_q rfl (q_pick_t rfl rfl) ?_ | refine l_q rfl (q_pick_f rfl rfl) ?_
              refine l_q rfl (q_move rfl) ?_
              refine l_off rfl rfl rfl rfl ?_
              refine l_off rfl rfl rfl rfl ?_
              refine l_off rfl rfl rfl rfl ?_
              first | refine l_q rfl (q_pick_t rfl rfl) ?_ | refine l_q rfl (q_pick_f rfl rfl) ?_
              refine l_nil ?_
              refine n_code ?_
              refine t_cond_t rfl ?_
              refine t_seq ?_
              refine t_region ?_
              refine l_q rfl (q_assign rfl) ?_
              refine l_nil ?_
              refine n_code ?_
              refine t_ret ?_
              refine r_code ?_
              apply f_ret (.inl rfl) ([G])
              · apply res1 rfl
                · exact .tmp rfl
              · exact ⟨rfl, rfl⟩
              · exact en
            · refine l_on rfl rfl ?_
              first | refine l_q rfl (q_fieldAddr0 2 rfl Tryd.underlying25 rfl rfl ty_size3) ?_ | refine l_q rfl (q_fieldAddrK 2 rfl Tryd.underlying25 rfl rfl ty_size3) ?_
              refine l_on rfl rfl ?_
              refine l_q rfl (q_loadL rfl ty_agg3 tk ga) ?_
              refine l_on rfl rfl ?_
              apply l_q rfl
              · apply q_bin rfl rfl (fun w => g_int w); exact fun w => b_gtr w
              first | refine l_q rfl (q_pick_t rfl rfl) ?_ | refine l_q rfl (q_pick_f rfl rfl) ?_
              refine l_q rfl (q_move rfl) ?_
              first | refine l_part_d (t := 58) rfl (fun p6 => ?_) (fun p6 => ?_) | refine l_part_n (t := 58) rfl (fun p6 => ?_) (fun p6 => ?_) | refine l_part (t := 58) rfl (fun p6 => ?_) (fun p6 => ?_)
              · refine l_off rfl rfl rfl rfl ?_
                refine l_off rfl rfl rfl rfl ?_
                refine l_off rfl rfl rfl rfl ?_
                first | refine l_q rfl (q_pick_t rfl rfl) ?_ | refine l_q rfl (q_pick_f rfl rfl) ?_
                refine l_nil ?_
                refine n_code ?_
                refine t_cond_t rfl ?_
                refine t_seq ?_
                refine t_region ?_
                refine l_q rfl (q_assign rfl) ?_
                refine l_nil ?_
                refine n_code ?_
                refine t_ret ?_
                refine r_code ?_
                apply f_ret (.inl rfl) ([G])
                · apply res1 rfl
                  · exact .tmp rfl
                · exact ⟨rfl, rfl⟩
                · exact en
              · refine l_on rfl rfl ?_
                first | refine l_q rfl (q_fieldAddr0 0 rfl Tryd.underlying27 rfl rfl ty_size3) ?_ | refine l_q rfl (q_fieldAddrK 0 rfl Tryd.underlying27 rfl rfl ty_size3) ?_
                refine l_on rfl rfl ?_
                refine l_q rfl (q_loadL rfl ty_agg3 tk ga) ?_
                refine l_on rfl rfl ?_
                apply l_q rfl
                · apply q_bin rfl rfl (fun w => g_int w); exact fun w => b_lss w
                first | refine l_q rfl (q_pick_t rfl rfl) ?_ | refine l_q rfl (q_pick_f rfl rfl) ?_
                refine l_nil ?_
                refine n_code ?_
                first | refine t_cond_d rfl (fun p7 => ?_) (fun p7 => ?_) | refine t_cond_n rfl (fun p7 => ?_) (fun p7 => ?_) | refine t_cond rfl (fun p7 => ?_) (fun p7 => ?_)
                · refine t_seq ?_
                  refine t_region ?_
                  refine l_q rfl (q_assign rfl) ?_
                  refine l_nil ?_
                  refine n_code ?_
                  refine t_ret ?_
                  refine r_code ?_
                  apply f_ret (.inl rfl) ([G])
                  · apply res1 rfl
                    · exact .tmp rfl
                  · exact ⟨rfl, rfl⟩
                  · exact en
                · refine t_skip ?_
                  refine n_code ?_
                  refine t_seq ?_
                  refine t_region ?_
                  obtain ⟨e, n, he, hn, hsl⟩ := slots_pow (by omega) (by omega) (Classical.not_not.1 p4)
                  subst hsl
                  have hn0 : 0 < n := by rw [hn]; exact Nat.two_pow_pos e
                  have hN := layN hle
                  have hbd := Lay.bnd hle
                  have hk2 : 2 ≤ kN (lay5 xs) := by have := hN.k; omega
                  have hks := hN.k
                  have hes := hN.e
                  have hk1 := hN.k1
                  have he1 := hN.e1
                  have hroom := room_small (n := n) hle (by omega)
                  apply l_callf rfl rfl rfl (Arena.New_ok 2097152 (by omega))
                  · exact pk
                  rintro v L' ⟨pa, rfl, rfl⟩
                  refine l_nm ?_
                  refine l_q rfl (q_move rfl) ?_
                  refine l_q rfl (q_extractL rfl ga) ?_
                  refine l_q rfl (q_extractL rfl ga) ?_
                  refine l_q rfl (q_assign rfl) ?_
                  refine l_q rfl (q_assign rfl) ?_
                  refine l_nil ?_
                  refine n_code ?_
                  refine t_seq ?_
                  refine t_seq ?_
                  refine t_region ?_
                  refine l_q rfl (q_move rfl) ?_
                  apply l_callf rfl rfl rfl (num08_ok _)
                  · exact pk
                  rintro v L' ⟨rfl, rfl⟩
                  refine l_nm ?_
                  apply l_q rfl
                  · apply q_bin rfl rfl (fun w => g_int w); exact fun w => b_neq w
                  refine l_q rfl (q_move rfl) ?_
                  first | refine l_part_d (t := 70) rfl (fun q1 => ?_) (fun q1 => ?_) | refine l_part_n (t := 70) rfl (fun q1 => ?_) (fun q1 => ?_) | refine l_part (t := 70) rfl (fun q1 => ?_) (fun q1 => ?_)
                  · exact absurd rfl q1
                  · refine l_on rfl rfl ?_
                    refine l_q rfl (q_move rfl) ?_
                    refine l_on rfl rfl ?_
                    apply l_q rfl
                    · apply q_bin rfl rfl (fun w => g_pointer w); exact fun w => b_eqlP0 w Tryd.underlying30
                    first | refine l_q rfl (q_pick_t rfl rfl) ?_ | refine l_q rfl (q_pick_f rfl rfl) ?_
                    refine l_nil ?_
                    refine n_code ?_
                    first | refine t_cond_d rfl (fun q2 => ?_) (fun q2 => ?_) | refine t_cond_n rfl (fun q2 => ?_) (fun q2 => ?_) | refine t_cond rfl (fun q2 => ?_) (fun q2 => ?_)
                    · cases q2
                    · refine t_skip ?_
                      refine n_code ?_
                      refine t_seq ?_
                      refine t_region ?_
                      refine l_q rfl (q_move rfl) ?_
                      refine l_q rfl (q_loadAggL rfl ty_agg27 ty_size27 tk sb) ?_
                      first | refine l_q rfl (q_fieldAddr0 1 rfl Tryd.underlying25 rfl rfl ty_size3) ?_ | refine l_q rfl (q_fieldAddrK 1 rfl Tryd.underlying25 rfl rfl ty_size3) ?_
                      refine l_q rfl (q_loadL rfl ty_agg3 tk ga) ?_
                      apply l_callf rfl rfl rfl (Table.New_ok pa n e (ArS.new 2097152) (lay5 xs) (8 * (n : Int)) 3 hle he hn rfl (by omega))
                      · exact pk
                      rintro v L' (⟨hb, rfl, rfl⟩ | ⟨_, _, s, rfl, rfl, hP, _⟩)
                      refine l_nm ?_
                      · exfalso
                        have e1 : (ArS.new 2097152).live = 0 := rfl
                        have e2 : (ArS.new 2097152).limit = 2097152 := rfl
                        omega
                      · skip
                        refine l_nm ?_
                        refine l_q rfl (q_move rfl) ?_
                        refine l_q rfl (q_extractL rfl ga) ?_
                        refine l_q rfl (q_extractL rfl ga) ?_
                        refine o_allocA rfl ty_zero36 (fun b7 => ?_)
                        apply o_storeAggL rfl rfl rfl ty_size36 rfl rfl (by simp)
                        · exact tk
                        · exact sal
                        refine l_q rfl (q_assign rfl) ?_
                        refine l_nil ?_
                        refine n_code ?_
                        refine t_seq ?_
                        refine t_seq ?_
                        refine t_region ?_
                        refine l_q rfl (q_move rfl) ?_
                        apply l_callf rfl rfl rfl (num08_ok _)
                        · exact pk
                        rintro v L' ⟨rfl, rfl⟩
                        refine l_nm ?_
                        apply l_q rfl
                        · apply q_bin rfl rfl (fun w => g_int w); exact fun w => b_neq w
                        refine l_nil ?_
                        refine n_code ?_
                        first | refine t_cond_d rfl (fun q3 => ?_) (fun q3 => ?_) | refine t_cond_n rfl (fun q3 => ?_) (fun q3 => ?_) | refine t_cond rfl (fun q3 => ?_) (fun q3 => ?_)
                        · exact absurd rfl q3
                        · refine t_skip ?_
                          refine n_code ?_
                          refine t_seq ?_
                          refine t_region ?_
                          first | refine l_q rfl (q_fieldAddr0 1 rfl Tryd.underlying25 rfl rfl ty_size3) ?_ | refine l_q rfl (q_fieldAddrK 1 rfl Tryd.underlying25 rfl rfl ty_size3) ?_
                          refine l_q rfl (q_loadL rfl ty_agg3 tk ga) ?_
                          apply l_q rfl
                          · apply q_bin rfl rfl (fun w => g_int w); first | exact fun w => b_quo_i w (by omega) | exact fun w => b_quo w (by omega)
                          apply l_q rfl
                          · apply q_bin rfl rfl (fun w => g_int w); first | exact fun w => b_mul_i w (by omega) | exact fun w => b_mul w
                          refine l_q rfl (q_assign rfl) ?_
                          refine l_nil ?_
                          refine n_code ?_
                          refine t_seq ?_
                          refine t_seq ?_
                          refine t_region ?_
                          refine l_q rfl (q_assign rfl) ?_
                          refine l_nil ?_
                          refine n_code ?_
                          refine t_block ?_
                          rw [show 8 * (n : Int) / 8 * 7 = ((7 * n : Nat) : Int) by omega]
                          obtain ⟨off, hoff⟩ : ∃ off, (ArS.new 2097152).stop = off := ⟨_, rfl⟩
                          rw [hoff] at hP ⊢
                          obtain ⟨N', rfl⟩ := Int.eq_ofNat_of_zero_le (show 0 ≤ N by omega)
                          refine t_loop (fun x : Nat × ArS × Tb => x.1 ≤ N' ∧ TabP x.2.1 off (off + 64) (lay5 xs) n e x.2.2 ∧ PileI n (lay5 xs) h (min x.1 (7 * n)) x.2.2) (fun x => [(1, .pointer (some ⟨b1, 0, none⟩)), (3, .pointer (some ⟨b3, 0, none⟩)), (7, .pointer (some ⟨b7, 0, none⟩)), (9, .int .i64 ((7 * n : Nat) : Int)), (10, .int .i64 x.1)]) (fun x => pt b1 (.cells #[vf, .int .i64 (8 * (n : Int)), .int .i64 (N' : Nat), .int .u64 h] 25 (0, 0)) :: pt b3 (.cells (lay5 xs).cells 27 (0, 0)) :: pt b7 (.cells #[.pointer (some ⟨pa, 0, none⟩), .int .i64 (lay5 xs).key, .int .i64 (lay5 xs).elem, .int .i64 (lay5 xs).ka, .int .i64 (lay5 xs).ea, .int .i64 (lay5 xs).cap, .int .i64 (lay5 xs).eo, .int .i64 (lay5 xs).bo, .int .i64 (lay5 xs).slot, .int .i64 (lay5 xs).group, .int .i64 ((off : Nat) : Int)] 36 (0, 0)) :: G :: arenaH pa x.2.1 :: Fr) (fun x => N' - x.1) (0, s, newT n 3) ⟨by omega, hP, pile_new _ _ _ rfl rfl rfl⟩ ⟨rfl, rfl, rfl, rfl, rfl, trivial⟩ (by (exact en)) ?_
                          rintro ⟨k, s, T⟩ ⟨hkN, hP, hI⟩
                          dsimp only at hkN hP hI ⊢
                          refine t_seq ?_
                          refine t_seq ?_
                          refine t_region ?_
                          refine l_q rfl (q_move rfl) ?_
                          first | refine l_q rfl (q_fieldAddr0 2 rfl Tryd.underlying25 rfl rfl ty_size3) ?_ | refine l_q rfl (q_fieldAddrK 2 rfl Tryd.underlying25 rfl rfl ty_size3) ?_
                          refine l_q rfl (q_loadL rfl ty_agg3 tk ga) ?_
                          apply l_q rfl
                          · apply q_bin rfl rfl (fun w => g_int w); exact fun w => b_lss w
                          refine l_nil ?_
                          refine n_code ?_
                          first | refine t_cond_d rfl (fun g1 => ?_) (fun g1 => ?_) | refine t_cond_n rfl (fun g1 => ?_) (fun g1 => ?_) | refine t_cond rfl (fun g1 => ?_) (fun g1 => ?_)
                          · skip
                            have hu : 0 ≤ T.used ∧ T.used ≤ 1099511627776 := by rw [hI.used]; omega
                            have hlf : 0 ≤ T.left ∧ T.left ≤ 1099511627776 := by rw [hI.left]; omega
                            rcases Nat.lt_or_ge k (7 * n) with hlt | hge
                            · rw [Nat.min_eq_left (by omega)] at hI
                              have hnot := pile_not hI hn hk2 (by omega) (Nat.le_refl k) (by omega) hn0
                              have hprobe : (searchR (h / 128) n T.cells (h % 128) (textS k (kN (lay5 xs)))).probes = ((k / 8 : Nat) : Int) + 1 := by rw [hnot]
                              obtain ⟨hput, hI'⟩ := pile_put hI hn hk2 (by omega) hn0 hlt
                              refine t_skip ?_
                              refine n_code ?_
                              refine t_seq ?_
                              refine t_block ?_
                              refine t_seq ?_
                              refine t_draw mixed ?_
                              refine d_q 0 gO rfl rfl rfl rfl (yq (q_loadAggL rfl ty_agg36 ty_size36 tk sb)) ?_
                              apply d_q 1 gO rfl rfl rfl rfl
                              · apply yq
                                first | exact q_fieldAddr0 3 rfl Tryd.underlying25 rfl rfl ty_size23 | exact q_fieldAddrK 3 rfl Tryd.underlying25 rfl rfl ty_size23
                              refine d_q 2 gO rfl rfl rfl rfl (yq (q_loadL rfl ty_agg23 tk ga)) ?_
                              refine d_q 3 gO rfl rfl rfl rfl (yq (q_move rfl)) ?_
                              apply d_q 4 gO rfl rfl rfl rfl
                              · apply yq
                                first | exact q_fieldAddr0 0 rfl Tryd.underlying27 rfl rfl ty_size3 | exact q_fieldAddrK 0 rfl Tryd.underlying27 rfl rfl ty_size3
                              refine d_q 5 gO rfl rfl rfl rfl (yq (q_loadL rfl ty_agg3 tk ga)) ?_
                              apply d_eff1 [3, 5, 4] [2, 1, 0] 6 [(99, _), (101, _)]
                              · exact gO
                              · exact ⟨rfl, rfl, trivial⟩
                              · kernel_rfl
                              · kernel_rfl
                              intro Ex
                              apply l_callf rfl rfl rfl (text08_okI _ _ (kN (lay5 xs)) hks.symm (by omega))
                              · exact pk
                              rintro v L' ⟨rfl, rfl⟩
                              refine l_nm ?_
                              refine l_nil ?_
                              apply n_d
                              · refine ⟨?_, ?_, ?_, trivial⟩
                                · exact yat gO rfl rfl rfl (yq (q_loadL rfl ty_agg23 tk ga))
                                · refine yat gO rfl rfl rfl ?_
                                  apply yq
                                  first | exact q_fieldAddr0 3 rfl Tryd.underlying25 rfl rfl ty_size23 | exact q_fieldAddrK 3 rfl Tryd.underlying25 rfl rfl ty_size23
                                · exact yat gO rfl rfl rfl (yq (q_loadAggL rfl ty_agg36 ty_size36 tk sb))
                              apply d_eff1 [0, 2, 1] [] 7 [(96, _), (98, _), (102, _)]
                              · exact gO
                              · exact ⟨rfl, rfl, rfl, trivial⟩
                              · kernel_rfl
                              · kernel_rfl
                              intro Ex
                              apply l_callf rfl rfl rfl (Probes_ok G hG pa off (off + 64) n e s (lay5 xs) T hP h hh _ (textS_size _ _))
                              · exact pk
                              rintro v L' ⟨rfl, rfl⟩
                              refine l_nm ?_
                              rw [hprobe]
                              refine l_nil ?_
                              apply n_d
                              · exact trivial
                              refine d_q 8 gO rfl rfl rfl rfl (yq (q_move rfl)) ?_
                              refine d_q 9 gO rfl rfl rfl rfl (yq (q_extractL rfl ga)) ?_
                              refine d_q 10 gO rfl rfl rfl rfl (yq (q_extractL rfl ga)) ?_
                              apply d_eff1 [9, 8] [10] 11 [(104, _)]
                              · exact gO
                              · exact ⟨rfl, trivial⟩
                              · kernel_rfl
                              · kernel_rfl
                              intro Ex
                              refine l_q rfl (q_assign rfl) ?_
                              refine l_nil ?_
                              apply n_d
                              · refine ⟨?_, trivial⟩
                                · exact yat gO rfl rfl rfl (yq (q_extractL rfl ga))
                              apply d_eff1 [10] [] 12 [(105, _)]
                              · exact gO
                              · exact ⟨rfl, trivial⟩
                              · kernel_rfl
                              · kernel_rfl
                              intro Ex
                              refine l_q rfl (q_assign rfl) ?_
                              refine l_nil ?_
                              apply n_d
                              · exact trivial
                              refine d_end (by kernel_rfl) ?_
                              refine n_code ?_
                              refine t_seq ?_
                              refine t_draw mixed ?_
                              refine d_q 0 gO rfl rfl rfl rfl (yq (q_loadAggL rfl ty_agg36 ty_size36 tk sb)) ?_
                              apply d_q 1 gO rfl rfl rfl rfl
                              · apply yq
                                first | exact q_fieldAddr0 3 rfl Tryd.underlying25 rfl rfl ty_size23 | exact q_fieldAddrK 3 rfl Tryd.underlying25 rfl rfl ty_size23
                              refine d_q 2 gO rfl rfl rfl rfl (yq (q_loadL rfl ty_agg23 tk ga)) ?_
                              refine d_q 3 gO rfl rfl rfl rfl (yq (q_move rfl)) ?_
                              apply d_q 4 gO rfl rfl rfl rfl
                              · apply yq
                                first | exact q_fieldAddr0 0 rfl Tryd.underlying27 rfl rfl ty_size3 | exact q_fieldAddrK 0 rfl Tryd.underlying27 rfl rfl ty_size3
                              refine d_q 5 gO rfl rfl rfl rfl (yq (q_loadL rfl ty_agg3 tk ga)) ?_
                              refine d_q 7 gO rfl rfl rfl rfl (yq (q_move rfl)) ?_
                              apply d_q 8 gO rfl rfl rfl rfl
                              · apply yq
                                first | exact q_fieldAddr0 1 rfl Tryd.underlying27 rfl rfl ty_size3 | exact q_fieldAddrK 1 rfl Tryd.underlying27 rfl rfl ty_size3
                              refine d_q 9 gO rfl rfl rfl rfl (yq (q_loadL rfl ty_agg3 tk ga)) ?_
                              refine d_q 11 gO rfl rfl rfl rfl (yq (q_move rfl)) ?_
                              apply d_eff1 [3, 5, 4] [11, 9, 8, 7, 2, 1, 0] 6 [(110, _), (112, _)]
                              · exact gO
                              · exact ⟨rfl, rfl, trivial⟩
                              · kernel_rfl
                              · kernel_rfl
                              intro Ex
                              apply l_callf rfl rfl rfl (text08_okI _ _ (kN (lay5 xs)) hks.symm (by omega))
                              · exact pk
                              rintro v L' ⟨rfl, rfl⟩
                              refine l_nm ?_
                              refine l_nil ?_
                              apply n_d
                              · refine ⟨?_, ?_, ?_, ?_, ?_, ?_, ?_, trivial⟩
                                · exact yat gO rfl rfl rfl (yq (q_move rfl))
                                · exact yat gO rfl rfl rfl (yq (q_loadL rfl ty_agg3 tk ga))
                                · refine yat gO rfl rfl rfl ?_
                                  apply yq
                                  first | exact q_fieldAddr0 1 rfl Tryd.underlying27 rfl rfl ty_size3 | exact q_fieldAddrK 1 rfl Tryd.underlying27 rfl rfl ty_size3
                                · exact yat gO rfl rfl rfl (yq (q_move rfl))
                                · exact yat gO rfl rfl rfl (yq (q_loadL rfl ty_agg23 tk ga))
                                · refine yat gO rfl rfl rfl ?_
                                  apply yq
                                  first | exact q_fieldAddr0 3 rfl Tryd.underlying25 rfl rfl ty_size23 | exact q_fieldAddrK 3 rfl Tryd.underlying25 rfl rfl ty_size23
                                · exact yat gO rfl rfl rfl (yq (q_loadAggL rfl ty_agg36 ty_size36 tk sb))
                              apply d_eff1 [7, 9, 8] [11, 2, 1, 0] 10 [(114, _), (116, _)]
                              · exact gO
                              · exact ⟨rfl, rfl, trivial⟩
                              · kernel_rfl
                              · kernel_rfl
                              intro Ex
                              apply l_callf rfl rfl rfl (text08_okI _ _ (eN (lay5 xs)) hes.symm (by omega))
                              · exact pk
                              rintro v L' ⟨rfl, rfl⟩
                              refine l_nm ?_
                              refine l_nil ?_
                              apply n_d
                              · refine ⟨?_, ?_, ?_, ?_, trivial⟩
                                · exact yat gO rfl rfl rfl (yq (q_move rfl))
                                · exact yat gO rfl rfl rfl (yq (q_loadL rfl ty_agg23 tk ga))
                                · refine yat gO rfl rfl rfl ?_
                                  apply yq
                                  first | exact q_fieldAddr0 3 rfl Tryd.underlying25 rfl rfl ty_size23 | exact q_fieldAddrK 3 rfl Tryd.underlying25 rfl rfl ty_size23
                                · exact yat gO rfl rfl rfl (yq (q_loadAggL rfl ty_agg36 ty_size36 tk sb))
                              apply d_eff1 [0, 2, 11, 1] [] 12 [(107, _), (109, _), (113, _), (117, _), (118, _)]
                              · exact gO
                              · exact ⟨rfl, rfl, rfl, rfl, rfl, trivial⟩
                              · kernel_rfl
                              · kernel_rfl
                              intro Ex
                              apply l_callf rfl rfl rfl (Put_ok G hG pa off (off + 64) n e s (lay5 xs) T hP h hh _ _ (textS_size _ _) (textS_size _ _) k ⟨by omega, by omega⟩ hu hlf)
                              · exact pk
                              rintro v L' ⟨s', rfl, rfl, hP', _⟩
                              refine l_nm ?_
                              rw [hput]
                              refine l_nil ?_
                              apply n_d
                              · exact trivial
                              refine d_q 13 gO rfl rfl rfl rfl (yq (q_move rfl)) ?_
                              refine d_q 14 gO rfl rfl rfl rfl (yq (q_extractL rfl ga)) ?_
                              refine d_q 15 gO rfl rfl rfl rfl (yq (q_extractL rfl ga)) ?_
                              apply d_eff1 [14, 13] [15] 16 [(120, _)]
                              · exact gO
                              · exact ⟨rfl, trivial⟩
                              · kernel_rfl
                              · kernel_rfl
                              intro Ex
                              refine l_q rfl (q_assign rfl) ?_
                              refine l_nil ?_
                              apply n_d
                              · refine ⟨?_, trivial⟩
                                · exact yat gO rfl rfl rfl (yq (q_extractL rfl ga))
                              apply d_eff1 [15] [] 17 [(121, _)]
                              · exact gO
                              · exact ⟨rfl, trivial⟩
                              · kernel_rfl
                              · kernel_rfl
                              intro Ex
                              refine l_q rfl (q_assign rfl) ?_
                              refine l_nil ?_
                              apply n_d
                              · exact trivial
                              refine d_end (by kernel_rfl) ?_
                              refine n_code ?_
                              refine t_seq ?_
                              refine t_seq ?_
                              refine t_region ?_
                              refine l_q rfl (q_move rfl) ?_
                              apply l_callf rfl rfl rfl (num08_ok _)
                              · exact pk
                              rintro v L' ⟨rfl, rfl⟩
                              refine l_nm ?_
                              apply l_q rfl
                              · apply q_bin rfl rfl (fun w => g_int w); exact fun w => b_neq w
                              refine l_q rfl (q_move rfl) ?_
                              first | refine l_part_d (t := 125) rfl (fun a1 => ?_) (fun a1 => ?_) | refine l_part_n (t := 125) rfl (fun a1 => ?_) (fun a1 => ?_) | refine l_part (t := 125) rfl (fun a1 => ?_) (fun a1 => ?_)
                              · exact absurd rfl a1
                              · refine l_on rfl rfl ?_
                                refine l_q rfl (q_move rfl) ?_
                                refine l_on rfl rfl ?_
                                apply l_callf rfl rfl rfl (num08_ok _)
                                · exact pk
                                rintro v L' ⟨rfl, rfl⟩
                                refine l_nm ?_
                                refine l_on rfl rfl ?_
                                apply l_q rfl
                                · apply q_bin rfl rfl (fun w => g_int w); exact fun w => b_neq w
                                first | refine l_q rfl (q_pick_t rfl rfl) ?_ | refine l_q rfl (q_pick_f rfl rfl) ?_
                                refine l_nil ?_
                                refine n_code ?_
                                first | refine t_cond_d rfl (fun a2 => ?_) (fun a2 => ?_) | refine t_cond_n rfl (fun a2 => ?_) (fun a2 => ?_) | refine t_cond rfl (fun a2 => ?_) (fun a2 => ?_)
                                · exact absurd rfl a2
                                · refine t_skip ?_
                                  refine n_code ?_
                                  refine t_seq ?_
                                  refine t_seq ?_
                                  refine t_region ?_
                                  refine l_q rfl (q_move rfl) ?_
                                  refine l_q rfl (q_move rfl) ?_
                                  apply l_q rfl
                                  · apply q_bin rfl rfl (fun w => g_int w); exact fun w => b_geq w
                                  refine l_nil ?_
                                  refine n_code ?_
                                  first | refine t_cond_d rfl (fun a3 => ?_) (fun a3 => ?_) | refine t_cond_n rfl (fun a3 => ?_) (fun a3 => ?_) | refine t_cond rfl (fun a3 => ?_) (fun a3 => ?_)
                                  · omega
                                  · refine t_skip ?_
                                    refine n_code ?_
                                    refine t_seq ?_
                                    refine t_region ?_
                                    refine l_q rfl (q_move rfl) ?_
                                    apply l_q rfl
                                    · apply q_bin rfl rfl (fun w => g_int w); exact fun w => b_neq w
                                    refine l_q rfl (q_move rfl) ?_
                                    first | refine l_part_d (t := 144) rfl (fun a4 => ?_) (fun a4 => ?_) | refine l_part_n (t := 144) rfl (fun a4 => ?_) (fun a4 => ?_) | refine l_part (t := 144) rfl (fun a4 => ?_) (fun a4 => ?_)
                                    · exact absurd rfl a4
                                    · refine l_on rfl rfl ?_
                                      refine l_q rfl (q_move rfl) ?_
                                      refine l_on rfl rfl ?_
                                      refine l_q rfl (q_move rfl) ?_
                                      refine l_on rfl rfl ?_
                                      apply l_q rfl
                                      · apply q_bin rfl rfl (fun w => g_int w); first | exact fun w => b_quo_i w (by omega) | exact fun w => b_quo w (by omega)
                                      refine l_on rfl rfl ?_
                                      apply l_q rfl
                                      · apply q_bin rfl rfl (fun w => g_int w); first | exact fun w => b_add_i w (by omega) | exact fun w => b_add w
                                      refine l_on rfl rfl ?_
                                      apply l_q rfl
                                      · apply q_bin rfl rfl (fun w => g_int w); exact fun w => b_neq w
                                      first | refine l_q rfl (q_pick_t rfl rfl) ?_ | refine l_q rfl (q_pick_f rfl rfl) ?_
                                      refine l_nil ?_
                                      refine n_code ?_
                                      first | refine t_cond_d rfl (fun a5 => ?_) (fun a5 => ?_) | refine t_cond_n rfl (fun a5 => ?_) (fun a5 => ?_) | refine t_cond rfl (fun a5 => ?_) (fun a5 => ?_)
                                      · omega
                                      · refine t_skip ?_
                                        refine n_blk ?_
                                        refine n_code ?_
                                        refine t_region ?_
                                        refine l_q rfl (q_move rfl) ?_
                                        apply l_q rfl
                                        · apply q_bin rfl rfl (fun w => g_int w); first | exact fun w => b_add_i w (by omega) | exact fun w => b_add w
                                        refine l_q rfl (q_assign rfl) ?_
                                        refine l_nil ?_
                                        apply n_again ((k + 1, s', _))
                                        · exact ⟨by dsimp only; omega, hP', by dsimp only; rw [Nat.min_eq_left (by omega)]; exact hI'⟩
                                        · dsimp only; omega
                                        · exact ⟨rfl, rfl, rfl, rfl, rfl, trivial⟩
                                        · exact en
                            · rw [Nat.min_eq_right (by omega)] at hI
                              have hnot := pile_not hI hn hk2 (by omega) hge (by omega) hn0
                              have hprobe : (searchR (h / 128) n T.cells (h % 128) (textS k (kN (lay5 xs)))).probes = ((7 * n / 8 : Nat) : Int) + 1 := by rw [hnot]
                              have hput := pile_full hI hn hk2 (by omega) hn0 rfl hge (by omega)
                              refine t_skip ?_
                              refine n_code ?_
                              refine t_seq ?_
                              refine t_block ?_
                              refine t_seq ?_
                              refine t_draw mixed ?_
                              refine d_q 0 gO rfl rfl rfl rfl (yq (q_loadAggL rfl ty_agg36 ty_size36 tk sb)) ?_
                              apply d_q 1 gO rfl rfl rfl rfl
                              · apply yq
                                first | exact q_fieldAddr0 3 rfl Tryd.underlying25 rfl rfl ty_size23 | exact q_fieldAddrK 3 rfl Tryd.underlying25 rfl rfl ty_size23
                              refine d_q 2 gO rfl rfl rfl rfl (yq (q_loadL rfl ty_agg23 tk ga)) ?_
                              refine d_q 3 gO rfl rfl rfl rfl (yq (q_move rfl)) ?_
                              apply d_q 4 gO rfl rfl rfl rfl
                              · apply yq
                                first | exact q_fieldAddr0 0 rfl Tryd.underlying27 rfl rfl ty_size3 | exact q_fieldAddrK 0 rfl Tryd.underlying27 rfl rfl ty_size3
                              refine d_q 5 gO rfl rfl rfl rfl (yq (q_loadL rfl ty_agg3 tk ga)) ?_
                              apply d_eff1 [3, 5, 4] [2, 1, 0] 6 [(99, _), (101, _)]
                              · exact gO
                              · exact ⟨rfl, rfl, trivial⟩
                              · kernel_rfl
                              · kernel_rfl
                              intro Ex
                              apply l_callf rfl rfl rfl (text08_okI _ _ (kN (lay5 xs)) hks.symm (by omega))
                              · exact pk
                              rintro v L' ⟨rfl, rfl⟩
                              refine l_nm ?_
                              refine l_nil ?_
                              apply n_d
                              · refine ⟨?_, ?_, ?_, trivial⟩
                                · exact yat gO rfl rfl rfl (yq (q_loadL rfl ty_agg23 tk ga))
                                · refine yat gO rfl rfl rfl ?_
                                  apply yq
                                  first | exact q_fieldAddr0 3 rfl Tryd.underlying25 rfl rfl ty_size23 | exact q_fieldAddrK 3 rfl Tryd.underlying25 rfl rfl ty_size23
                                · exact yat gO rfl rfl rfl (yq (q_loadAggL rfl ty_agg36 ty_size36 tk sb))
                              apply d_eff1 [0, 2, 1] [] 7 [(96, _), (98, _), (102, _)]
                              · exact gO
                              · exact ⟨rfl, rfl, rfl, trivial⟩
                              · kernel_rfl
                              · kernel_rfl
                              intro Ex
                              apply l_callf rfl rfl rfl (Probes_ok G hG pa off (off + 64) n e s (lay5 xs) T hP h hh _ (textS_size _ _))
                              · exact pk
                              rintro v L' ⟨rfl, rfl⟩
                              refine l_nm ?_
                              rw [hprobe]
                              refine l_nil ?_
                              apply n_d
                              · exact trivial
                              refine d_q 8 gO rfl rfl rfl rfl (yq (q_move rfl)) ?_
                              refine d_q 9 gO rfl rfl rfl rfl (yq (q_extractL rfl ga)) ?_
                              refine d_q 10 gO rfl rfl rfl rfl (yq (q_extractL rfl ga)) ?_
                              apply d_eff1 [9, 8] [10] 11 [(104, _)]
                              · exact gO
                              · exact ⟨rfl, trivial⟩
                              · kernel_rfl
                              · kernel_rfl
                              intro Ex
                              refine l_q rfl (q_assign rfl) ?_
                              refine l_nil ?_
                              apply n_d
                              · refine ⟨?_, trivial⟩
                                · exact yat gO rfl rfl rfl (yq (q_extractL rfl ga))
                              apply d_eff1 [10] [] 12 [(105, _)]
                              · exact gO
                              · exact ⟨rfl, trivial⟩
                              · kernel_rfl
                              · kernel_rfl
                              intro Ex
                              refine l_q rfl (q_assign rfl) ?_
                              refine l_nil ?_
                              apply n_d
                              · exact trivial
                              refine d_end (by kernel_rfl) ?_
                              refine n_code ?_
                              refine t_seq ?_
                              refine t_draw mixed ?_
                              refine d_q 0 gO rfl rfl rfl rfl (yq (q_loadAggL rfl ty_agg36 ty_size36 tk sb)) ?_
                              apply d_q 1 gO rfl rfl rfl rfl
                              · apply yq
                                first | exact q_fieldAddr0 3 rfl Tryd.underlying25 rfl rfl ty_size23 | exact q_fieldAddrK 3 rfl Tryd.underlying25 rfl rfl ty_size23
                              refine d_q 2 gO rfl rfl rfl rfl (yq (q_loadL rfl ty_agg23 tk ga)) ?_
                              refine d_q 3 gO rfl rfl rfl rfl (yq (q_move rfl)) ?_
                              apply d_q 4 gO rfl rfl rfl rfl
                              · apply yq
                                first | exact q_fieldAddr0 0 rfl Tryd.underlying27 rfl rfl ty_size3 | exact q_fieldAddrK 0 rfl Tryd.underlying27 rfl rfl ty_size3
                              refine d_q 5 gO rfl rfl rfl rfl (yq (q_loadL rfl ty_agg3 tk ga)) ?_
                              refine d_q 7 gO rfl rfl rfl rfl (yq (q_move rfl)) ?_
                              apply d_q 8 gO rfl rfl rfl rfl
                              · apply yq
                                first | exact q_fieldAddr0 1 rfl Tryd.underlying27 rfl rfl ty_size3 | exact q_fieldAddrK 1 rfl Tryd.underlying27 rfl rfl ty_size3
                              refine d_q 9 gO rfl rfl rfl rfl (yq (q_loadL rfl ty_agg3 tk ga)) ?_
                              refine d_q 11 gO rfl rfl rfl rfl (yq (q_move rfl)) ?_
                              apply d_eff1 [3, 5, 4] [11, 9, 8, 7, 2, 1, 0] 6 [(110, _), (112, _)]
                              · exact gO
                              · exact ⟨rfl, rfl, trivial⟩
                              · kernel_rfl
                              · kernel_rfl
                              intro Ex
                              apply l_callf rfl rfl rfl (text08_okI _ _ (kN (lay5 xs)) hks.symm (by omega))
                              · exact pk
                              rintro v L' ⟨rfl, rfl⟩
                              refine l_nm ?_
                              refine l_nil ?_
                              apply n_d
                              · refine ⟨?_, ?_, ?_, ?_, ?_, ?_, ?_, trivial⟩
                                · exact yat gO rfl rfl rfl (yq (q_move rfl))
                                · exact yat gO rfl rfl rfl (yq (q_loadL rfl ty_agg3 tk ga))
                                · refine yat gO rfl rfl rfl ?_
                                  apply yq
                                  first | exact q_fieldAddr0 1 rfl Tryd.underlying27 rfl rfl ty_size3 | exact q_fieldAddrK 1 rfl Tryd.underlying27 rfl rfl ty_size3
                                · exact yat gO rfl rfl rfl (yq (q_move rfl))
                                · exact yat gO rfl rfl rfl (yq (q_loadL rfl ty_agg23 tk ga))
                                · refine yat gO rfl rfl rfl ?_
                                  apply yq
                                  first | exact q_fieldAddr0 3 rfl Tryd.underlying25 rfl rfl ty_size23 | exact q_fieldAddrK 3 rfl Tryd.underlying25 rfl rfl ty_size23
                                · exact yat gO rfl rfl rfl (yq (q_loadAggL rfl ty_agg36 ty_size36 tk sb))
                              apply d_eff1 [7, 9, 8] [11, 2, 1, 0] 10 [(114, _), (116, _)]
                              · exact gO
                              · exact ⟨rfl, rfl, trivial⟩
                              · kernel_rfl
                              · kernel_rfl
                              intro Ex
                              apply l_callf rfl rfl rfl (text08_okI _ _ (eN (lay5 xs)) hes.symm (by omega))
                              · exact pk
                              rintro v L' ⟨rfl, rfl⟩
                              refine l_nm ?_
                              refine l_nil ?_
                              apply n_d
                              · refine ⟨?_, ?_, ?_, ?_, trivial⟩
                                · exact yat gO rfl rfl rfl (yq (q_move rfl))
                                · exact yat gO rfl rfl rfl (yq (q_loadL rfl ty_agg23 tk ga))
                                · refine yat gO rfl rfl rfl ?_
                                  apply yq
                                  first | exact q_fieldAddr0 3 rfl Tryd.underlying25 rfl rfl ty_size23 | exact q_fieldAddrK 3 rfl Tryd.underlying25 rfl rfl ty_size23
                                · exact yat gO rfl rfl rfl (yq (q_loadAggL rfl ty_agg36 ty_size36 tk sb))
                              apply d_eff1 [0, 2, 11, 1] [] 12 [(107, _), (109, _), (113, _), (117, _), (118, _)]
                              · exact gO
                              · exact ⟨rfl, rfl, rfl, rfl, rfl, trivial⟩
                              · kernel_rfl
                              · kernel_rfl
                              intro Ex
                              apply l_callf rfl rfl rfl (Put_ok G hG pa off (off + 64) n e s (lay5 xs) T hP h hh _ _ (textS_size _ _) (textS_size _ _) k ⟨by omega, by omega⟩ hu hlf)
                              · exact pk
                              rintro v L' ⟨s', rfl, rfl, hP', _⟩
                              refine l_nm ?_
                              rw [hput]
                              refine l_nil ?_
                              apply n_d
                              · exact trivial
                              refine d_q 13 gO rfl rfl rfl rfl (yq (q_move rfl)) ?_
                              refine d_q 14 gO rfl rfl rfl rfl (yq (q_extractL rfl ga)) ?_
                              refine d_q 15 gO rfl rfl rfl rfl (yq (q_extractL rfl ga)) ?_
                              apply d_eff1 [14, 13] [15] 16 [(120, _)]
                              · exact gO
                              · exact ⟨rfl, trivial⟩
                              · kernel_rfl
                              · kernel_rfl
                              intro Ex
                              refine l_q rfl (q_assign rfl) ?_
                              refine l_nil ?_
                              apply n_d
                              · refine ⟨?_, trivial⟩
                                · exact yat gO rfl rfl rfl (yq (q_extractL rfl ga))
                              apply d_eff1 [15] [] 17 [(121, _)]
                              · exact gO
                              · exact ⟨rfl, trivial⟩
                              · kernel_rfl
                              · kernel_rfl
                              intro Ex
                              refine l_q rfl (q_assign rfl) ?_
                              refine l_nil ?_
                              apply n_d
                              · exact trivial
                              refine d_end (by kernel_rfl) ?_
                              refine n_code ?_
                              refine t_seq ?_
                              refine t_seq ?_
                              refine t_region ?_
                              refine l_q rfl (q_move rfl) ?_
                              apply l_callf rfl rfl rfl (num08_ok _)
                              · exact pk
                              rintro v L' ⟨rfl, rfl⟩
                              refine l_nm ?_
                              apply l_q rfl
                              · apply q_bin rfl rfl (fun w => g_int w); exact fun w => b_neq w
                              refine l_q rfl (q_move rfl) ?_
                              rw [hput] at hP'
                              first | refine l_part_d (t := 125) rfl (fun a1 => ?_) (fun a1 => ?_) | refine l_part_n (t := 125) rfl (fun a1 => ?_) (fun a1 => ?_) | refine l_part (t := 125) rfl (fun a1 => ?_) (fun a1 => ?_)
                              · exact absurd rfl a1
                              · refine l_on rfl rfl ?_
                                refine l_q rfl (q_move rfl) ?_
                                refine l_on rfl rfl ?_
                                apply l_callf rfl rfl rfl (num08_ok _)
                                · exact pk
                                rintro v L' ⟨rfl, rfl⟩
                                refine l_nm ?_
                                refine l_on rfl rfl ?_
                                apply l_q rfl
                                · apply q_bin rfl rfl (fun w => g_int w); exact fun w => b_neq w
                                first | refine l_q rfl (q_pick_t rfl rfl) ?_ | refine l_q rfl (q_pick_f rfl rfl) ?_
                                refine l_nil ?_
                                refine n_code ?_
                                first | refine t_cond_d rfl (fun a2 => ?_) (fun a2 => ?_) | refine t_cond_n rfl (fun a2 => ?_) (fun a2 => ?_) | refine t_cond rfl (fun a2 => ?_) (fun a2 => ?_)
                                · exact absurd rfl a2
                                · refine t_skip ?_
                                  refine n_code ?_
                                  refine t_seq ?_
                                  refine t_seq ?_
                                  refine t_region ?_
                                  refine l_q rfl (q_move rfl) ?_
                                  refine l_q rfl (q_move rfl) ?_
                                  apply l_q rfl
                                  · apply q_bin rfl rfl (fun w => g_int w); exact fun w => b_geq w
                                  refine l_nil ?_
                                  refine n_code ?_
                                  first | refine t_cond_d rfl (fun a3 => ?_) (fun a3 => ?_) | refine t_cond_n rfl (fun a3 => ?_) (fun a3 => ?_) | refine t_cond rfl (fun a3 => ?_) (fun a3 => ?_)
                                  · refine t_seq ?_
                                    refine t_seq ?_
                                    refine t_region ?_
                                    refine l_q rfl (q_move rfl) ?_
                                    apply l_q rfl
                                    · apply q_bin rfl rfl (fun w => g_int w); exact fun w => b_neq w
                                    refine l_q rfl (q_move rfl) ?_
                                    first | refine l_part_d (t := 135) rfl (fun a4 => ?_) (fun a4 => ?_) | refine l_part_n (t := 135) rfl (fun a4 => ?_) (fun a4 => ?_) | refine l_part (t := 135) rfl (fun a4 => ?_) (fun a4 => ?_)
                                    · exact absurd rfl a4
                                    · refine l_on rfl rfl ?_
                                      refine l_q rfl (q_move rfl) ?_
                                      refine l_on rfl rfl ?_
                                      refine l_q rfl (q_move rfl) ?_
                                      refine l_on rfl rfl ?_
                                      apply l_q rfl
                                      · apply q_bin rfl rfl (fun w => g_int w); first | exact fun w => b_quo_i w (by omega) | exact fun w => b_quo w (by omega)
                                      refine l_on rfl rfl ?_
                                      apply l_q rfl
                                      · apply q_bin rfl rfl (fun w => g_int w); first | exact fun w => b_add_i w (by omega) | exact fun w => b_add w
                                      refine l_on rfl rfl ?_
                                      apply l_q rfl
                                      · apply q_bin rfl rfl (fun w => g_int w); exact fun w => b_neq w
                                      first | refine l_q rfl (q_pick_t rfl rfl) ?_ | refine l_q rfl (q_pick_f rfl rfl) ?_
                                      refine l_nil ?_
                                      refine n_code ?_
                                      first | refine t_cond_d rfl (fun a5 => ?_) (fun a5 => ?_) | refine t_cond_n rfl (fun a5 => ?_) (fun a5 => ?_) | refine t_cond rfl (fun a5 => ?_) (fun a5 => ?_)
                                      · omega
                                      · refine t_skip ?_
                                        refine n_code ?_
                                        refine t_exit ?_
                                        refine x_code ?_
                                        refine x_hit ?_
                                        refine n_code ?_
                                        refine t_region ?_
                                        refine l_q rfl (q_move rfl) ?_
                                        apply l_q rfl
                                        · apply q_bin rfl rfl (fun w => g_int w); first | exact fun w => b_add_i w (by omega) | exact fun w => b_add w
                                        refine l_q rfl (q_assign rfl) ?_
                                        refine l_nil ?_
                                        apply n_again ((k + 1, s', T))
                                        · exact ⟨by dsimp only; omega, hP', by dsimp only; rw [Nat.min_eq_right (by omega)]; exact hI⟩
                                        · dsimp only; omega
                                        · exact ⟨rfl, rfl, rfl, rfl, rfl, trivial⟩
                                        · exact en
                                  · omega
                          · refine t_exit ?_
                            refine x_code ?_
                            refine x_lp ?_
                            refine x_hit ?_
                            refine n_code ?_
                            refine t_seq ?_
                            refine t_seq ?_
                            refine t_region ?_
                            refine l_q rfl (q_assign rfl) ?_
                            refine l_nil ?_
                            refine n_code ?_
                            refine t_block ?_
                            obtain rfl : N' = k := by omega
                            refine t_loop (fun k : Nat => k ≤ N' ∧ k ≤ 7 * n) (fun k => [(1, .pointer (some ⟨b1, 0, none⟩)), (3, .pointer (some ⟨b3, 0, none⟩)), (7, .pointer (some ⟨b7, 0, none⟩)), (9, .int .i64 ((7 * n : Nat) : Int)), (15, .int .i64 k)]) (fun k => pt b1 (.cells #[vf, .int .i64 (8 * (n : Int)), .int .i64 (N' : Nat), .int .u64 h] 25 (0, 0)) :: pt b3 (.cells (lay5 xs).cells 27 (0, 0)) :: pt b7 (.cells #[.pointer (some ⟨pa, 0, none⟩), .int .i64 (lay5 xs).key, .int .i64 (lay5 xs).elem, .int .i64 (lay5 xs).ka, .int .i64 (lay5 xs).ea, .int .i64 (lay5 xs).cap, .int .i64 (lay5 xs).eo, .int .i64 (lay5 xs).bo, .int .i64 (lay5 xs).slot, .int .i64 (lay5 xs).group, .int .i64 ((off : Nat) : Int)] 36 (0, 0)) :: G :: arenaH pa s :: Fr) (fun k => N' - k) 0 ⟨by omega, by omega⟩ ⟨rfl, rfl, rfl, rfl, rfl, trivial⟩ (by (exact en)) ?_
                            rintro k ⟨hk1', hk7⟩
                            refine t_seq ?_
                            refine t_seq ?_
                            refine t_region ?_
                            refine l_q rfl (q_move rfl) ?_
                            first | refine l_q rfl (q_fieldAddr0 2 rfl Tryd.underlying25 rfl rfl ty_size3) ?_ | refine l_q rfl (q_fieldAddrK 2 rfl Tryd.underlying25 rfl rfl ty_size3) ?_
                            refine l_q rfl (q_loadL rfl ty_agg3 tk ga) ?_
                            apply l_q rfl
                            · apply q_bin rfl rfl (fun w => g_int w); exact fun w => b_lss w
                            refine l_q rfl (q_move rfl) ?_
                            first | refine l_part_d (t := 155) rfl (fun g2 => ?_) (fun g2 => ?_) | refine l_part_n (t := 155) rfl (fun g2 => ?_) (fun g2 => ?_) | refine l_part (t := 155) rfl (fun g2 => ?_) (fun g2 => ?_)
                            · refine l_on rfl rfl ?_
                              refine l_q rfl (q_move rfl) ?_
                              refine l_on rfl rfl ?_
                              refine l_q rfl (q_move rfl) ?_
                              refine l_on rfl rfl ?_
                              apply l_q rfl
                              · apply q_bin rfl rfl (fun w => g_int w); exact fun w => b_lss w
                              first | refine l_q rfl (q_pick_t rfl rfl) ?_ | refine l_q rfl (q_pick_f rfl rfl) ?_
                              refine l_nil ?_
                              refine n_code ?_
                              first | refine t_cond_d rfl (fun g3 => ?_) (fun g3 => ?_) | refine t_cond_n rfl (fun g3 => ?_) (fun g3 => ?_) | refine t_cond rfl (fun g3 => ?_) (fun g3 => ?_)
                              · skip
                                have hthere := pile_there hI hn hk2 (by omega) (j := k) (by omega)
                                refine t_skip ?_
                                refine n_code ?_
                                refine t_seq ?_
                                refine t_block ?_
                                refine t_seq ?_
                                refine t_draw mixed ?_
                                refine d_q 0 gO rfl rfl rfl rfl (yq (q_loadAggL rfl ty_agg36 ty_size36 tk sb)) ?_
                                apply d_q 1 gO rfl rfl rfl rfl
                                · apply yq
                                  first | exact q_fieldAddr0 3 rfl Tryd.underlying25 rfl rfl ty_size23 | exact q_fieldAddrK 3 rfl Tryd.underlying25 rfl rfl ty_size23
                                refine d_q 2 gO rfl rfl rfl rfl (yq (q_loadL rfl ty_agg23 tk ga)) ?_
                                refine d_q 3 gO rfl rfl rfl rfl (yq (q_move rfl)) ?_
                                apply d_q 4 gO rfl rfl rfl rfl
                                · apply yq
                                  first | exact q_fieldAddr0 0 rfl Tryd.underlying27 rfl rfl ty_size3 | exact q_fieldAddrK 0 rfl Tryd.underlying27 rfl rfl ty_size3
                                refine d_q 5 gO rfl rfl rfl rfl (yq (q_loadL rfl ty_agg3 tk ga)) ?_
                                apply d_eff1 [3, 5, 4] [2, 1, 0] 6 [(166, _), (168, _)]
                                · exact gO
                                · exact ⟨rfl, rfl, trivial⟩
                                · kernel_rfl
                                · kernel_rfl
                                intro Ex
                                apply l_callf rfl rfl rfl (text08_okI _ _ (kN (lay5 xs)) hks.symm (by omega))
                                · exact pk
                                rintro v L' ⟨rfl, rfl⟩
                                refine l_nm ?_
                                refine l_nil ?_
                                apply n_d
                                · refine ⟨?_, ?_, ?_, trivial⟩
                                  · exact yat gO rfl rfl rfl (yq (q_loadL rfl ty_agg23 tk ga))
                                  · refine yat gO rfl rfl rfl ?_
                                    apply yq
                                    first | exact q_fieldAddr0 3 rfl Tryd.underlying25 rfl rfl ty_size23 | exact q_fieldAddrK 3 rfl Tryd.underlying25 rfl rfl ty_size23
                                  · exact yat gO rfl rfl rfl (yq (q_loadAggL rfl ty_agg36 ty_size36 tk sb))
                                apply d_eff1 [0, 2, 1] [] 7 [(163, _), (165, _), (169, _)]
                                · exact gO
                                · exact ⟨rfl, rfl, rfl, trivial⟩
                                · kernel_rfl
                                · kernel_rfl
                                intro Ex
                                apply l_callf rfl rfl rfl (Find_ok G hG pa off (off + 64) n e s (lay5 xs) T hP h hh _ (textS_size _ _))
                                · exact pk
                                rintro v L' ⟨rfl, rfl⟩
                                refine l_nm ?_
                                rw [hthere.1]
                                refine l_nil ?_
                                apply n_d
                                · exact trivial
                                refine d_q 8 gO rfl rfl rfl rfl (yq (q_move rfl)) ?_
                                refine d_q 9 gO rfl rfl rfl rfl (yq (q_extractL rfl ga)) ?_
                                refine d_q 10 gO rfl rfl rfl rfl (yq (q_extractL rfl ga)) ?_
                                apply d_eff1 [9, 8] [10] 11 [(171, _)]
                                · exact gO
                                · exact ⟨rfl, trivial⟩
                                · kernel_rfl
                                · kernel_rfl
                                intro Ex
                                refine l_q rfl (q_assign rfl) ?_
                                refine l_nil ?_
                                apply n_d
                                · refine ⟨?_, trivial⟩
                                  · exact yat gO rfl rfl rfl (yq (q_extractL rfl ga))
                                apply d_eff1 [10] [] 12 [(172, _)]
                                · exact gO
                                · exact ⟨rfl, trivial⟩
                                · kernel_rfl
                                · kernel_rfl
                                intro Ex
                                refine l_q rfl (q_assign rfl) ?_
                                refine l_nil ?_
                                apply n_d
                                · exact trivial
                                refine d_end (by kernel_rfl) ?_
                                refine n_code ?_
                                refine t_seq ?_
                                refine t_draw mixed ?_
                                refine d_q 0 gO rfl rfl rfl rfl (yq (q_loadAggL rfl ty_agg36 ty_size36 tk sb)) ?_
                                apply d_q 1 gO rfl rfl rfl rfl
                                · apply yq
                                  first | exact q_fieldAddr0 3 rfl Tryd.underlying25 rfl rfl ty_size23 | exact q_fieldAddrK 3 rfl Tryd.underlying25 rfl rfl ty_size23
                                refine d_q 2 gO rfl rfl rfl rfl (yq (q_loadL rfl ty_agg23 tk ga)) ?_
                                refine d_q 3 gO rfl rfl rfl rfl (yq (q_move rfl)) ?_
                                apply d_q 4 gO rfl rfl rfl rfl
                                · apply yq
                                  first | exact q_fieldAddr0 0 rfl Tryd.underlying27 rfl rfl ty_size3 | exact q_fieldAddrK 0 rfl Tryd.underlying27 rfl rfl ty_size3
                                refine d_q 5 gO rfl rfl rfl rfl (yq (q_loadL rfl ty_agg3 tk ga)) ?_
                                apply d_eff1 [3, 5, 4] [2, 1, 0] 6 [(177, _), (179, _)]
                                · exact gO
                                · exact ⟨rfl, rfl, trivial⟩
                                · kernel_rfl
                                · kernel_rfl
                                intro Ex
                                apply l_callf rfl rfl rfl (text08_okI _ _ (kN (lay5 xs)) hks.symm (by omega))
                                · exact pk
                                rintro v L' ⟨rfl, rfl⟩
                                refine l_nm ?_
                                refine l_nil ?_
                                apply n_d
                                · refine ⟨?_, ?_, ?_, trivial⟩
                                  · exact yat gO rfl rfl rfl (yq (q_loadL rfl ty_agg23 tk ga))
                                  · refine yat gO rfl rfl rfl ?_
                                    apply yq
                                    first | exact q_fieldAddr0 3 rfl Tryd.underlying25 rfl rfl ty_size23 | exact q_fieldAddrK 3 rfl Tryd.underlying25 rfl rfl ty_size23
                                  · exact yat gO rfl rfl rfl (yq (q_loadAggL rfl ty_agg36 ty_size36 tk sb))
                                apply d_eff1 [0, 2, 1] [] 7 [(174, _), (176, _), (180, _)]
                                · exact gO
                                · exact ⟨rfl, rfl, rfl, trivial⟩
                                · kernel_rfl
                                · kernel_rfl
                                intro Ex
                                apply l_callf rfl rfl rfl (Probes_ok G hG pa off (off + 64) n e s (lay5 xs) T hP h hh _ (textS_size _ _))
                                · exact pk
                                rintro v L' ⟨rfl, rfl⟩
                                refine l_nm ?_
                                rw [hthere.2]
                                refine l_nil ?_
                                apply n_d
                                · exact trivial
                                refine d_q 8 gO rfl rfl rfl rfl (yq (q_move rfl)) ?_
                                refine d_q 9 gO rfl rfl rfl rfl (yq (q_extractL rfl ga)) ?_
                                refine d_q 10 gO rfl rfl rfl rfl (yq (q_extractL rfl ga)) ?_
                                apply d_eff1 [9, 8] [10] 11 [(182, _)]
                                · exact gO
                                · exact ⟨rfl, trivial⟩
                                · kernel_rfl
                                · kernel_rfl
                                intro Ex
                                refine l_q rfl (q_assign rfl) ?_
                                refine l_nil ?_
                                apply n_d
                                · refine ⟨?_, trivial⟩
                                  · exact yat gO rfl rfl rfl (yq (q_extractL rfl ga))
                                apply d_eff1 [10] [] 12 [(183, _)]
                                · exact gO
                                · exact ⟨rfl, trivial⟩
                                · kernel_rfl
                                · kernel_rfl
                                intro Ex
                                refine l_q rfl (q_assign rfl) ?_
                                refine l_nil ?_
                                apply n_d
                                · exact trivial
                                refine d_end (by kernel_rfl) ?_
                                refine n_code ?_
                                refine t_seq ?_
                                refine t_region ?_
                                first | refine l_q rfl (q_fieldAddr0 3 rfl Tryd.underlying25 rfl rfl ty_size23) ?_ | refine l_q rfl (q_fieldAddrK 3 rfl Tryd.underlying25 rfl rfl ty_size23) ?_
                                refine l_q rfl (q_loadL rfl ty_agg23 tk ga) ?_
                                apply l_q rfl
                                · apply q_bin rfl rfl (fun w => g_int w); first | exact fun w => b_quo_i w (by omega) | exact fun w => b_quo w (by omega)
                                first | refine l_q rfl (q_fieldAddr0 1 rfl Tryd.underlying25 rfl rfl ty_size3) ?_ | refine l_q rfl (q_fieldAddrK 1 rfl Tryd.underlying25 rfl rfl ty_size3) ?_
                                refine l_q rfl (q_loadL rfl ty_agg3 tk ga) ?_
                                apply l_q rfl
                                · apply q_bin rfl rfl (fun w => g_int w); first | exact fun w => b_quo_i w (by omega) | exact fun w => b_quo w (by omega)
                                refine l_q rfl (q_move rfl) ?_
                                apply l_q rfl
                                · apply q_bin rfl rfl (fun w => g_int w); first | exact fun w => b_quo_i w (by omega) | exact fun w => b_quo w (by omega)
                                rw [quo128 hh, show 8 * (n : Int) / 8 = ((n : Nat) : Int) by omega]
                                apply l_callf rfl rfl rfl (At_ok (h / 128) n _ ⟨by omega, by omega⟩)
                                · exact pk
                                rintro v L' ⟨rfl, rfl⟩
                                refine l_nm ?_
                                rw [at_gk he hn (by omega)]
                                have hgl := gk_lt (home := h / 128) (k := k / 8) hn0
                                refine l_q rfl (q_assign rfl) ?_
                                refine l_nil ?_
                                refine n_code ?_
                                refine t_seq ?_
                                refine t_region ?_
                                refine l_q rfl (q_move rfl) ?_
                                apply l_callf rfl rfl rfl (num08_ok _)
                                · exact pk
                                rintro v L' ⟨rfl, rfl⟩
                                refine l_nm ?_
                                apply l_q rfl
                                · apply q_bin rfl rfl (fun w => g_int w); exact fun w => b_neq w
                                refine l_q rfl (q_move rfl) ?_
                                first | refine l_part_d (t := 196) rfl (fun a1 => ?_) (fun a1 => ?_) | refine l_part_n (t := 196) rfl (fun a1 => ?_) (fun a1 => ?_) | refine l_part (t := 196) rfl (fun a1 => ?_) (fun a1 => ?_)
                                · exact absurd rfl a1
                                · refine l_on rfl rfl ?_
                                  refine l_q rfl (q_move rfl) ?_
                                  refine l_on rfl rfl ?_
                                  apply l_callf rfl rfl rfl (num08_ok _)
                                  · exact pk
                                  rintro v L' ⟨rfl, rfl⟩
                                  refine l_nm ?_
                                  refine l_on rfl rfl ?_
                                  apply l_q rfl
                                  · apply q_bin rfl rfl (fun w => g_int w); exact fun w => b_neq w
                                  first | refine l_q rfl (q_pick_t rfl rfl) ?_ | refine l_q rfl (q_pick_f rfl rfl) ?_
                                  refine l_q rfl (q_move rfl) ?_
                                  first | refine l_part_d (t := 201) rfl (fun a2 => ?_) (fun a2 => ?_) | refine l_part_n (t := 201) rfl (fun a2 => ?_) (fun a2 => ?_) | refine l_part (t := 201) rfl (fun a2 => ?_) (fun a2 => ?_)
                                  · exact absurd rfl a2
                                  · refine l_on rfl rfl ?_
                                    refine l_q rfl (q_move rfl) ?_
                                    refine l_on rfl rfl ?_
                                    refine l_q rfl (q_move rfl) ?_
                                    refine l_on rfl rfl ?_
                                    apply l_q rfl
                                    · apply q_bin rfl rfl (fun w => g_int w); first | exact fun w => b_mul_i w (by omega) | exact fun w => b_mul w
                                    refine l_on rfl rfl ?_
                                    refine l_q rfl (q_move rfl) ?_
                                    refine l_on rfl rfl ?_
                                    apply l_q rfl
                                    · apply q_bin rfl rfl (fun w => g_int w); first | exact fun w => b_rem_i w (by omega) | exact fun w => b_rem w (by omega)
                                    refine l_on rfl rfl ?_
                                    apply l_q rfl
                                    · apply q_bin rfl rfl (fun w => g_int w); first | exact fun w => b_add_i w (by omega) | exact fun w => b_add w
                                    refine l_on rfl rfl ?_
                                    apply l_q rfl
                                    · apply q_bin rfl rfl (fun w => g_int w); exact fun w => b_neq w
                                    first | refine l_q rfl (q_pick_t rfl rfl) ?_ | refine l_q rfl (q_pick_f rfl rfl) ?_
                                    refine l_q rfl (q_move rfl) ?_
                                    first | refine l_part_d (t := 210) rfl (fun a3 => ?_) (fun a3 => ?_) | refine l_part_n (t := 210) rfl (fun a3 => ?_) (fun a3 => ?_) | refine l_part (t := 210) rfl (fun a3 => ?_) (fun a3 => ?_)
                                    · omega
                                    · refine l_on rfl rfl ?_
                                      refine l_q rfl (q_move rfl) ?_
                                      refine l_on rfl rfl ?_
                                      refine l_q rfl (q_move rfl) ?_
                                      refine l_on rfl rfl ?_
                                      apply l_q rfl
                                      · apply q_bin rfl rfl (fun w => g_int w); first | exact fun w => b_quo_i w (by omega) | exact fun w => b_quo w (by omega)
                                      refine l_on rfl rfl ?_
                                      apply l_q rfl
                                      · apply q_bin rfl rfl (fun w => g_int w); first | exact fun w => b_add_i w (by omega) | exact fun w => b_add w
                                      refine l_on rfl rfl ?_
                                      apply l_q rfl
                                      · apply q_bin rfl rfl (fun w => g_int w); exact fun w => b_neq w
                                      first | refine l_q rfl (q_pick_t rfl rfl) ?_ | refine l_q rfl (q_pick_f rfl rfl) ?_
                                      refine l_nil ?_
                                      refine n_code ?_
                                      first | refine t_cond_d rfl (fun a4 => ?_) (fun a4 => ?_) | refine t_cond_n rfl (fun a4 => ?_) (fun a4 => ?_) | refine t_cond rfl (fun a4 => ?_) (fun a4 => ?_)
                                      · omega
                                      · refine t_skip ?_
                                        refine n_blk ?_
                                        refine n_code ?_
                                        refine t_region ?_
                                        refine l_q rfl (q_move rfl) ?_
                                        apply l_q rfl
                                        · apply q_bin rfl rfl (fun w => g_int w); first | exact fun w => b_add_i w (by omega) | exact fun w => b_add w
                                        refine l_q rfl (q_assign rfl) ?_
                                        refine l_nil ?_
                                        apply n_again ((k + 1))
                                        · exact ⟨by omega, by omega⟩
                                        · omega
                                        · exact ⟨rfl, rfl, rfl, rfl, rfl, trivial⟩
                                        · exact en
                              · refine t_exit ?_
                                refine x_code ?_
                                refine x_lp ?_
                                refine x_hit ?_
                                refine n_code ?_
                                refine t_seq ?_
                                refine t_region ?_
                                refine l_q rfl (q_assign rfl) ?_
                                refine l_nil ?_
                                refine n_code ?_
                                refine t_ret ?_
                                apply f_ret (.inl rfl) ([G])
                                · apply res1 rfl
                                  · exact .tmp rfl
                                · exact ⟨rfl, rfl⟩
                                · exact en
                            · refine l_off rfl rfl rfl rfl ?_
                              refine l_off rfl rfl rfl rfl ?_
                              refine l_off rfl rfl rfl rfl ?_
                              first | refine l_q rfl (q_pick_t rfl rfl) ?_ | refine l_q rfl (q_pick_f rfl rfl) ?_
                              refine l_nil ?_
                              refine n_code ?_
                              refine t_cond_f rfl ?_
                              refine t_exit ?_
                              refine x_code ?_
                              refine x_lp ?_
                              refine x_hit ?_
                              refine n_code ?_
                              refine t_seq ?_
                              refine t_region ?_
                              refine l_q rfl (q_assign rfl) ?_
                              refine l_nil ?_
                              refine n_code ?_
                              refine t_ret ?_
                              apply f_ret (.inl rfl) ([G])
                              · apply res1 rfl
                                · exact .tmp rfl
                              · exact ⟨rfl, rfl⟩
                              · exact en
  · skip
    refine l_nm ?_
    refine l_q rfl (q_move rfl) ?_
    refine l_q rfl (q_extractL rfl ga) ?_
    refine l_q rfl (q_extractL rfl ga) ?_
    refine o_allocA rfl ty_zero27 (fun b3 => ?_)
    apply o_storeAggL rfl rfl rfl ty_size27 rfl rfl (by simp)
    · exact tk
    · exact sal
    refine l_q rfl (q_assign rfl) ?_
    refine l_nil ?_
    refine n_code ?_
    refine t_seq ?_
    refine t_seq ?_
    refine t_region ?_
    refine l_q rfl (q_move rfl) ?_
    apply l_q rfl
    · apply q_bin rfl rfl (fun w => g_int w); exact fun w => b_neq w
    refine l_q rfl (q_move rfl) ?_
    first | refine l_part_d (t := 29) rfl (fun p1 => ?_) (fun p1 => ?_) | refine l_part_n (t := 29) rfl (fun p1 => ?_) (fun p1 => ?_) | refine l_part (t := 29) rfl (fun p1 => ?_) (fun p1 => ?_)
    · refine l_off rfl rfl rfl rfl ?_
      refine l_off rfl rfl rfl rfl ?_
      refine l_off rfl rfl rfl rfl ?_
      first | refine l_q rfl (q_pick_t rfl rfl) ?_ | refine l_q rfl (q_pick_f rfl rfl) ?_
      refine l_q rfl (q_move rfl) ?_
      refine l_off rfl rfl rfl rfl ?_
      refine l_off rfl rfl rfl rfl ?_
      refine l_off rfl rfl rfl rfl ?_
      first | refine l_q rfl (q_pick_t rfl rfl) ?_ | refine l_q rfl (q_pick_f rfl rfl) ?_
      refine l_q rfl (q_move rfl) ?_
      refine l_off rfl rfl rfl rfl ?_
      refine l_off rfl rfl rfl rfl ?_
      refine l_off rfl rfl rfl rfl ?_
      refine l_off rfl rfl rfl rfl ?_
      refine l_off rfl rfl rfl rfl ?_
      refine l_off rfl rfl rfl rfl ?_
      refine l_off rfl rfl rfl rfl ?_
      first | refine l_q rfl (q_pick_t rfl rfl) ?_ | refine l_q rfl (q_pick_f rfl rfl) ?_
      refine l_q rfl (q_move rfl) ?_
      refine l_off rfl rfl rfl rfl ?_
      refine l_off rfl rfl rfl rfl ?_
      refine l_off rfl rfl rfl rfl ?_
      first | refine l_q rfl (q_pick_t rfl rfl) ?_ | refine l_q rfl (q_pick_f rfl rfl) ?_
      refine l_q rfl (q_move rfl) ?_
      refine l_off rfl rfl rfl rfl ?_
      refine l_off rfl rfl rfl rfl ?_
      refine l_off rfl rfl rfl rfl ?_
      first | refine l_q rfl (q_pick_t rfl rfl) ?_ | refine l_q rfl (q_pick_f rfl rfl) ?_
      refine l_q rfl (q_move rfl) ?_
      refine l_off rfl rfl rfl rfl ?_
      refine l_off rfl rfl rfl rfl ?_
      refine l_off rfl rfl rfl rfl ?_
      first | refine l_q rfl (q_pick_t rfl rfl) ?_ | refine l_q rfl (q_pick_f rfl rfl) ?_
      refine l_nil ?_
      refine n_code ?_
      refine t_cond_t rfl ?_
      refine t_seq ?_
      refine t_region ?_
      refine l_q rfl (q_assign rfl) ?_
      refine l_nil ?_
      refine n_code ?_
      refine t_ret ?_
      refine r_code ?_
      apply f_ret (.inl rfl) ([G])
      · apply res1 rfl
        · exact .tmp rfl
      · exact ⟨rfl, rfl⟩
      · exact en
    · exact absurd hpe p1
end Go.Proofs.YthdmlgnhmbobaaaDoor.Piles
