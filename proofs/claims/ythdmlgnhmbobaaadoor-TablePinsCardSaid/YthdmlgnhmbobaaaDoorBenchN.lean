/- The bench of the laws over plans: a new one. -/
import Derived.Test.YthdmlgnhmbobaaaDoorBench
set_option linter.unusedVariables false
set_option linter.unusedSimpArgs false
set_option maxRecDepth 100000
namespace Go.Proofs.YthdmlgnhmbobaaaDoor.Bench
open Go.RowKit Go.Proofs Go.Proofs.YthdmlgnhmbobaaaDoor.Eng Go.Proofs.YthdmlgnhmbobaaaDoor.Ty Go.Proofs.YthdmlgnhmbobaaaDoor.Bits Go.Proofs.YthdmlgnhmbobaaaDoor.Mem Go.Proofs.YthdmlgnhmbobaaaDoor.Search Go.Proofs.YthdmlgnhmbobaaaDoor.Arena Go.Proofs.YthdmlgnhmbobaaaDoor.CtrlB Go.Proofs.YthdmlgnhmbobaaaDoor.Ctrl Go.Proofs.YthdmlgnhmbobaaaDoor.Layout Go.Proofs.YthdmlgnhmbobaaaDoor.GroupB Go.Proofs.YthdmlgnhmbobaaaDoor.Group Go.Proofs.YthdmlgnhmbobaaaDoor.Probe Go.Proofs.YthdmlgnhmbobaaaDoor.TableB Go.Proofs.YthdmlgnhmbobaaaDoor.TableI Go.Proofs.YthdmlgnhmbobaaaDoor.Table Go.Proofs.YthdmlgnhmbobaaaDoor.Ref03

theorem slots_pow {a : Int} (h1 : 8 ≤ a) (h2 : a ≤ 65536) (h3 : bits .and .i64 a (a - 1) = 0) : ∃ e n : Nat, e ≤ 13 ∧ n = 2 ^ e ∧ a = 8 * (n : Int) := by
  have hp : Probe.powB a 8 65536 = true := by
    unfold Probe.powB
    have := Probe.pow2_eq (n := a) (by omega) (by omega)
    rw [h3] at this
    simp only [decide_true] at this
    rw [← this]; simp [h1, h2]
  obtain ⟨k, k1, k2, e⟩ := (Probe.powB_iff a 8 3 16 65536 (by decide) (by decide) (by decide)).1 hp
  refine ⟨k - 3, 2 ^ (k - 3), by omega, rfl, ?_⟩
  rw [e, show k = (k - 3) + 3 by omega, Int.pow_add, pow_cast, Int.mul_comm]; rfl
theorem room_small {n : Nat} {l : Lay} (hl : l.err = 0) (hn : n ≤ 128) : ((n * gN l : Nat) : Int) ≤ 1048576 ∧ 64 + classI ((n * gN l : Nat) : Int) ≤ 2097152 := by
  have hb := Lay.bnd hl
  have hN := layN hl
  have hg : gN l ≤ 2232 := by have := hN.g; omega
  have h1 : n * gN l ≤ 128 * 2232 := Nat.mul_le_mul hn hg
  by_cases h0 : n * gN l = 0
  · rw [h0]; decide
  · have := classI_bnd (n := ((n * gN l : Nat) : Int)) (by omega)
    omega
theorem bench_ok (G : HP) (vf vh vt : Value) (xs hs : List Int) (hA : IntsAt G vf xs) (hh : NumsAt .u64 G vh hs) (slots : Int) (hs64 : -9223372036854775808 ≤ slots ∧ slots ≤ 9223372036854775807) :
    FnOk Tryd.prog 18 #[.agg #[vf, .int .i64 slots, vh, vt]] [G]
      (fun v L => (v = .tuple #[.pointer none, .bool true, .bool false] ∧ L = [G]) ∨
        ∃ pa pb off go : Nat, ∃ n e : Nat, ∃ s, (lay5 xs).err = 0 ∧ n ≤ 128 ∧ slots = 8 * (n : Int) ∧ 0 < hs.length ∧ v = .tuple #[.pointer (some ⟨pb, 0, none⟩), .bool true, .bool true] ∧
          L = [pt pb (.cells #[.pointer (some ⟨pa, 0, none⟩), .int .i64 (lay5 xs).key, .int .i64 (lay5 xs).elem, .int .i64 (lay5 xs).ka, .int .i64 (lay5 xs).ea, .int .i64 (lay5 xs).cap, .int .i64 (lay5 xs).eo, .int .i64 (lay5 xs).bo, .int .i64 (lay5 xs).slot, .int .i64 (lay5 xs).group, .pointer (some ⟨pa, 0, none⟩), .int .i64 (lay5 xs).key, .int .i64 (lay5 xs).elem, .int .i64 (lay5 xs).ka, .int .i64 (lay5 xs).ea, .int .i64 (lay5 xs).cap, .int .i64 (lay5 xs).eo, .int .i64 (lay5 xs).bo, .int .i64 (lay5 xs).slot, .int .i64 (lay5 xs).group, .int .i64 ((off : Nat) : Int), vf, .int .i64 slots, vh, vt, (.slice none 0 0), .int .i64 0] 69 (0, 0)), G, arenaH pa s] ∧ TabP s off go (lay5 xs) n e (newT n 0)) := by
  obtain ⟨a1, cap1, rfl, hh0⟩ := hh
  refine fn_intro en18 Tryd.func18 rfl rfl rfl ?_
  intro Fr w0
  refine t_nm ?_
  refine t_seq ?_
  refine t_region ?_
  refine o_boxA rfl rfl (fun b1 => ?_)
  refine l_q rfl (q_assign rfl) ?_
  refine l_q rfl (q_assign rfl) ?_
  refine l_q rfl (q_assign rfl) ?_
  refine l_nil ?_
  refine n_code ?_
  refine t_seq ?_
  refine t_region ?_
  first | refine l_q rfl (q_fieldAddr0 0 rfl Tryd.underlying64 rfl rfl ty_size22) ?_ | refine l_q rfl (q_fieldAddrK 0 rfl Tryd.underlying64 rfl rfl ty_size22) ?_
  refine l_q rfl (q_loadL rfl ty_agg22 tk ga) ?_
  apply l_callf rfl rfl rfl (Parse_ok G vf xs hA)
  · exact pk
  rintro v L' ⟨rfl, (⟨hpe, hle, rfl⟩ | ⟨hpe, rfl⟩)⟩
  refine l_nm ?_
  · skip
    refine l_q rfl (q_move rfl) ?_
    refine l_q rfl (q_extractL rfl ga) ?_
    refine l_q rfl (q_extractL rfl ga) ?_
    refine o_allocA rfl ty_zero27 (fun b5 => ?_)
    apply o_storeAggL rfl rfl rfl ty_size27 rfl rfl (by simp)
    · exact tk
    · exact sal
    refine l_q rfl (q_assign rfl) ?_
    refine l_nil ?_
    refine n_code ?_
    refine t_seq ?_
    refine t_seq ?_
    refine t_region ?_
    refine l_q rfl (q_move rfl) ?_
    apply l_q rfl
    · apply q_bin rfl rfl (fun w => g_int w); exact fun w => b_neq w
    refine l_q rfl (q_move rfl) ?_
    first | refine l_part_d (t := 19) rfl (fun p1 => ?_) (fun p1 => ?_) | refine l_part_n (t := 19) rfl (fun p1 => ?_) (fun p1 => ?_) | refine l_part (t := 19) rfl (fun p1 => ?_) (fun p1 => ?_)
    · exact absurd rfl p1
    · refine l_on rfl rfl ?_
      first | refine l_q rfl (q_fieldAddr0 2 rfl Tryd.underlying64 rfl rfl ty_size61) ?_ | refine l_q rfl (q_fieldAddrK 2 rfl Tryd.underlying64 rfl rfl ty_size61) ?_
      refine l_on rfl rfl ?_
      refine l_q rfl (q_loadL rfl ty_agg61 tk ga) ?_
      refine l_on rfl rfl ?_
      refine l_q rfl (q_len rfl (fun w => len_slice Tryd.underlying61 w)) ?_
      refine l_on rfl rfl ?_
      apply l_q rfl
      · apply q_bin rfl rfl (fun w => g_int w); exact fun w => b_eql w
      first | refine l_q rfl (q_pick_t rfl rfl) ?_ | refine l_q rfl (q_pick_f rfl rfl) ?_
      refine l_q rfl (q_move rfl) ?_
      first | refine l_part_d (t := 25) rfl (fun p2 => ?_) (fun p2 => ?_) | refine l_part_n (t := 25) rfl (fun p2 => ?_) (fun p2 => ?_) | refine l_part (t := 25) rfl (fun p2 => ?_) (fun p2 => ?_)
      · refine l_off rfl rfl rfl rfl ?_
        refine l_off rfl rfl rfl rfl ?_
        refine l_off rfl rfl rfl rfl ?_
        first | refine l_q rfl (q_pick_t rfl rfl) ?_ | refine l_q rfl (q_pick_f rfl rfl) ?_
        refine l_q rfl (q_move rfl) ?_
        refine l_off rfl rfl rfl rfl ?_
        refine l_off rfl rfl rfl rfl ?_
        refine l_off rfl rfl rfl rfl ?_
        first | refine l_q rfl (q_pick_t rfl rfl) ?_ | refine l_q rfl (q_pick_f rfl rfl) ?_
        refine l_q rfl (q_move rfl) ?_
        refine l_off rfl rfl rfl rfl ?_
        refine l_off rfl rfl rfl rfl ?_
        refine l_off rfl rfl rfl rfl ?_
        refine l_off rfl rfl rfl rfl ?_
        refine l_off rfl rfl rfl rfl ?_
        refine l_off rfl rfl rfl rfl ?_
        refine l_off rfl rfl rfl rfl ?_
        first | refine l_q rfl (q_pick_t rfl rfl) ?_ | refine l_q rfl (q_pick_f rfl rfl) ?_
        refine l_nil ?_
        refine n_code ?_
        refine t_cond_t rfl ?_
        refine t_seq ?_
        refine t_region ?_
        refine l_q rfl (q_assign rfl) ?_
        refine l_q rfl (q_assign rfl) ?_
        refine l_q rfl (q_assign rfl) ?_
        refine l_nil ?_
        refine n_code ?_
        refine t_ret ?_
        refine r_code ?_
        apply f_ret (.inl rfl) ([G])
        · apply res3 rfl
          · exact .tmp rfl
          · exact .tmp rfl
          · exact .tmp rfl
        · exact .inl ⟨rfl, rfl⟩
        · exact en
      · refine l_on rfl rfl ?_
        first | refine l_q rfl (q_fieldAddr0 1 rfl Tryd.underlying64 rfl rfl ty_size3) ?_ | refine l_q rfl (q_fieldAddrK 1 rfl Tryd.underlying64 rfl rfl ty_size3) ?_
        refine l_on rfl rfl ?_
        refine l_q rfl (q_loadL rfl ty_agg3 tk ga) ?_
        refine l_on rfl rfl ?_
        apply l_q rfl
        · apply q_bin rfl rfl (fun w => g_int w); exact fun w => b_lss w
        first | refine l_q rfl (q_pick_t rfl rfl) ?_ | refine l_q rfl (q_pick_f rfl rfl) ?_
        refine l_q rfl (q_move rfl) ?_
        first | refine l_part_d (t := 30) rfl (fun p3 => ?_) (fun p3 => ?_) | refine l_part_n (t := 30) rfl (fun p3 => ?_) (fun p3 => ?_) | refine l_part (t := 30) rfl (fun p3 => ?_) (fun p3 => ?_)
        · refine l_off rfl rfl rfl rfl ?_
          refine l_off rfl rfl rfl rfl ?_
          refine l_off rfl rfl rfl rfl ?_
          first | refine l_q rfl (q_pick_t rfl rfl) ?_ | refine l_q rfl (q_pick_f rfl rfl) ?_
          refine l_q rfl (q_move rfl) ?_
          refine l_off rfl rfl rfl rfl ?_
          refine l_off rfl rfl rfl rfl ?_
          refine l_off rfl rfl rfl rfl ?_
          refine l_off rfl rfl rfl rfl ?_
          refine l_off rfl rfl rfl rfl ?_
          refine l_off rfl rfl rfl rfl ?_
          refine l_off rfl rfl rfl rfl ?_
          first | refine l_q rfl (q_pick_t rfl rfl) ?_ | refine l_q rfl (q_pick_f rfl rfl) ?_
          refine l_nil ?_
          refine n_code ?_
          refine t_cond_t rfl ?_
          refine t_seq ?_
          refine t_region ?_
          refine l_q rfl (q_assign rfl) ?_
          refine l_q rfl (q_assign rfl) ?_
          refine l_q rfl (q_assign rfl) ?_
          refine l_nil ?_
          refine n_code ?_
          refine t_ret ?_
          refine r_code ?_
          apply f_ret (.inl rfl) ([G])
          · apply res3 rfl
            · exact .tmp rfl
            · exact .tmp rfl
            · exact .tmp rfl
          · exact .inl ⟨rfl, rfl⟩
          · exact en
        · refine l_on rfl rfl ?_
          first | refine l_q rfl (q_fieldAddr0 1 rfl Tryd.underlying64 rfl rfl ty_size3) ?_ | refine l_q rfl (q_fieldAddrK 1 rfl Tryd.underlying64 rfl rfl ty_size3) ?_
          refine l_on rfl rfl ?_
          refine l_q rfl (q_loadL rfl ty_agg3 tk ga) ?_
          refine l_on rfl rfl ?_
          apply l_q rfl
          · apply q_bin rfl rfl (fun w => g_int w); exact fun w => b_gtr w
          first | refine l_q rfl (q_pick_t rfl rfl) ?_ | refine l_q rfl (q_pick_f rfl rfl) ?_
          refine l_q rfl (q_move rfl) ?_
          first | refine l_part_d (t := 35) rfl (fun p4 => ?_) (fun p4 => ?_) | refine l_part_n (t := 35) rfl (fun p4 => ?_) (fun p4 => ?_) | refine l_part (t := 35) rfl (fun p4 => ?_) (fun p4 => ?_)
          · refine l_off rfl rfl rfl rfl ?_
            refine l_off rfl rfl rfl rfl ?_
            refine l_off rfl rfl rfl rfl ?_
            refine l_off rfl rfl rfl rfl ?_
            refine l_off rfl rfl rfl rfl ?_
            refine l_off rfl rfl rfl rfl ?_
            refine l_off rfl rfl rfl rfl ?_
            first | refine l_q rfl (q_pick_t rfl rfl) ?_ | refine l_q rfl (q_pick_f rfl rfl) ?_
            refine l_nil ?_
            refine n_code ?_
            refine t_cond_t rfl ?_
            refine t_seq ?_
            refine t_region ?_
            refine l_q rfl (q_assign rfl) ?_
            refine l_q rfl (q_assign rfl) ?_
            refine l_q rfl (q_assign rfl) ?_
            refine l_nil ?_
            refine n_code ?_
            refine t_ret ?_
            refine r_code ?_
            apply f_ret (.inl rfl) ([G])
            · apply res3 rfl
              · exact .tmp rfl
              · exact .tmp rfl
              · exact .tmp rfl
            · exact .inl ⟨rfl, rfl⟩
            · exact en
          · refine l_on rfl rfl ?_
            first | refine l_q rfl (q_fieldAddr0 1 rfl Tryd.underlying64 rfl rfl ty_size3) ?_ | refine l_q rfl (q_fieldAddrK 1 rfl Tryd.underlying64 rfl rfl ty_size3) ?_
            refine l_on rfl rfl ?_
            refine l_q rfl (q_loadL rfl ty_agg3 tk ga) ?_
            refine l_on rfl rfl ?_
            first | refine l_q rfl (q_fieldAddr0 1 rfl Tryd.underlying64 rfl rfl ty_size3) ?_ | refine l_q rfl (q_fieldAddrK 1 rfl Tryd.underlying64 rfl rfl ty_size3) ?_
            refine l_on rfl rfl ?_
            refine l_q rfl (q_loadL rfl ty_agg3 tk ga) ?_
            refine l_on rfl rfl ?_
            apply l_q rfl
            · apply q_bin rfl rfl (fun w => g_int w); first | exact fun w => b_sub_i w (by omega) | exact fun w => b_sub w
            refine l_on rfl rfl ?_
            apply l_q rfl
            · apply q_bin rfl rfl (fun w => g_int w); exact fun w => b_bits w rfl
            refine l_on rfl rfl ?_
            apply l_q rfl
            · apply q_bin rfl rfl (fun w => g_int w); exact fun w => b_neq w
            first | refine l_q rfl (q_pick_t rfl rfl) ?_ | refine l_q rfl (q_pick_f rfl rfl) ?_
            refine l_nil ?_
            refine n_code ?_
            first | refine t_cond_d rfl (fun p5 => ?_) (fun p5 => ?_) | refine t_cond_n rfl (fun p5 => ?_) (fun p5 => ?_) | refine t_cond rfl (fun p5 => ?_) (fun p5 => ?_)
            · refine t_seq ?_
              refine t_region ?_
              refine l_q rfl (q_assign rfl) ?_
              refine l_q rfl (q_assign rfl) ?_
              refine l_q rfl (q_assign rfl) ?_
              refine l_nil ?_
              refine n_code ?_
              refine t_ret ?_
              refine r_code ?_
              apply f_ret (.inl rfl) ([G])
              · apply res3 rfl
                · exact .tmp rfl
                · exact .tmp rfl
                · exact .tmp rfl
              · exact .inl ⟨rfl, rfl⟩
              · exact en
            · refine t_skip ?_
              refine n_code ?_
              refine t_seq ?_
              refine t_region ?_
              obtain ⟨e, n, he, hn, hsl⟩ := slots_pow (by omega) (by omega) (Classical.not_not.1 p5)
              subst hsl
              have hroom := room_small (n := n) hle (by omega)
              apply l_callf rfl rfl rfl (Arena.New_ok 2097152 (by omega))
              · exact pk
              rintro v L' ⟨pa, rfl, rfl⟩
              refine l_nm ?_
              refine l_q rfl (q_move rfl) ?_
              refine l_q rfl (q_extractL rfl ga) ?_
              refine l_q rfl (q_extractL rfl ga) ?_
              refine l_q rfl (q_assign rfl) ?_
              refine l_q rfl (q_assign rfl) ?_
              refine l_nil ?_
              refine n_code ?_
              refine t_seq ?_
              refine t_seq ?_
              refine t_region ?_
              refine l_q rfl (q_move rfl) ?_
              apply l_callf rfl rfl rfl (num08_ok _)
              · exact pk
              rintro v L' ⟨rfl, rfl⟩
              refine l_nm ?_
              apply l_q rfl
              · apply q_bin rfl rfl (fun w => g_int w); exact fun w => b_neq w
              refine l_q rfl (q_move rfl) ?_
              first | refine l_part_d (t := 51) rfl (fun q1 => ?_) (fun q1 => ?_) | refine l_part_n (t := 51) rfl (fun q1 => ?_) (fun q1 => ?_) | refine l_part (t := 51) rfl (fun q1 => ?_) (fun q1 => ?_)
              · exact absurd rfl q1
              · refine l_on rfl rfl ?_
                refine l_q rfl (q_move rfl) ?_
                refine l_on rfl rfl ?_
                apply l_q rfl
                · apply q_bin rfl rfl (fun w => g_pointer w); exact fun w => b_eqlP0 w Tryd.underlying30
                first | refine l_q rfl (q_pick_t rfl rfl) ?_ | refine l_q rfl (q_pick_f rfl rfl) ?_
                refine l_nil ?_
                refine n_code ?_
                first | refine t_cond_d rfl (fun q2 => ?_) (fun q2 => ?_) | refine t_cond_n rfl (fun q2 => ?_) (fun q2 => ?_) | refine t_cond rfl (fun q2 => ?_) (fun q2 => ?_)
                · cases q2
                · refine t_skip ?_
                  refine n_code ?_
                  refine t_seq ?_
                  refine t_region ?_
                  refine l_q rfl (q_move rfl) ?_
                  refine l_q rfl (q_loadAggL rfl ty_agg27 ty_size27 tk sb) ?_
                  first | refine l_q rfl (q_fieldAddr0 1 rfl Tryd.underlying64 rfl rfl ty_size3) ?_ | refine l_q rfl (q_fieldAddrK 1 rfl Tryd.underlying64 rfl rfl ty_size3) ?_
                  refine l_q rfl (q_loadL rfl ty_agg3 tk ga) ?_
                  apply l_callf rfl rfl rfl (Table.New_ok pa n e (ArS.new 2097152) (lay5 xs) (8 * (n : Int)) 0 hle he hn rfl (by omega))
                  · exact pk
                  rintro v L' (⟨hb, rfl, rfl⟩ | ⟨_, _, s, rfl, rfl, hP, _⟩)
                  refine l_nm ?_
                  · exfalso
                    have e1 : (ArS.new 2097152).live = 0 := rfl
                    have e2 : (ArS.new 2097152).limit = 2097152 := rfl
                    omega
                  · skip
                    refine l_nm ?_
                    refine l_q rfl (q_move rfl) ?_
                    refine l_q rfl (q_extractL rfl ga) ?_
                    refine l_q rfl (q_extractL rfl ga) ?_
                    refine o_allocA rfl ty_zero36 (fun b9 => ?_)
                    apply o_storeAggL rfl rfl rfl ty_size36 rfl rfl (by simp)
                    · exact tk
                    · exact sal
                    refine l_q rfl (q_assign rfl) ?_
                    refine l_nil ?_
                    refine n_code ?_
                    refine t_seq ?_
                    refine t_seq ?_
                    refine t_region ?_
                    refine l_q rfl (q_move rfl) ?_
                    apply l_callf rfl rfl rfl (num08_ok _)
                    · exact pk
                    rintro v L' ⟨rfl, rfl⟩
                    refine l_nm ?_
                    apply l_q rfl
                    · apply q_bin rfl rfl (fun w => g_int w); exact fun w => b_neq w
                    refine l_nil ?_
                    refine n_code ?_
                    first | refine t_cond_d rfl (fun q3 => ?_) (fun q3 => ?_) | refine t_cond_n rfl (fun q3 => ?_) (fun q3 => ?_) | refine t_cond rfl (fun q3 => ?_) (fun q3 => ?_)
                    · exact absurd rfl q3
                    · refine t_skip ?_
                      refine n_code ?_
                      refine t_seq ?_
                      refine t_region ?_
                      refine l_q rfl (q_move rfl) ?_
                      refine l_q rfl (q_loadAggL rfl ty_agg27 ty_size27 tk sb) ?_
                      refine l_q rfl (q_loadAggL rfl ty_agg36 ty_size36 tk sb) ?_
                      refine l_q rfl (q_loadAggL rfl ty_agg64 ty_size64 tk sb) ?_
                      apply l_q rfl
                      · apply q_buildS rfl ty_pl69 ty_zero69
                        · apply FillR.one
                          · repeat (first | exact PlAt.here | apply PlAt.there)
                          · rfl
                          · exact sa
                          apply FillR.all
                          · repeat (first | exact PlAt.here | apply PlAt.there)
                          · rfl
                          · simp
                          · exact sal
                          apply FillR.all
                          · repeat (first | exact PlAt.here | apply PlAt.there)
                          · rfl
                          · simp
                          · exact sal
                          apply FillR.all
                          · repeat (first | exact PlAt.here | apply PlAt.there)
                          · rfl
                          · simp
                          · exact sal
                          exact FillR.nil
                      refine o_boxA rfl rfl (fun b71 => ?_)
                      refine l_q rfl (q_assign rfl) ?_
                      refine l_q rfl (q_assign rfl) ?_
                      refine l_q rfl (q_assign rfl) ?_
                      refine l_nil ?_
                      refine n_code ?_
                      refine t_ret ?_
                      obtain ⟨off, hoff⟩ : ∃ off, (ArS.new 2097152).stop = off := ⟨_, rfl⟩
                      rw [hoff] at hP ⊢
                      apply f_ret (.inl rfl) ([pt b71 (.cells #[.pointer (some ⟨pa, 0, none⟩), .int .i64 (lay5 xs).key, .int .i64 (lay5 xs).elem, .int .i64 (lay5 xs).ka, .int .i64 (lay5 xs).ea, .int .i64 (lay5 xs).cap, .int .i64 (lay5 xs).eo, .int .i64 (lay5 xs).bo, .int .i64 (lay5 xs).slot, .int .i64 (lay5 xs).group, .pointer (some ⟨pa, 0, none⟩), .int .i64 (lay5 xs).key, .int .i64 (lay5 xs).elem, .int .i64 (lay5 xs).ka, .int .i64 (lay5 xs).ea, .int .i64 (lay5 xs).cap, .int .i64 (lay5 xs).eo, .int .i64 (lay5 xs).bo, .int .i64 (lay5 xs).slot, .int .i64 (lay5 xs).group, .int .i64 ((off : Nat) : Int), vf, .int .i64 (8 * (n : Int)), (.slice a1 hs.length cap1), vt, (.slice none 0 0), .int .i64 0] 69 (0, 0)), G, arenaH pa s])
                      · apply res3 rfl
                        · exact .tmp rfl
                        · exact .tmp rfl
                        · exact .tmp rfl
                      · exact .inr ⟨pa, b71, off, _, n, e, s, hle, by omega, rfl, by omega, rfl, rfl, hP⟩
                      · exact en
  · skip
    refine l_nm ?_
    refine l_q rfl (q_move rfl) ?_
    refine l_q rfl (q_extractL rfl ga) ?_
    refine l_q rfl (q_extractL rfl ga) ?_
    refine o_allocA rfl ty_zero27 (fun b5 => ?_)
    apply o_storeAggL rfl rfl rfl ty_size27 rfl rfl (by simp)
    · exact tk
    · exact sal
    refine l_q rfl (q_assign rfl) ?_
    refine l_nil ?_
    refine n_code ?_
    refine t_seq ?_
    refine t_seq ?_
    refine t_region ?_
    refine l_q rfl (q_move rfl) ?_
    apply l_q rfl
    · apply q_bin rfl rfl (fun w => g_int w); exact fun w => b_neq w
    refine l_q rfl (q_move rfl) ?_
    first | refine l_part_d (t := 19) rfl (fun p1 => ?_) (fun p1 => ?_) | refine l_part_n (t := 19) rfl (fun p1 => ?_) (fun p1 => ?_) | refine l_part (t := 19) rfl (fun p1 => ?_) (fun p1 => ?_)
    · refine l_off rfl rfl rfl rfl ?_
      refine l_off rfl rfl rfl rfl ?_
      refine l_off rfl rfl rfl rfl ?_
      refine l_off rfl rfl rfl rfl ?_
      first | refine l_q rfl (q_pick_t rfl rfl) ?_ | refine l_q rfl (q_pick_f rfl rfl) ?_
      refine l_q rfl (q_move rfl) ?_
      refine l_off rfl rfl rfl rfl ?_
      refine l_off rfl rfl rfl rfl ?_
      refine l_off rfl rfl rfl rfl ?_
      first | refine l_q rfl (q_pick_t rfl rfl) ?_ | refine l_q rfl (q_pick_f rfl rfl) ?_
      refine l_q rfl (q_move rfl) ?_
      refine l_off rfl rfl rfl rfl ?_
      refine l_off rfl rfl rfl rfl ?_
      refine l_off rfl rfl rfl rfl ?_
      first | refine l_q rfl (q_pick_t rfl rfl) ?_ | refine l_q rfl (q_pick_f rfl rfl) ?_
      refine l_q rfl (q_move rfl) ?_
      refine l_off rfl rfl rfl rfl ?_
      refine l_off rfl rfl rfl rfl ?_
      refine l_off rfl rfl rfl rfl ?_
      refine l_off rfl rfl rfl rfl ?_
      refine l_off rfl rfl rfl rfl ?_
      refine l_off rfl rfl rfl rfl ?_
      refine l_off rfl rfl rfl rfl ?_
      first | refine l_q rfl (q_pick_t rfl rfl) ?_ | refine l_q rfl (q_pick_f rfl rfl) ?_
      refine l_nil ?_
      refine n_code ?_
      refine t_cond_t rfl ?_
      refine t_seq ?_
      refine t_region ?_
      refine l_q rfl (q_assign rfl) ?_
      refine l_q rfl (q_assign rfl) ?_
      refine l_q rfl (q_assign rfl) ?_
      refine l_nil ?_
      refine n_code ?_
      refine t_ret ?_
      refine r_code ?_
      apply f_ret (.inl rfl) ([G])
      · apply res3 rfl
        · exact .tmp rfl
        · exact .tmp rfl
        · exact .tmp rfl
      · exact .inl ⟨rfl, rfl⟩
      · exact en
    · exact absurd hpe p1
/-- A turn's cells. -/
def turnC (t : Int × Int × Int) : List Value := [.int .i64 t.1, .int .i64 t.2.1, .int .i64 t.2.2]
/-- A slice of turns that can be read in the piece A. -/
def TurnsAt (A : HP) (v : Value) (ts : List (Int × Int × Int)) : Prop := ∃ a cap, v = .slice a ts.length cap ∧ (0 < ts.length → ∃ b o, a = some ⟨b, o, none⟩ ∧ ∀ (i : Nat) t, ts[i]? = some t → ∀ (j : Nat) x, (turnC t)[j]? = some x → CellAt A ⟨b, o + i * 3 + j, none⟩ x)
theorem cell_turn {A : HP} {ts : List (Int × Int × Int)} {b o i : Nat} {t : Int × Int × Int} (h : ∀ (i : Nat) t, ts[i]? = some t → ∀ (j : Nat) x, (turnC t)[j]? = some x → CellAt A ⟨b, o + i * 3 + j, none⟩ x) (ht : ts[i]? = some t) :
    ∀ j x, [Value.int .i64 t.1, .int .i64 t.2.1, .int .i64 t.2.2][j]? = some x → CellAt A ((⟨b, o + (i : Int).toNat * 3, none⟩ : Addr).add j) x := fun j x hx => by
  rw [add_none, Int.toNat_natCast]
  exact h i t ht j x hx
def turnWf (t : Int × Int × Int) : Prop := -9223372036854775808 ≤ t.2.1 ∧ t.2.1 ≤ 9223372036854775807
theorem bi_start {n : Nat} (hn : 0 < n) (hs : List Int) (w : Nat) : BI n (planH hs w) (planK w) (newT n 0) [] 0 := bi_new hn _ _ rfl rfl rfl
end Go.Proofs.YthdmlgnhmbobaaaDoor.Bench
