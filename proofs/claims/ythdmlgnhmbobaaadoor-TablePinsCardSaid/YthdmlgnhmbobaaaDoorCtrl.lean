/- The contracts of packages ctrl and oracle (what a table reaches of them). -/
import Derived.Test.YthdmlgnhmbobaaaDoorTypes
import Derived.Test.YthdmlgnhmbobaaaDoorCtrlB
import Derived.Test.YthdmlgnhmbobaaaDoorEngRead
import Derived.Test.YthdmlgnhmbobaaaDoorEngRange
set_option linter.unusedVariables false
set_option linter.unusedSimpArgs false
set_option maxRecDepth 100000
namespace Go.Proofs.YthdmlgnhmbobaaaDoor.Ctrl
open Go.RowKit Go.Proofs Go.Proofs.YthdmlgnhmbobaaaDoor.Eng Go.Proofs.YthdmlgnhmbobaaaDoor.Ty Go.Proofs.YthdmlgnhmbobaaaDoor.Bits Go.Proofs.YthdmlgnhmbobaaaDoor.CtrlB

/-- The piece holds math/bits' table. -/
def TabOk (G : HP) : Prop := ∀ i b, dbt[i]? = some b → CellAt G ⟨0, i, none⟩ (.int .u8 (b : Nat))
/-- A set of slots. -/
abbrev bitsV (s : Nat → Bool) : Value := .agg #[.int .u64 (selW s)]
/-- A control word. -/
abbrev wI (f : Byt) : Int := ((wd f : Nat) : Int)

theorem Empty_ok : FnOk Tryd.prog 69 #[] [] (fun v L => v = .int .u64 (wI fun _ => 128) ∧ L = []) := by
  refine fn_intro en69 Tryd.func69 rfl rfl rfl ?_
  intro Fr w0
  refine t_nm ?_
  refine t_seq ?_
  refine t_region ?_
  refine l_q rfl (q_assign rfl) ?_
  refine l_nil ?_
  refine n_code ?_
  refine t_seq ?_
  refine t_region ?_
  refine l_q rfl (q_assign rfl) ?_
  refine l_nil ?_
  refine n_code ?_
  refine t_ret ?_
  apply f_ret (.inl rfl) ([])
  · apply res1 rfl
    · exact .tmp rfl
  · exact ⟨by rw [show wI (fun _ => 128) = 9259542123273814144 from rfl], rfl⟩
  · exact en
theorem zeros_ok (w : Int) (s : Nat → Bool) (h : zerosI w = selW s) : FnOk Tryd.prog 105 #[.int .u64 w] [] (fun v L => v = bitsV s ∧ L = []) := by
  refine fn_intro en105 Tryd.func105 rfl rfl rfl ?_
  intro Fr w0
  refine t_nm ?_
  refine t_seq ?_
  refine t_region ?_
  refine o_allocA rfl ty_zero162 (fun b2 => ?_)
  refine l_nil ?_
  refine n_code ?_
  refine t_seq ?_
  refine t_region ?_
  refine l_q rfl (q_move rfl) ?_
  apply l_q rfl
  · apply q_bin rfl rfl (fun w => g_int w); exact fun w => b_bits w rfl
  apply l_q rfl
  · apply q_bin rfl rfl (fun w => g_int w); first | exact fun w => b_add_u w (by omega) | exact fun w => b_add w
  refine l_q rfl (q_move rfl) ?_
  apply l_q rfl
  · apply q_bin rfl rfl (fun w => g_int w); exact fun w => b_bits w rfl
  refine l_q rfl (q_un rfl (fun w => u_xor w)) ?_
  apply l_q rfl
  · apply q_bin rfl rfl (fun w => g_int w); exact fun w => b_bits w rfl
  apply l_q rfl
  · apply q_buildS rfl ty_pl162 ty_zero162
    · apply FillR.one
      · repeat (first | exact PlAt.here | apply PlAt.there)
      · rfl
      · exact sa
      exact FillR.nil
  apply o_storeAggL rfl rfl rfl ty_size162 rfl rfl (by simp)
  · exact tk
  · exact sal
  refine l_nil ?_
  refine n_code ?_
  refine t_ret ?_
  apply f_ret (.inl rfl) ([])
  · apply res1 rfl
    · apply Rv.agg rfl
      · exact tk
      · exact run_loadAll ty_agg162 ty_size162 rfl
  · exact ⟨by show Value.agg #[Value.int .u64 (zerosI w)] = _; rw [h], rfl⟩
  · exact en
theorem Match_ok (f : Byt) (hf : okB f) (tag : Nat) (ht : tag < 128) : FnOk Tryd.prog 73 #[.int .u64 (wI f), .int .i64 tag] [] (fun v L => v = bitsV (fun i => f i == tag) ∧ L = []) := by
  refine fn_intro en73 Tryd.func73 rfl rfl rfl ?_
  intro Fr w0
  refine t_nm ?_
  refine t_seq ?_
  refine t_region ?_
  refine o_allocA rfl ty_zero162 (fun b4 => ?_)
  refine l_nil ?_
  refine n_code ?_
  refine t_seq ?_
  refine t_seq ?_
  refine t_region ?_
  refine l_q rfl (q_move rfl) ?_
  apply l_q rfl
  · apply q_bin rfl rfl (fun w => g_int w); exact fun w => b_lss w
  refine l_q rfl (q_move rfl) ?_
  first | refine l_part_d (t := 7) rfl (fun h => ?_) (fun h => ?_) | refine l_part_n (t := 7) rfl (fun h => ?_) (fun h => ?_) | refine l_part (t := 7) rfl (fun h => ?_) (fun h => ?_)
  · omega
  · refine l_on rfl rfl ?_
    refine l_q rfl (q_move rfl) ?_
    refine l_on rfl rfl ?_
    apply l_q rfl
    · apply q_bin rfl rfl (fun w => g_int w); exact fun w => b_gtr w
    first | refine l_q rfl (q_pick_t rfl rfl) ?_ | refine l_q rfl (q_pick_f rfl rfl) ?_
    refine l_nil ?_
    refine n_code ?_
    first | refine t_cond_d rfl (fun h2 => ?_) (fun h2 => ?_) | refine t_cond_n rfl (fun h2 => ?_) (fun h2 => ?_) | refine t_cond rfl (fun h2 => ?_) (fun h2 => ?_)
    · omega
    · refine t_skip ?_
      refine n_code ?_
      refine t_seq ?_
      refine t_region ?_
      refine l_q rfl (q_move rfl) ?_
      refine l_q rfl (q_move rfl) ?_
      apply l_q rfl
      · apply q_conv rfl; first | exact fun w => c_int_u w Tryd.underlying3 Tryd.underlying23 (by omega) | exact fun w => c_int w Tryd.underlying3 Tryd.underlying23
      apply l_q rfl
      · apply q_bin rfl rfl (fun w => g_int w); first | exact fun w => b_mul_u w (by omega) | exact fun w => b_mul w
      apply l_q rfl
      · apply q_bin rfl rfl (fun w => g_int w); exact fun w => b_bits w rfl
      rw [lows_mul0 (by omega)]
      apply l_callf rfl rfl rfl (zeros_ok _ _ (xor_sel hf (by omega)))
      · exact pk
      rintro v L' ⟨rfl, rfl⟩
      refine l_nm ?_
      apply o_storeAggL rfl rfl rfl ty_size162 rfl rfl (by simp)
      · exact tk
      · exact sal
      refine l_nil ?_
      refine n_code ?_
      refine t_ret ?_
      apply f_ret (.inl rfl) ([])
      · apply res1 rfl
        · apply Rv.agg rfl
          · exact tk
          · exact run_loadAll ty_agg162 ty_size162 rfl
      · exact ⟨rfl, rfl⟩
      · exact en
theorem MatchEmpty_ok (f : Byt) (hf : okB f) : FnOk Tryd.prog 78 #[.int .u64 (wI f)] [] (fun v L => v = bitsV (fun i => f i == 128) ∧ L = []) := by
  refine fn_intro en78 Tryd.func78 rfl rfl rfl ?_
  intro Fr w0
  refine t_nm ?_
  refine t_seq ?_
  refine t_region ?_
  refine o_allocA rfl ty_zero162 (fun b2 => ?_)
  refine l_nil ?_
  refine n_code ?_
  refine t_seq ?_
  refine t_region ?_
  refine l_q rfl (q_move rfl) ?_
  apply l_q rfl
  · apply q_bin rfl rfl (fun w => g_int w); exact fun w => b_bits w rfl
  apply l_callf rfl rfl rfl (zeros_ok _ _ (xor_sel hf (c := 128) (by decide)))
  · exact pk
  rintro v L' ⟨rfl, rfl⟩
  refine l_nm ?_
  apply o_storeAggL rfl rfl rfl ty_size162 rfl rfl (by simp)
  · exact tk
  · exact sal
  refine l_nil ?_
  refine n_code ?_
  refine t_ret ?_
  apply f_ret (.inl rfl) ([])
  · apply res1 rfl
    · apply Rv.agg rfl
      · exact tk
      · exact run_loadAll ty_agg162 ty_size162 rfl
  · exact ⟨rfl, rfl⟩
  · exact en
theorem MatchVacant_ok (f : Byt) (hf : okB f) : FnOk Tryd.prog 76 #[.int .u64 (wI f)] [] (fun v L => v = bitsV (fun i => f i == 128 || f i == 254) ∧ L = []) := by
  refine fn_intro en76 Tryd.func76 rfl rfl rfl ?_
  intro Fr w0
  refine t_nm ?_
  refine t_seq ?_
  refine t_region ?_
  refine o_allocA rfl ty_zero162 (fun b2 => ?_)
  refine l_nil ?_
  refine n_code ?_
  refine t_seq ?_
  refine t_region ?_
  refine l_q rfl (q_move rfl) ?_
  apply l_callf rfl rfl rfl (MatchEmpty_ok f hf)
  · exact pk
  rintro v L' ⟨rfl, rfl⟩
  refine l_nm ?_
  refine l_q rfl (q_field1L 0 rfl Tryd.underlying162 rfl ty_agg23 rfl ga) ?_
  refine l_q rfl (q_move rfl) ?_
  apply l_q rfl
  · apply q_bin rfl rfl (fun w => g_int w); exact fun w => b_bits w rfl
  apply l_callf rfl rfl rfl (zeros_ok _ _ (xor_sel hf (c := 254) (by decide)))
  · exact pk
  rintro v L' ⟨rfl, rfl⟩
  refine l_nm ?_
  refine l_q rfl (q_field1L 0 rfl Tryd.underlying162 rfl ty_agg23 rfl ga) ?_
  apply l_q rfl
  · apply q_bin rfl rfl (fun w => g_int w); exact fun w => b_bits w rfl
  apply l_q rfl
  · apply q_buildS rfl ty_pl162 ty_zero162
    · apply FillR.one
      · repeat (first | exact PlAt.here | apply PlAt.there)
      · rfl
      · exact sa
      exact FillR.nil
  apply o_storeAggL rfl rfl rfl ty_size162 rfl rfl (by simp)
  · exact tk
  · exact sal
  refine l_nil ?_
  refine n_code ?_
  refine t_ret ?_
  rw [or_sel]
  apply f_ret (.inl rfl) ([])
  · apply res1 rfl
    · apply Rv.agg rfl
      · exact tk
      · exact run_loadAll ty_agg162 ty_size162 rfl
  · exact ⟨rfl, rfl⟩
  · exact en
theorem MatchFull_ok (f : Byt) (hf : okB f) : FnOk Tryd.prog 83 #[.int .u64 (wI f)] [] (fun v L => v = bitsV (fun i => decide (f i < 128)) ∧ L = []) := by
  refine fn_intro en83 Tryd.func83 rfl rfl rfl ?_
  intro Fr w0
  refine t_nm ?_
  refine t_seq ?_
  refine t_region ?_
  refine o_allocA rfl ty_zero162 (fun b2 => ?_)
  refine l_nil ?_
  refine n_code ?_
  refine t_seq ?_
  refine t_region ?_
  refine l_q rfl (q_move rfl) ?_
  refine l_q rfl (q_un rfl (fun w => u_xor w)) ?_
  apply l_q rfl
  · apply q_bin rfl rfl (fun w => g_int w); exact fun w => b_bits w rfl
  apply l_q rfl
  · apply q_buildS rfl ty_pl162 ty_zero162
    · apply FillR.one
      · repeat (first | exact PlAt.here | apply PlAt.there)
      · rfl
      · exact sa
      exact FillR.nil
  apply o_storeAggL rfl rfl rfl ty_size162 rfl rfl (by simp)
  · exact tk
  · exact sal
  refine l_nil ?_
  refine n_code ?_
  refine t_ret ?_
  rw [full_sel hf]
  apply f_ret (.inl rfl) ([])
  · apply res1 rfl
    · apply Rv.agg rfl
      · exact tk
      · exact run_loadAll ty_agg162 ty_size162 rfl
  · exact ⟨rfl, rfl⟩
  · exact en
theorem min64 {i : Nat} (hi : i < 8) : (2 : Int) ^ min (8 * (i : Int)).toNat IntKind.u64.bits = ((2 ^ (8 * i) : Nat) : Int) := by
  rw [show min (8 * (i : Int)).toNat IntKind.u64.bits = 8 * i by show min _ 64 = _; omega, Int.natCast_pow]; rfl
theorem Get_ok (f : Byt) (hf : okB f) (i : Nat) (hi : i < 8) : FnOk Tryd.prog 108 #[.int .u64 (wI f), .int .i64 i] [] (fun v L => v = .int .i64 (f i : Nat) ∧ L = []) := by
  have hfi := hf i hi
  refine fn_intro en108 Tryd.func108 rfl rfl rfl ?_
  intro Fr w0
  refine t_nm ?_
  refine t_seq ?_
  refine t_region ?_
  refine l_q rfl (q_assign rfl) ?_
  refine l_nil ?_
  refine n_code ?_
  refine t_seq ?_
  refine t_seq ?_
  refine t_region ?_
  refine l_q rfl (q_move rfl) ?_
  apply l_q rfl
  · apply q_bin rfl rfl (fun w => g_int w); exact fun w => b_lss w
  refine l_q rfl (q_move rfl) ?_
  first | refine l_part_d (t := 7) rfl (fun h => ?_) (fun h => ?_) | refine l_part_n (t := 7) rfl (fun h => ?_) (fun h => ?_) | refine l_part (t := 7) rfl (fun h => ?_) (fun h => ?_)
  · omega
  · refine l_on rfl rfl ?_
    refine l_q rfl (q_move rfl) ?_
    refine l_on rfl rfl ?_
    apply l_q rfl
    · apply q_bin rfl rfl (fun w => g_int w); exact fun w => b_gtr w
    first | refine l_q rfl (q_pick_t rfl rfl) ?_ | refine l_q rfl (q_pick_f rfl rfl) ?_
    refine l_nil ?_
    refine n_code ?_
    first | refine t_cond_d rfl (fun h2 => ?_) (fun h2 => ?_) | refine t_cond_n rfl (fun h2 => ?_) (fun h2 => ?_) | refine t_cond rfl (fun h2 => ?_) (fun h2 => ?_)
    · omega
    · refine t_skip ?_
      refine n_code ?_
      refine t_seq ?_
      refine t_region ?_
      refine l_q rfl (q_move rfl) ?_
      refine l_q rfl (q_move rfl) ?_
      apply l_q rfl
      · apply q_bin rfl rfl (fun w => g_int w); first | exact fun w => b_mul_i w (by omega) | exact fun w => b_mul w
      apply l_q rfl
      · apply q_bin rfl rfl (fun w => g_int w); exact fun w => b_shr w (by omega)
      apply l_q rfl
      · apply q_bin rfl rfl (fun w => g_int w); exact fun w => b_bits w rfl
      apply l_q rfl
      · apply q_conv rfl; first | exact fun w => c_int_i w Tryd.underlying23 Tryd.underlying3 (by omega) | exact fun w => c_int w Tryd.underlying23 Tryd.underlying3
      refine l_q rfl (q_assign rfl) ?_
      refine l_nil ?_
      refine n_code ?_
      refine t_ret ?_
      apply f_ret (.inl rfl) ([])
      · apply res1 rfl
        · exact .tmp rfl
      · refine ⟨?_, rfl⟩; rw [min64 hi, Int.fdiv_eq_ediv_of_nonneg _ (Int.natCast_nonneg _), get_wd hf hi, wrap_i64 (by omega)]
      · exact en
theorem Set_ok (f : Byt) (hf : okB f) (i c : Nat) (hi : i < 8) (hc : c < 256) : FnOk Tryd.prog 113 #[.int .u64 (wI f), .int .i64 i, .int .i64 c] [] (fun v L => v = .int .u64 (wI (setF f i c)) ∧ L = []) := by
  refine fn_intro en113 Tryd.func113 rfl rfl rfl ?_
  intro Fr w0
  refine t_nm ?_
  refine t_seq ?_
  refine t_region ?_
  refine l_q rfl (q_assign rfl) ?_
  refine l_nil ?_
  refine n_code ?_
  refine t_seq ?_
  refine t_seq ?_
  refine t_region ?_
  refine l_q rfl (q_move rfl) ?_
  apply l_q rfl
  · apply q_bin rfl rfl (fun w => g_int w); exact fun w => b_lss w
  refine l_q rfl (q_move rfl) ?_
  first | refine l_part_d (t := 9) rfl (fun h => ?_) (fun h => ?_) | refine l_part_n (t := 9) rfl (fun h => ?_) (fun h => ?_) | refine l_part (t := 9) rfl (fun h => ?_) (fun h => ?_)
  · omega
  · refine l_on rfl rfl ?_
    refine l_q rfl (q_move rfl) ?_
    refine l_on rfl rfl ?_
    apply l_q rfl
    · apply q_bin rfl rfl (fun w => g_int w); exact fun w => b_gtr w
    first | refine l_q rfl (q_pick_t rfl rfl) ?_ | refine l_q rfl (q_pick_f rfl rfl) ?_
    refine l_q rfl (q_move rfl) ?_
    first | refine l_part_d (t := 13) rfl (fun h2 => ?_) (fun h2 => ?_) | refine l_part_n (t := 13) rfl (fun h2 => ?_) (fun h2 => ?_) | refine l_part (t := 13) rfl (fun h2 => ?_) (fun h2 => ?_)
    · omega
    · refine l_on rfl rfl ?_
      refine l_q rfl (q_move rfl) ?_
      refine l_on rfl rfl ?_
      apply l_q rfl
      · apply q_bin rfl rfl (fun w => g_int w); exact fun w => b_lss w
      first | refine l_q rfl (q_pick_t rfl rfl) ?_ | refine l_q rfl (q_pick_f rfl rfl) ?_
      refine l_q rfl (q_move rfl) ?_
      first | refine l_part_d (t := 17) rfl (fun h3 => ?_) (fun h3 => ?_) | refine l_part_n (t := 17) rfl (fun h3 => ?_) (fun h3 => ?_) | refine l_part (t := 17) rfl (fun h3 => ?_) (fun h3 => ?_)
      · omega
      · refine l_on rfl rfl ?_
        refine l_q rfl (q_move rfl) ?_
        refine l_on rfl rfl ?_
        apply l_q rfl
        · apply q_bin rfl rfl (fun w => g_int w); exact fun w => b_gtr w
        first | refine l_q rfl (q_pick_t rfl rfl) ?_ | refine l_q rfl (q_pick_f rfl rfl) ?_
        refine l_nil ?_
        refine n_code ?_
        first | refine t_cond_d rfl (fun h4 => ?_) (fun h4 => ?_) | refine t_cond_n rfl (fun h4 => ?_) (fun h4 => ?_) | refine t_cond rfl (fun h4 => ?_) (fun h4 => ?_)
        · omega
        · refine t_skip ?_
          refine n_code ?_
          refine t_seq ?_
          refine t_draw mixed ?_
          refine d_q 0 gO rfl rfl rfl rfl (yq (q_move rfl)) ?_
          refine d_q 1 gO rfl rfl rfl rfl (yq (q_move rfl)) ?_
          apply d_q 2 gO rfl rfl rfl rfl
          · apply yq
            apply q_bin rfl rfl (fun w => g_int w); first | exact fun w => b_mul_i w (by omega) | exact fun w => b_mul w
          apply d_q 3 gO rfl rfl rfl rfl
          · apply yq
            apply q_bin rfl rfl (fun w => g_int w); exact fun w => b_shl w (by omega)
          apply d_q 4 gO rfl rfl rfl rfl
          · apply yq
            apply q_bin rfl rfl (fun w => g_int w); exact fun w => b_bits w rfl
          refine d_q 5 gO rfl rfl rfl rfl (yq (q_move rfl)) ?_
          apply d_q 6 gO rfl rfl rfl rfl
          · apply yq
            apply q_conv rfl; first | exact fun w => c_int_u w Tryd.underlying3 Tryd.underlying23 (by omega) | exact fun w => c_int w Tryd.underlying3 Tryd.underlying23
          refine d_q 7 gO rfl rfl rfl rfl (yq (q_move rfl)) ?_
          apply d_q 8 gO rfl rfl rfl rfl
          · apply yq
            apply q_bin rfl rfl (fun w => g_int w); first | exact fun w => b_mul_i w (by omega) | exact fun w => b_mul w
          apply d_q 9 gO rfl rfl rfl rfl
          · apply yq
            apply q_bin rfl rfl (fun w => g_int w); exact fun w => b_shl w (by omega)
          apply d_q 10 gO rfl rfl rfl rfl
          · apply yq
            apply q_bin rfl rfl (fun w => g_int w); exact fun w => b_bits w rfl
          apply d_eff1 [10, 0, 1, 2, 3, 4, 5, 6, 7, 8, 9] [] 11 [(32, _)]
          · exact gO
          · exact ⟨rfl, trivial⟩
          · kernel_rfl
          · kernel_rfl
          intro Ex
          refine l_q rfl (q_assign rfl) ?_
          refine l_nil ?_
          apply n_d
          · exact trivial
          refine d_end (by kernel_rfl) ?_
          refine n_code ?_
          refine t_ret ?_
          apply f_ret (.inl rfl) ([])
          · apply res1 rfl
            · exact .tmp rfl
          · refine ⟨?_, rfl⟩; rw [min64 hi, set_wd hf hi hc]
          · exact en
theorem Has_ok (s : Nat → Bool) (i : Nat) (hi : i < 8) : FnOk Tryd.prog 79 #[bitsV s, .int .i64 i] [] (fun v L => v = .bool (s i) ∧ L = []) := by
  refine fn_intro en79 Tryd.func79 rfl rfl rfl ?_
  intro Fr w0
  refine t_nm ?_
  refine t_seq ?_
  refine t_region ?_
  refine o_boxA rfl rfl (fun b2 => ?_)
  refine l_q rfl (q_assign rfl) ?_
  refine l_nil ?_
  refine n_code ?_
  refine t_seq ?_
  refine t_region ?_
  refine l_q rfl (q_move rfl) ?_
  apply l_q rfl
  · apply q_bin rfl rfl (fun w => g_int w); exact fun w => b_geq w
  refine l_q rfl (q_move rfl) ?_
  first | refine l_part_d (t := 7) rfl (fun h => ?_) (fun h => ?_) | refine l_part_n (t := 7) rfl (fun h => ?_) (fun h => ?_) | refine l_part (t := 7) rfl (fun h => ?_) (fun h => ?_)
  · refine l_on rfl rfl ?_
    refine l_q rfl (q_move rfl) ?_
    refine l_on rfl rfl ?_
    apply l_q rfl
    · apply q_bin rfl rfl (fun w => g_int w); exact fun w => b_leq w
    first | refine l_q rfl (q_pick_t rfl rfl) ?_ | refine l_q rfl (q_pick_f rfl rfl) ?_
    refine l_q rfl (q_move rfl) ?_
    first | refine l_part_d (t := 11) rfl (fun h2 => ?_) (fun h2 => ?_) | refine l_part_n (t := 11) rfl (fun h2 => ?_) (fun h2 => ?_) | refine l_part (t := 11) rfl (fun h2 => ?_) (fun h2 => ?_)
    · refine l_on rfl rfl ?_
      first | refine l_q rfl (q_fieldAddr0 0 rfl Tryd.underlying162 rfl rfl ty_size23) ?_ | refine l_q rfl (q_fieldAddrK 0 rfl Tryd.underlying162 rfl rfl ty_size23) ?_
      refine l_on rfl rfl ?_
      refine l_q rfl (q_loadL rfl ty_agg23 tk ga) ?_
      refine l_on rfl rfl ?_
      refine l_q rfl (q_move rfl) ?_
      refine l_on rfl rfl ?_
      apply l_q rfl
      · apply q_bin rfl rfl (fun w => g_int w); first | exact fun w => b_mul_i w (by omega) | exact fun w => b_mul w
      refine l_on rfl rfl ?_
      apply l_q rfl
      · apply q_bin rfl rfl (fun w => g_int w); exact fun w => b_shr w (by omega)
      refine l_on rfl rfl ?_
      apply l_q rfl
      · apply q_bin rfl rfl (fun w => g_int w); exact fun w => b_bits w rfl
      refine l_on rfl rfl ?_
      apply l_q rfl
      · apply q_bin rfl rfl (fun w => g_int w); exact fun w => b_neq w
      first | refine l_q rfl (q_pick_t rfl rfl) ?_ | refine l_q rfl (q_pick_f rfl rfl) ?_
      refine l_q rfl (q_assign rfl) ?_
      refine l_nil ?_
      refine n_code ?_
      refine t_ret ?_
      apply f_ret (.inl rfl) ([])
      · apply res1 rfl
        · exact .tmp rfl
      · refine ⟨?_, rfl⟩; rw [min64 hi, Int.fdiv_eq_ediv_of_nonneg _ (Int.natCast_nonneg _), has_sel s hi]; cases s i <;> rfl
      · exact en
    · omega
  · omega
theorem TrailingZeros_ok (G : HP) (hG : TabOk G) (s : Nat → Bool) : FnOk Tryd.prog 110 #[.int .u64 (selW s)] [G] (fun v L => v = .int .i64 (if firstF s < 8 then 8 * (firstF s : Nat) + 7 else 64) ∧ L = [G]) := by
  refine fn_intro en110 Tryd.func110 rfl rfl rfl ?_
  intro Fr w0
  refine t_nm ?_
  refine t_seq ?_
  refine t_region ?_
  refine l_q rfl (q_assign rfl) ?_
  refine l_nil ?_
  refine n_code ?_
  refine t_seq ?_
  refine t_seq ?_
  refine t_region ?_
  refine l_q rfl (q_move rfl) ?_
  apply l_q rfl
  · apply q_bin rfl rfl (fun w => g_int w); exact fun w => b_eql w
  refine l_nil ?_
  refine n_code ?_
  first | refine t_cond_d rfl (fun h => ?_) (fun h => ?_) | refine t_cond_n rfl (fun h => ?_) (fun h => ?_) | refine t_cond rfl (fun h => ?_) (fun h => ?_)
  · refine t_seq ?_
    refine t_region ?_
    refine l_q rfl (q_assign rfl) ?_
    refine l_nil ?_
    refine n_code ?_
    refine t_ret ?_
    refine r_code ?_
    have h0 : firstF s = 8 := by
      have : slotsF s = [] := (selN_zero s).1 (by rw [selN_W] at h; omega)
      unfold firstF; rw [this]; rfl
    apply f_ret (.inl rfl) ([G])
    · apply res1 rfl
      · exact .tmp rfl
    · exact ⟨by rw [if_neg (by omega)], rfl⟩
    · exact en
  · have hne : slotsF s ≠ [] := fun q => h (by rw [selN_W, (selN_zero s).2 q]; rfl)
    have htz := tz_prog (x := selN s) (fun q => hne ((selN_zero s).1 q)) (selN_lt s)
    rw [← selN_W] at htz
    have hf8 := (tz_sel s hne).2
    have hw : ∀ x, 0 ≤ IntKind.u64.wrap x ∧ IntKind.u64.wrap x < 18446744073709551616 := fun x => by rw [IntKind.wrap_u64]; omega
    have hw2 := hw (bits .and .u64 (selW s) (IntKind.u64.wrap (0 - selW s)) * 285870213051353865)
    refine t_skip ?_
    refine n_code ?_
    refine t_seq ?_
    refine t_region ?_
    refine l_q rfl (q_move rfl) ?_
    refine l_q rfl (q_move rfl) ?_
    refine l_q rfl (q_un rfl (fun w => u_neg w)) ?_
    apply l_q rfl
    · apply q_bin rfl rfl (fun w => g_int w); exact fun w => b_bits w rfl
    apply l_q rfl
    · apply q_bin rfl rfl (fun w => g_int w); first | exact fun w => b_mul_u w (by omega) | exact fun w => b_mul w
    apply l_q rfl
    · apply q_bin rfl rfl (fun w => g_int w); first | exact fun w => b_shr_c (m := 288230376151711744) w (by decide) (by decide) (by omega) | exact fun w => b_shr w (by decide)
    refine l_q rfl (q_indexAddrA rfl rfl Tryd.underlying204 ty_size5 (by omega)) ?_
    apply l_q rfl
    · apply q_loadR rfl ty_agg5
      · exact tk
      · refine hG (tzI (selN s)) (8 * firstF s + 7) (tz_sel s hne).1 |> fun h => ?_; rw [Nat.zero_add, Nat.mul_one, htz, Int.toNat_natCast]; exact h
    apply l_q rfl
    · apply q_conv rfl; first | exact fun w => c_int_i w Tryd.underlying5 Tryd.underlying3 (by omega) | exact fun w => c_int w Tryd.underlying5 Tryd.underlying3
    refine l_q rfl (q_assign rfl) ?_
    refine l_nil ?_
    refine n_code ?_
    refine t_ret ?_
    apply f_ret (.inl rfl) ([G])
    · apply res1 rfl
      · exact .tmp rfl
    · exact ⟨by rw [if_pos hf8]; congr 1, rfl⟩
    · exact en
theorem First_ok (G : HP) (hG : TabOk G) (s : Nat → Bool) : FnOk Tryd.prog 77 #[bitsV s] [G] (fun v L => v = .int .i64 (firstF s : Nat) ∧ L = [G]) := by
  have h8 : firstF s ≤ 8 := by
    unfold firstF
    cases h : slotsF s with
    | nil => simp
    | cons a r =>
      have := (slotsF_mem (s := s) (i := a)).1 (by rw [h]; simp)
      simp; omega
  refine fn_intro en77 Tryd.func77 rfl rfl rfl ?_
  intro Fr w0
  refine t_nm ?_
  refine t_seq ?_
  refine t_region ?_
  refine o_boxA rfl rfl (fun b1 => ?_)
  refine l_q rfl (q_assign rfl) ?_
  refine l_nil ?_
  refine n_code ?_
  refine t_seq ?_
  refine t_region ?_
  first | refine l_q rfl (q_fieldAddr0 0 rfl Tryd.underlying162 rfl rfl ty_size23) ?_ | refine l_q rfl (q_fieldAddrK 0 rfl Tryd.underlying162 rfl rfl ty_size23) ?_
  refine l_q rfl (q_loadL rfl ty_agg23 tk ga) ?_
  apply l_callf rfl rfl rfl (TrailingZeros_ok G hG s)
  · exact pk
  rintro v L' ⟨rfl, rfl⟩
  refine l_nm ?_
  apply l_q rfl
  · apply q_bin rfl rfl (fun w => g_int w); first | exact fun w => b_quo_i w (by omega) | exact fun w => b_quo w (by omega)
  refine l_q rfl (q_assign rfl) ?_
  refine l_nil ?_
  refine n_code ?_
  refine t_ret ?_
  apply f_ret (.inl rfl) ([G])
  · apply res1 rfl
    · exact .tmp rfl
  · exact ⟨by congr 1; split <;> omega, rfl⟩
  · exact en
theorem Rest_ok (s : Nat → Bool) (h : slotsF s ≠ []) : FnOk Tryd.prog 107 #[bitsV s] [] (fun v L => v = bitsV (restS s) ∧ L = []) := by
  refine fn_intro en107 Tryd.func107 rfl rfl rfl ?_
  intro Fr w0
  refine t_nm ?_
  refine t_seq ?_
  refine t_region ?_
  refine o_boxA rfl rfl (fun b1 => ?_)
  refine o_allocA rfl ty_zero162 (fun b2 => ?_)
  refine l_nil ?_
  refine n_code ?_
  refine t_seq ?_
  refine t_region ?_
  first | refine l_q rfl (q_fieldAddr0 0 rfl Tryd.underlying162 rfl rfl ty_size23) ?_ | refine l_q rfl (q_fieldAddrK 0 rfl Tryd.underlying162 rfl rfl ty_size23) ?_
  refine l_q rfl (q_loadL rfl ty_agg23 tk ga) ?_
  first | refine l_q rfl (q_fieldAddr0 0 rfl Tryd.underlying162 rfl rfl ty_size23) ?_ | refine l_q rfl (q_fieldAddrK 0 rfl Tryd.underlying162 rfl rfl ty_size23) ?_
  refine l_q rfl (q_loadL rfl ty_agg23 tk ga) ?_
  apply l_q rfl
  · apply q_bin rfl rfl (fun w => g_int w); first | exact fun w => b_sub_u w (by omega) | exact fun w => b_sub w
  apply l_q rfl
  · apply q_bin rfl rfl (fun w => g_int w); exact fun w => b_bits w rfl
  apply l_q rfl
  · apply q_buildS rfl ty_pl162 ty_zero162
    · apply FillR.one
      · repeat (first | exact PlAt.here | apply PlAt.there)
      · rfl
      · exact sa
      exact FillR.nil
  apply o_storeAggL rfl rfl rfl ty_size162 rfl rfl (by simp)
  · exact tk
  · exact sal
  refine l_nil ?_
  refine n_code ?_
  refine t_ret ?_
  apply f_ret (.inl rfl) ([])
  · apply res1 rfl
    · apply Rv.agg rfl
      · exact tk
      · exact run_loadAll ty_agg162 ty_size162 rfl
  · refine ⟨?_, rfl⟩; rw [(rest_sel s h).1]
  · exact en
theorem All_ok (s : Nat → Bool) : FnOk Tryd.prog 74 #[bitsV s] [] (fun v L => ∃ b, v = .func (.func 106) #[] #[.pointer (some ⟨b, 0, none⟩)] ∧ L = [pt b (.cells #[.int .u64 (selW s)] 162 (0, 0))]) := by
  refine fn_intro en74 Tryd.func74 rfl rfl rfl ?_
  intro Fr w0
  refine t_nm ?_
  refine t_seq ?_
  refine t_region ?_
  refine o_boxA rfl rfl (fun b1 => ?_)
  refine l_q rfl (q_assign rfl) ?_
  refine l_nil ?_
  refine n_code ?_
  refine t_seq ?_
  refine t_region ?_
  refine l_q rfl (q_makeFunc rfl rfl) ?_
  refine l_q rfl (q_assign rfl) ?_
  refine l_nil ?_
  refine n_code ?_
  refine t_ret ?_
  apply f_ret (.inl rfl) ([pt b1 (.cells #[.int .u64 (selW s)] 162 (0, 0))])
  · apply res1 rfl
    · exact .tmp rfl
  · exact ⟨_, rfl, rfl⟩
  · exact en
/-- The slots of the set, a round each. -/
def slotsV (s : Nat → Bool) : List (List Value) := (slotsF s).map fun i => [.int .i64 (i : Nat)]
theorem All_it (G : HP) (hG : TabOk G) (b : Nat) (s : Nat → Bool) : IterOk Tryd.prog 106 #[.pointer (some ⟨b, 0, none⟩)] [pt b (.cells #[.int .u64 (selW s)] 162 (0, 0)), G] (slotsV s) [G] [G] := by
  refine ⟨en106, fun l B S hY => ?_⟩
  show FnOk _ _ #[.func (.yield l) #[] #[], .pointer (some ⟨b, 0, none⟩)] _ _
  refine fn_intro en106 Tryd.func106 rfl rfl rfl ?_
  intro Fr w0
  refine t_nm ?_
  refine t_seq ?_
  refine t_region ?_
  refine l_q rfl (q_loadAggL rfl ty_agg162 ty_size162 tk sb) ?_
  refine o_allocA rfl ty_zero162 (fun b3 => ?_)
  apply o_storeAggL rfl rfl rfl ty_size162 rfl rfl (by simp)
  · exact tk
  · exact sal
  refine l_nil ?_
  refine n_code ?_
  refine t_block ?_
  refine t_loop (fun x : Nat × Nat × (Nat → Bool) => x.1 ≤ (slotsF s).length ∧ slotsF x.2.2 = (slotsF s).drop x.1) (fun x => [(0, .func (.yield l) #[] #[]), (3, .pointer (some ⟨x.2.1, 0, none⟩))]) (fun x => pt x.2.1 (.cells #[.int .u64 (selW x.2.2)] 162 (0, 0)) :: G :: B x.1 :: Fr) (fun x => (slotsF s).length - x.1) (0, b3, s) ⟨by omega, by simp⟩ ⟨rfl, rfl, trivial⟩ (by (exact en)) ?_
  rintro ⟨k, b', t⟩ ⟨hk, ht⟩
  dsimp only at hk ht ⊢
  refine t_seq ?_
  refine t_seq ?_
  refine t_region ?_
  first | refine l_q rfl (q_fieldAddr0 0 rfl Tryd.underlying162 rfl rfl ty_size23) ?_ | refine l_q rfl (q_fieldAddrK 0 rfl Tryd.underlying162 rfl rfl ty_size23) ?_
  refine l_q rfl (q_loadL rfl ty_agg23 tk ga) ?_
  apply l_q rfl
  · apply q_bin rfl rfl (fun w => g_int w); exact fun w => b_neq w
  refine l_nil ?_
  refine n_code ?_
  first | refine t_cond_d rfl (fun h => ?_) (fun h => ?_) | refine t_cond_n rfl (fun h => ?_) (fun h => ?_) | refine t_cond rfl (fun h => ?_) (fun h => ?_)
  · have hne : slotsF t ≠ [] := fun q => h (by rw [selN_W, (selN_zero t).2 q]; rfl)
    have hlt : k < (slotsF s).length := by
      rcases Nat.lt_or_ge k (slotsF s).length with q | q
      · exact q
      · rw [List.drop_eq_nil_of_le q] at ht; exact absurd ht hne
    have hat : (slotsV s)[k]? = some [.int .i64 (firstF t : Nat)] := by
      simp only [slotsV, List.getElem?_map]
      rw [List.getElem?_eq_getElem hlt]
      have : firstF t = (slotsF s)[k] := by
        unfold firstF; rw [ht, List.drop_eq_getElem_cons hlt]; rfl
      simp [this]
    refine t_skip ?_
    refine n_code ?_
    refine t_seq ?_
    refine t_block ?_
    refine t_seq ?_
    refine t_region ?_
    refine l_q rfl (q_move rfl) ?_
    refine l_q rfl (q_loadAggL rfl ty_agg162 ty_size162 tk sb) ?_
    apply l_callf rfl rfl rfl (First_ok G hG t)
    · exact pk
    rintro v L' ⟨rfl, rfl⟩
    refine l_nm ?_
    apply l_yield rfl rfl rfl ((hY k _ hat))
    · exact pk
    · exact pk
    rintro bb L' (⟨rfl, rfl⟩ | ⟨rfl, rfl⟩)
    · refine l_nm ?_
      refine l_q rfl (q_un rfl (fun w => u_not w)) ?_
      refine l_nil ?_
      refine n_code ?_
      refine t_cond_f rfl ?_
      refine t_skip ?_
      refine n_blk ?_
      refine n_code ?_
      refine t_seq ?_
      refine t_seq ?_
      refine t_region ?_
      refine l_q rfl (q_loadAggL rfl ty_agg162 ty_size162 tk sb) ?_
      refine l_nil ?_
      refine n_code ?_
      refine t_region ?_
      refine o_allocA rfl ty_zero162 (fun b3 => ?_)
      apply o_storeAggL rfl rfl rfl ty_size162 rfl rfl (by simp)
      · exact tk
      · exact sal
      refine l_nil ?_
      refine n_code ?_
      refine t_region ?_
      refine l_q rfl (q_loadAggL rfl ty_agg162 ty_size162 tk sb) ?_
      apply l_callf rfl rfl rfl (Rest_ok t hne)
      · exact pk
      rintro v L' ⟨rfl, rfl⟩
      refine l_nm ?_
      apply o_storeAggL rfl rfl rfl ty_size162 rfl rfl (by simp)
      · exact tk
      · exact sal
      refine l_nil ?_
      apply n_again ((k + 1, b3, restS t))
      · exact ⟨by dsimp only; omega, by dsimp only; rw [(rest_sel t hne).2, ht, List.tail_drop]⟩
      · dsimp only; omega
      · exact ⟨rfl, rfl, trivial⟩
      · exact en
    · refine l_nm ?_
      refine l_q rfl (q_un rfl (fun w => u_not w)) ?_
      refine l_nil ?_
      refine n_code ?_
      refine t_cond_t rfl ?_
      refine t_ret ?_
      refine r_blk ?_
      refine r_code ?_
      refine r_lp ?_
      refine r_blk ?_
      apply f_ret (.inl rfl) ([G, S (k + 1)])
      · exact res0 rfl
      · exact .inr ⟨k, by simp [slotsV]; exact hlt, rfl⟩
      · exact en
  · refine t_exit ?_
    refine x_code ?_
    refine x_lp ?_
    refine x_hit ?_
    have hnil : slotsF t = [] := (selN_zero t).1 (by rw [selN_W] at h; omega)
    have hkk : k = (slotsF s).length := by
      rw [hnil] at ht
      have := congrArg List.length ht
      simp at this; omega
    subst hkk
    apply f_ret (.inr rfl) ([G, B (slotsF s).length])
    · exact res0 rfl
    · exact .inl (by simp [slotsV])
    · exact en

theorem Tag_ok (h : Int) (hh : 0 ≤ h ∧ h < 18446744073709551616) : FnOk Tryd.prog 41 #[.int .u64 h] [] (fun v L => v = .int .i64 (h % 128) ∧ L = []) := by
  refine fn_intro en41 Tryd.func41 rfl rfl rfl ?_
  intro Fr w0
  refine t_nm ?_
  refine t_seq ?_
  refine t_region ?_
  refine l_q rfl (q_assign rfl) ?_
  refine l_nil ?_
  refine n_code ?_
  refine t_seq ?_
  refine t_region ?_
  refine l_q rfl (q_move rfl) ?_
  apply l_q rfl
  · apply q_bin rfl rfl (fun w => g_int w); exact fun w => b_bits w rfl
  apply l_q rfl
  · apply q_conv rfl; first | exact fun w => c_int_i w Tryd.underlying23 Tryd.underlying3 (by omega) | exact fun w => c_int w Tryd.underlying23 Tryd.underlying3
  refine l_q rfl (q_assign rfl) ?_
  refine l_nil ?_
  refine n_code ?_
  refine t_ret ?_
  apply f_ret (.inl rfl) ([])
  · apply res1 rfl
    · exact .tmp rfl
  · refine ⟨?_, rfl⟩; have := mask_u64 h hh.1 hh.2 7 (by decide); rw [show (2 : Int) ^ 7 - 1 = 127 by decide, show (2 : Int) ^ 7 = 128 by decide] at this; rw [this, wrap_i64 (by omega)]
  · exact en
theorem Home_ok (h : Int) (hh : 0 ≤ h ∧ h < 18446744073709551616) : FnOk Tryd.prog 71 #[.int .u64 h] [] (fun v L => v = .int .u64 (h / 128) ∧ L = []) := by
  refine fn_intro en71 Tryd.func71 rfl rfl rfl ?_
  intro Fr w0
  refine t_nm ?_
  refine t_seq ?_
  refine t_region ?_
  refine l_q rfl (q_assign rfl) ?_
  refine l_nil ?_
  refine n_code ?_
  refine t_seq ?_
  refine t_region ?_
  refine l_q rfl (q_move rfl) ?_
  apply l_q rfl
  · apply q_bin rfl rfl (fun w => g_int w); first | exact fun w => b_shr_c (m := 128) w (by decide) (by decide) (by omega) | exact fun w => b_shr w (by decide)
  refine l_q rfl (q_assign rfl) ?_
  refine l_nil ?_
  refine n_code ?_
  refine t_ret ?_
  apply f_ret (.inl rfl) ([])
  · apply res1 rfl
    · exact .tmp rfl
  · exact ⟨rfl, rfl⟩
  · exact en
end Go.Proofs.YthdmlgnhmbobaaaDoor.Ctrl
