import Derived.Test.YthkajgkagnenbaaGreatDoorTypes
import Derived.Test.YthkajgkagnenbaaGreatDoorCtrlB
import Derived.Test.YthkajgkagnenbaaGreatDoorInsert
import Derived.Test.YthkajgkagnenbaaGreatDoorEngRange
/- The contracts of packages ctrl and oracle (what a table reaches of them). -/
set_option linter.unusedVariables false
set_option linter.unusedSimpArgs false
set_option maxRecDepth 100000
namespace Go.Proofs.YthkajgkagnenbaaGreatDoor.Ctrl
open Go.RowKit Go.Proofs Go.Proofs.YthkajgkagnenbaaGreatDoor.Eng Go.Proofs.YthkajgkagnenbaaGreatDoor.Ty Go.Proofs.YthkajgkagnenbaaGreatDoor.Bits Go.Proofs.YthkajgkagnenbaaGreatDoor.CtrlB

/-- The piece holds math/bits' table. -/
def TabOk (G : HP) : Prop := ∀ i b, dbt[i]? = some b → CellAt G ⟨1, i, none⟩ (.int .u8 (b : Nat))
/-- A set of slots. -/
abbrev bitsV (s : Nat → Bool) : Value := .agg #[.int .u64 (selW s)]
/-- A control word. -/
abbrev wI (f : Byt) : Int := ((wd f : Nat) : Int)

theorem Empty_ok : FnOk Tryz.prog 184 #[] [] (fun v L => v = .int .u64 (wI fun _ => 128) ∧ L = []) := by
 refine fn_intro en184 Tryz.func184 rfl rfl rfl fun Fr w0 => t_nm ?_
 refine sr <| asg rfl rfl <| lz <| asg rfl rfl <| lc <| rt <| fr1 rfl ([]) (.tmp rfl) ?_
 exact ⟨by rw [show wI (fun _ => 128) = 9259542123273814144 from rfl], rfl⟩
theorem zeros_ok (w : Int) (s : Nat → Bool) (h : zerosI w = selW s) : FnOk Tryz.prog 212 #[.int .u64 w] [] (fun v L => v = bitsV s ∧ L = []) := by
 refine fn_intro en212 Tryz.func212 rfl rfl rfl fun Fr w0 => t_nm ?_
 refine sr <| o_allocA rfl yZ247 fun b2 => lz <| mv rfl rfl <| l_q rfl (qbit rfl rfl rfl) <| l_q rfl (qadd rfl rfl) ?_
 refine mv rfl rfl <| l_q rfl (qbit rfl rfl rfl) <| l_q rfl (q_un rfl (u_xor ·)) <| l_q rfl (qbit rfl rfl rfl) ?_
 apply l_q rfl
 ·apply q_buildS rfl yP247 yZ247
  ·apply FillR.one
   ·repeat (first | exact PlAt.here | apply PlAt.there)
   ·rfl
   ·exact sa
   exact FillR.nil
 refine sta rfl rfl rfl yS247 rfl rfl ?_
 refine lc <| rt ?_
 apply f_ret (.inl rfl) ([])
 ·apply res1 rfl
  ·apply Rv.agg rfl
   ·exact tk
   ·exact run_loadAll yA247 yS247 rfl
 ·exact ⟨by show Value.agg #[Value.int .u64 (zerosI w)] = _; rw [h], rfl⟩
 ·exact en
theorem Match_ok (f : Byt) (hf : okB f) (tag : Nat) (ht : tag < 128) : FnOk Tryz.prog 188 #[.int .u64 (wI f), .int .i64 tag] [] (fun v L => v = bitsV (fun i => f i == tag) ∧ L = []) := by
 refine fn_intro en188 Tryz.func188 rfl rfl rfl fun Fr w0 => t_nm ?_
 refine sr <| o_allocA rfl yZ247 fun b4 => lc <| t_seq <| sr <| mv rfl rfl <| l_q rfl (qi rfl rfl (b_lss ·)) <| mv rfl rfl <| l_pt (t := 7) rfl (fun h => ?_) fun h => ?_
 ·omega
 ·refine l_on rfl rfl <| mv rfl rfl <| l_on rfl rfl <| l_q rfl (qi rfl rfl (b_gtr ·)) <| l_q rfl (q_pk rfl rfl) <| lc <| t_if rfl (fun h2 => ?_) fun h2 => ?_
  ·omega
  ·refine t_skip <| nz <| mv rfl rfl <| mv rfl rfl <| l_q rfl (qcv rfl yU3 yU27) ?_
   refine l_q rfl (qmul rfl rfl) ?_
   refine l_q rfl (qbit rfl rfl rfl) ?_
   rw [lows_mul0 (by omega)]
   refine lc1 rfl rfl rfl (zeros_ok _ _ (xor_sel hf (by omega))) ?_
   refine sta rfl rfl rfl yS247 rfl rfl ?_
   refine lc <| rt ?_
   apply f_ret (.inl rfl) ([])
   ·apply res1 rfl
    ·apply Rv.agg rfl
     ·exact tk
     ·exact run_loadAll yA247 yS247 rfl
   ·exact ⟨rfl, rfl⟩
   ·exact en
theorem MatchEmpty_ok (f : Byt) (hf : okB f) : FnOk Tryz.prog 161 #[.int .u64 (wI f)] [] (fun v L => v = bitsV (fun i => f i == 128) ∧ L = []) := by
 refine fn_intro en161 Tryz.func161 rfl rfl rfl fun Fr w0 => t_nm ?_
 refine sr <| o_allocA rfl yZ247 fun b2 => lz <| mv rfl rfl <| l_q rfl (qbit rfl rfl rfl) <| lc1 rfl rfl rfl (zeros_ok _ _ (xor_sel hf (c := 128) (by decide))) ?_
 refine sta rfl rfl rfl yS247 rfl rfl ?_
 refine lc <| rt ?_
 apply f_ret (.inl rfl) ([])
 ·apply res1 rfl
  ·apply Rv.agg rfl
   ·exact tk
   ·exact run_loadAll yA247 yS247 rfl
 ·exact ⟨rfl, rfl⟩
 ·exact en
theorem MatchVacant_ok (f : Byt) (hf : okB f) : FnOk Tryz.prog 174 #[.int .u64 (wI f)] [] (fun v L => v = bitsV (fun i => f i == 128 || f i == 254) ∧ L = []) := by
 refine fn_intro en174 Tryz.func174 rfl rfl rfl fun Fr w0 => t_nm ?_
 refine sr <| o_allocA rfl yZ247 fun b2 => lz <| mv rfl rfl <| lc1 rfl rfl rfl (MatchEmpty_ok f hf) ?_
 refine l_q rfl (q_field1L 0 rfl yU247 rfl yA27 rfl ga) ?_
 refine mv rfl rfl <| l_q rfl (qbit rfl rfl rfl) <| lc1 rfl rfl rfl (zeros_ok _ _ (xor_sel hf (c := 254) (by decide))) ?_
 refine l_q rfl (q_field1L 0 rfl yU247 rfl yA27 rfl ga) ?_
 refine l_q rfl (qbit rfl rfl rfl) ?_
 apply l_q rfl
 ·apply q_buildS rfl yP247 yZ247
  ·apply FillR.one
   ·repeat (first | exact PlAt.here | apply PlAt.there)
   ·rfl
   ·exact sa
   exact FillR.nil
 refine sta rfl rfl rfl yS247 rfl rfl ?_
 refine lc <| rt ?_
 rw [or_sel]
 apply f_ret (.inl rfl) ([])
 ·apply res1 rfl
  ·apply Rv.agg rfl
   ·exact tk
   ·exact run_loadAll yA247 yS247 rfl
 ·exact ⟨rfl, rfl⟩
 ·exact en
theorem MatchFull_ok (f : Byt) (hf : okB f) : FnOk Tryz.prog 194 #[.int .u64 (wI f)] [] (fun v L => v = bitsV (fun i => decide (f i < 128)) ∧ L = []) := by
 refine fn_intro en194 Tryz.func194 rfl rfl rfl fun Fr w0 => t_nm ?_
 refine sr <| o_allocA rfl yZ247 fun b2 => lz <| mv rfl rfl <| l_q rfl (q_un rfl (u_xor ·)) <| l_q rfl (qbit rfl rfl rfl) ?_
 apply l_q rfl
 ·apply q_buildS rfl yP247 yZ247
  ·apply FillR.one
   ·repeat (first | exact PlAt.here | apply PlAt.there)
   ·rfl
   ·exact sa
   exact FillR.nil
 refine sta rfl rfl rfl yS247 rfl rfl ?_
 refine lc <| rt ?_
 rw [full_sel hf]
 apply f_ret (.inl rfl) ([])
 ·apply res1 rfl
  ·apply Rv.agg rfl
   ·exact tk
   ·exact run_loadAll yA247 yS247 rfl
 ·exact ⟨rfl, rfl⟩
 ·exact en
theorem min64 {i : Nat} (hi : i < 8) : (2 : Int) ^ min (8 * (i : Int)).toNat IntKind.u64.bits = ((2 ^ (8 * i) : Nat) : Int) := by
 rw [show min (8 * (i : Int)).toNat IntKind.u64.bits = 8 * i by show min _ 64 = _; omega, Int.natCast_pow]; rfl
theorem Get_ok (f : Byt) (hf : okB f) (i : Nat) (hi : i < 8) : FnOk Tryz.prog 202 #[.int .u64 (wI f), .int .i64 i] [] (fun v L => v = .int .i64 (f i : Nat) ∧ L = []) := by
 have hfi := hf i hi
 refine fn_intro en202 Tryz.func202 rfl rfl rfl fun Fr w0 => t_nm ?_
 refine sr <| asg rfl rfl <| lc <| t_seq <| sr <| mv rfl rfl <| l_q rfl (qi rfl rfl (b_lss ·)) <| mv rfl rfl <| l_pt (t := 7) rfl (fun h => ?_) fun h => ?_
 ·omega
 ·refine l_on rfl rfl <| mv rfl rfl <| l_on rfl rfl <| l_q rfl (qi rfl rfl (b_gtr ·)) <| l_q rfl (q_pk rfl rfl) <| lc <| t_if rfl (fun h2 => ?_) fun h2 => ?_
  ·omega
  ·refine t_skip <| nz <| mv rfl rfl <| mv rfl rfl <| l_q rfl (qmul rfl rfl) ?_
   apply l_q rfl
   ·apply qi rfl rfl; exact fun w => b_shr w (by omega)
   refine l_q rfl (qbit rfl rfl rfl) <| l_q rfl (qcv rfl yU27 yU3) ?_
   refine asg rfl rfl <| lc <| rt <| fr1 rfl ([]) (.tmp rfl) ?_
   refine ⟨?_, rfl⟩; rw [min64 hi, Int.fdiv_eq_ediv_of_nonneg _ (Int.natCast_nonneg _), get_wd hf hi, wrap_i64 (by omega)]
theorem Set_ok (f : Byt) (hf : okB f) (i c : Nat) (hi : i < 8) (hc : c < 256) : FnOk Tryz.prog 229 #[.int .u64 (wI f), .int .i64 i, .int .i64 c] [] (fun v L => v = .int .u64 (wI (setF f i c)) ∧ L = []) := by
 refine fn_intro en229 Tryz.func229 rfl rfl rfl fun Fr w0 => t_nm ?_
 refine sr <| asg rfl rfl <| lc <| t_seq <| sr <| mv rfl rfl <| l_q rfl (qi rfl rfl (b_lss ·)) <| mv rfl rfl <| l_pt (t := 9) rfl (fun h => ?_) fun h => ?_
 ·omega
 ·refine l_on rfl rfl <| mv rfl rfl <| l_on rfl rfl <| l_q rfl (qi rfl rfl (b_gtr ·)) <| l_q rfl (q_pk rfl rfl) <| mv rfl rfl <| l_pt (t := 13) rfl (fun h2 => ?_) fun h2 => ?_
  ·omega
  ·refine l_on rfl rfl <| mv rfl rfl <| l_on rfl rfl <| l_q rfl (qi rfl rfl (b_lss ·)) <| l_q rfl (q_pk rfl rfl) <| mv rfl rfl <| l_pt (t := 17) rfl (fun h3 => ?_) fun h3 => ?_
   ·omega
   ·refine l_on rfl rfl <| mv rfl rfl <| l_on rfl rfl <| l_q rfl (qi rfl rfl (b_gtr ·)) <| l_q rfl (q_pk rfl rfl) <| lc <| t_if rfl (fun h4 => ?_) fun h4 => ?_
    ·omega
    ·refine t_skip <| n_code <| t_seq <| t_draw mixed ?_
     apply dq 0 rfl
     ·exact yq (q_move rfl)
     apply dq 1 rfl
     ·exact yq (q_move rfl)
     apply dq 2 rfl
     ·exact yq (qmul rfl rfl)
     apply dq 3 rfl
     ·apply yq
      apply qi rfl rfl; exact fun w => b_shl w (by omega)
     apply dq 4 rfl
     ·exact yq (qbit rfl rfl rfl)
     apply dq 5 rfl
     ·exact yq (q_move rfl)
     apply dq 6 rfl
     ·exact yq (qcv rfl yU3 yU27)
     apply dq 7 rfl
     ·exact yq (q_move rfl)
     apply dq 8 rfl
     ·exact yq (qmul rfl rfl)
     apply dq 9 rfl
     ·apply yq
      apply qi rfl rfl; exact fun w => b_shl w (by omega)
     apply dq 10 rfl
     ·exact yq (qbit rfl rfl rfl)
     refine d_eff1 [10, 0, 1, 2, 3, 4, 5, 6, 7, 8, 9] [] 11 [(32, _)] gO ⟨rfl, trivial⟩ (by kernel_rfl) (by kernel_rfl) fun Ex => ?_
     refine asg rfl rfl <| l_nil ?_
     apply n_d
     ·exact trivial
     refine d_end (by kernel_rfl) ?_
     refine n_code <| rt <| fr1 rfl ([]) (.tmp rfl) ?_
     refine ⟨?_, rfl⟩; rw [min64 hi, set_wd hf hi hc]
theorem Has_ok (s : Nat → Bool) (i : Nat) (hi : i < 8) : FnOk Tryz.prog 190 #[bitsV s, .int .i64 i] [] (fun v L => v = .bool (s i) ∧ L = []) := by
 refine fn_intro en190 Tryz.func190 rfl rfl rfl fun Fr w0 => t_nm ?_
 refine sr <| o_boxA rfl rfl fun b2 => asg rfl rfl <| lz <| mv rfl rfl <| l_q rfl (qi rfl rfl (b_geq ·)) <| mv rfl rfl <| l_pt (t := 7) rfl (fun h => ?_) fun h => ?_
 ·refine l_on rfl rfl <| mv rfl rfl <| l_on rfl rfl <| l_q rfl (qi rfl rfl (b_leq ·)) <| l_q rfl (q_pk rfl rfl) <| mv rfl rfl <| l_pt (t := 11) rfl (fun h2 => ?_) fun h2 => ?_
  ·refine l_on rfl rfl <| l_q rfl (qfa 0 rfl yU247 rfl rfl yS27) <| l_on rfl rfl <| l_q rfl (qld rfl yA27) ?_
   refine l_on rfl rfl <| mv rfl rfl <| l_on rfl rfl <| l_q rfl (qmul rfl rfl) ?_
   refine l_on rfl rfl ?_
   apply l_q rfl
   ·apply qi rfl rfl; exact fun w => b_shr w (by omega)
   refine l_on rfl rfl <| l_q rfl (qbit rfl rfl rfl) <| l_on rfl rfl <| l_q rfl (qi rfl rfl (b_neq ·)) <| l_q rfl (q_pk rfl rfl) <| asg rfl rfl <| lc <| rt <| fr1 rfl ([]) (.tmp rfl) ?_
   refine ⟨?_, rfl⟩; rw [min64 hi, Int.fdiv_eq_ediv_of_nonneg _ (Int.natCast_nonneg _), has_sel s hi]; cases s i <;> rfl
  ·omega
 ·omega
theorem TrailingZeros_ok (G : HP) (hG : TabOk G) (s : Nat → Bool) : FnOk Tryz.prog 220 #[.int .u64 (selW s)] [G] (fun v L => v = .int .i64 (if firstF s < 8 then 8 * (firstF s : Nat) + 7 else 64) ∧ L = [G]) := by
 refine fn_intro en220 Tryz.func220 rfl rfl rfl fun Fr w0 => t_nm ?_
 refine sr <| asg rfl rfl <| lc <| t_seq <| sr <| mv rfl rfl <| l_q rfl (qi rfl rfl (b_eql ·)) <| lc <| t_if rfl (fun h => ?_) fun h => ?_
 ·refine sr <| asg rfl rfl <| lc <| rt ?_
  have h0 : firstF s = 8 := by
   have : slotsF s = [] := (selN_zero s).1 (by rw [selN_W] at h; omega)
   unfold firstF; rw [this]; rfl
  refine fr1 rfl ([G]) (.tmp rfl) ?_
  exact ⟨by rw [if_neg (by omega)], rfl⟩
 ·have hne : slotsF s ≠ [] := fun q => h (by rw [selN_W, (selN_zero s).2 q]; rfl)
  have htz := tz_prog (x := selN s) (fun q => hne ((selN_zero s).1 q)) (selN_lt s)
  rw [← selN_W] at htz
  have hf8 := (tz_sel s hne).2
  have hw : ∀ x, 0 ≤ IntKind.u64.wrap x ∧ IntKind.u64.wrap x < 18446744073709551616 := fun x => by rw [IntKind.wrap_u64]; omega
  have hw2 := hw (bits .and .u64 (selW s) (IntKind.u64.wrap (0 - selW s)) * 285870213051353865)
  refine t_skip <| nz <| mv rfl rfl <| mv rfl rfl <| l_q rfl (q_un rfl (u_neg ·)) <| l_q rfl (qbit rfl rfl rfl) <| l_q rfl (qmul rfl rfl) ?_
  apply l_q rfl
  ·apply qi rfl rfl; first | exact fun w => b_shr_c (m := 288230376151711744) w (by decide) (by decide) (by omega) | exact fun w => b_shr w (by decide)
  refine l_q rfl (q_indexAddrA rfl rfl yU304 yS5 (by omega)) ?_
  apply l_q rfl
  ·apply q_loadR rfl yA5
   ·exact tk
   ·refine hG (tzI (selN s)) (8 * firstF s + 7) (tz_sel s hne).1 |> fun h => ?_; rw [Nat.zero_add, Nat.mul_one, htz, Int.toNat_natCast]; exact h
  refine l_q rfl (qcv rfl yU5 yU3) ?_
  refine asg rfl rfl <| lc <| rt <| fr1 rfl ([G]) (.tmp rfl) ?_
  exact ⟨by rw [if_pos hf8]; congr 1, rfl⟩
theorem First_ok (G : HP) (hG : TabOk G) (s : Nat → Bool) : FnOk Tryz.prog 175 #[bitsV s] [G] (fun v L => v = .int .i64 (firstF s : Nat) ∧ L = [G]) := by
 have h8 : firstF s ≤ 8 := by
  unfold firstF
  cases h : slotsF s with
  | nil => simp
  | cons a r =>
   have := (slotsF_mem (s := s) (i := a)).1 (by rw [h]; simp)
   simp; omega
 refine fn_intro en175 Tryz.func175 rfl rfl rfl fun Fr w0 => t_nm ?_
 refine sr <| o_boxA rfl rfl fun b1 => asg rfl rfl <| lz <| l_q rfl (qfa 0 rfl yU247 rfl rfl yS27) <| l_q rfl (qld rfl yA27) ?_
 refine lc1 rfl rfl rfl (TrailingZeros_ok G hG s) ?_
 refine l_q rfl (qquo rfl rfl) ?_
 refine asg rfl rfl <| lc <| rt <| fr1 rfl ([G]) (.tmp rfl) ?_
 exact ⟨by congr 1; split <;> omega, rfl⟩
theorem Rest_ok (s : Nat → Bool) (h : slotsF s ≠ []) : FnOk Tryz.prog 226 #[bitsV s] [] (fun v L => v = bitsV (restS s) ∧ L = []) := by
 refine fn_intro en226 Tryz.func226 rfl rfl rfl fun Fr w0 => t_nm ?_
 refine sr <| o_boxA rfl rfl fun b1 => o_allocA rfl yZ247 fun b2 => lz <| l_q rfl (qfa 0 rfl yU247 rfl rfl yS27) <| l_q rfl (qld rfl yA27) ?_
 refine l_q rfl (qfa 0 rfl yU247 rfl rfl yS27) <| l_q rfl (qld rfl yA27) ?_
 refine l_q rfl (qsub rfl rfl) ?_
 refine l_q rfl (qbit rfl rfl rfl) ?_
 apply l_q rfl
 ·apply q_buildS rfl yP247 yZ247
  ·apply FillR.one
   ·repeat (first | exact PlAt.here | apply PlAt.there)
   ·rfl
   ·exact sa
   exact FillR.nil
 refine sta rfl rfl rfl yS247 rfl rfl ?_
 refine lc <| rt ?_
 apply f_ret (.inl rfl) ([])
 ·apply res1 rfl
  ·apply Rv.agg rfl
   ·exact tk
   ·exact run_loadAll yA247 yS247 rfl
 ·refine ⟨?_, rfl⟩; rw [(rest_sel s h).1]
 ·exact en
theorem All_ok (s : Nat → Bool) : FnOk Tryz.prog 189 #[bitsV s] [] (fun v L => ∃ b, v = .func (.func 225) #[] #[.pointer (some ⟨b, 0, none⟩)] ∧ L = [pt b (.cells #[.int .u64 (selW s)] 247 (0, 0))]) := by
 refine fn_intro en189 Tryz.func189 rfl rfl rfl fun Fr w0 => t_nm ?_
 exact sr <| o_boxA rfl rfl fun b1 => asg rfl rfl <| lz <| l_q rfl (q_makeFunc rfl rfl) <| asg rfl rfl <| lc <| rt <| fr1 rfl ([pt b1 (.cells #[.int .u64 (selW s)] 247 (0, 0))]) (.tmp rfl) ⟨_, rfl, rfl⟩
/-- The slots of the set, a round each. -/
def slotsV (s : Nat → Bool) : List (List Value) := (slotsF s).map fun i => [.int .i64 (i : Nat)]
theorem All_it (G : HP) (hG : TabOk G) (b : Nat) (s : Nat → Bool) : IterOk Tryz.prog 225 #[.pointer (some ⟨b, 0, none⟩)] [pt b (.cells #[.int .u64 (selW s)] 247 (0, 0)), G] (slotsV s) [G] [G] := by
 refine ⟨en225, fun l B S hY => ?_⟩
 show FnOk _ _ #[.func (.yield l) #[] #[], .pointer (some ⟨b, 0, none⟩)] _ _
 refine fn_intro en225 Tryz.func225 rfl rfl rfl fun Fr w0 => t_nm ?_
 refine sr <| l_q rfl (qlda rfl yA247 yS247) ?_
 refine o_allocA rfl yZ247 fun b3 => sta rfl rfl rfl yS247 rfl rfl ?_
 refine lc <| t_block ?_
 refine t_loop (fun x : Nat × Nat × (Nat → Bool) => x.1 ≤ (slotsF s).length ∧ slotsF x.2.2 = (slotsF s).drop x.1) (fun x => [(0, .func (.yield l) #[] #[]), (3, .pointer (some ⟨x.2.1, 0, none⟩))]) (fun x => pt x.2.1 (.cells #[.int .u64 (selW x.2.2)] 247 (0, 0)) :: G :: B x.1 :: Fr) (fun x => (slotsF s).length - x.1) (0, b3, s) ⟨by omega, by simp⟩ ⟨rfl, rfl, trivial⟩ (by (exact en)) ?_
 rintro ⟨k, b', t⟩ ⟨hk, ht⟩
 dsimp only at hk ht ⊢
 refine t_seq <| sr <| l_q rfl (qfa 0 rfl yU247 rfl rfl yS27) <| l_q rfl (qld rfl yA27) ?_
 refine l_q rfl (qi rfl rfl (b_neq ·)) <| lc <| t_if rfl (fun h => ?_) fun h => ?_
 ·have hne : slotsF t ≠ [] := fun q => h (by rw [selN_W, (selN_zero t).2 q]; rfl)
  have hlt : k < (slotsF s).length := by
   rcases Nat.lt_or_ge k (slotsF s).length with q | q
   ·exact q
   ·rw [List.drop_eq_nil_of_le q] at ht; exact absurd ht hne
  have hat : (slotsV s)[k]? = some [.int .i64 (firstF t : Nat)] := by
   simp only [slotsV, List.getElem?_map]
   rw [List.getElem?_eq_getElem hlt]
   have : firstF t = (slotsF s)[k] := by
    unfold firstF; rw [ht, List.drop_eq_getElem_cons hlt]; rfl
   simp [this]
  refine t_skip <| n_code <| t_seq <| t_block <| sr <| mv rfl rfl <| l_q rfl (qlda rfl yA247 yS247) ?_
  refine lc1 rfl rfl rfl (First_ok G hG t) ?_
  apply l_yield rfl rfl rfl ((hY k _ hat))
  ·exact pk
  ·exact pk
  rintro bb L' (⟨rfl, rfl⟩ | ⟨rfl, rfl⟩)
  ·refine l_nm ?_
   refine l_q rfl (q_un rfl (u_not ·)) <| lc <| t_cond_f rfl <| t_skip <| n_blk <| n_code <| t_seq <| sr <| l_q rfl (qlda rfl yA247 yS247) ?_
   refine lr <| o_allocA rfl yZ247 fun b3 => sta rfl rfl rfl yS247 rfl rfl ?_
   refine lr <| l_q rfl (qlda rfl yA247 yS247) ?_
   refine lc1 rfl rfl rfl (Rest_ok t hne) ?_
   refine sta rfl rfl rfl yS247 rfl rfl ?_
   refine l_nil ?_
   apply n_again ((k + 1, b3, restS t))
   ·exact ⟨by dsimp only; omega, by dsimp only; rw [(rest_sel t hne).2, ht, List.tail_drop]⟩
   ·dsimp only; omega
   ·exact ⟨rfl, rfl, trivial⟩
   ·exact en
  ·refine l_nm ?_
   refine l_q rfl (q_un rfl (u_not ·)) <| lc <| t_cond_t rfl <| rt ?_
   apply f_ret (.inl rfl) ([G, S (k + 1)])
   ·exact res0 rfl
   ·exact .inr ⟨k, by simp [slotsV]; exact hlt, rfl⟩
   ·exact en
 ·refine xt rfl ?_
  have hnil : slotsF t = [] := (selN_zero t).1 (by rw [selN_W] at h; omega)
  have hkk : k = (slotsF s).length := by
   rw [hnil] at ht
   have := congrArg List.length ht
   simp at this; omega
  subst hkk
  apply f_ret (.inr rfl) ([G, B (slotsF s).length])
  ·exact res0 rfl
  ·exact .inl (by simp [slotsV])
  ·exact en

theorem Tag_ok (h : Int) (hh : 0 ≤ h ∧ h < 18446744073709551616) : FnOk Tryz.prog 139 #[.int .u64 h] [] (fun v L => v = .int .i64 (h % 128) ∧ L = []) := by
 refine fn_intro en139 Tryz.func139 rfl rfl rfl fun Fr w0 => t_nm ?_
 refine sr <| asg rfl rfl <| lz <| mv rfl rfl <| l_q rfl (qbit rfl rfl rfl) <| l_q rfl (qcv rfl yU27 yU3) ?_
 refine asg rfl rfl <| lc <| rt <| fr1 rfl ([]) (.tmp rfl) ?_
 refine ⟨?_, rfl⟩; have := mask_u64 h hh.1 hh.2 7 (by decide); rw [show (2 : Int) ^ 7 - 1 = 127 by decide, show (2 : Int) ^ 7 = 128 by decide] at this; rw [this, wrap_i64 (by omega)]
theorem Home_ok (h : Int) (hh : 0 ≤ h ∧ h < 18446744073709551616) : FnOk Tryz.prog 187 #[.int .u64 h] [] (fun v L => v = .int .u64 (h / 128) ∧ L = []) := by
 refine fn_intro en187 Tryz.func187 rfl rfl rfl fun Fr w0 => t_nm ?_
 refine sr <| asg rfl rfl <| lz <| mv rfl rfl ?_
 apply l_q rfl
 ·apply qi rfl rfl; first | exact fun w => b_shr_c (m := 128) w (by decide) (by decide) (by omega) | exact fun w => b_shr w (by decide)
 exact asg rfl rfl <| lc <| rt <| fr1 rfl ([]) (.tmp rfl) ⟨rfl, rfl⟩
end Go.Proofs.YthkajgkagnenbaaGreatDoor.Ctrl
