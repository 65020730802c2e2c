/- The contracts of the reference of layer 7: the order as a slice. -/
import Derived.Test.YtbooplbhlmiihaaProbeSz
import Derived.Test.YtbooplbhlmiihaaProbeWay
set_option linter.unusedVariables false
set_option linter.unusedSimpArgs false
set_option maxRecDepth 100000
namespace Go.Proofs.Ytbooplbhlmiihaa.Probe
open Go.RowKit Go.Proofs Go.Proofs.Ytbooplbhlmiihaa.Eng Go.Proofs.Ytbooplbhlmiihaa.Ty Go.Proofs.Ytbooplbhlmiihaa.Bits

/-- The first k groups of the way, as cells. -/
def wayV (home : Int) (g k : Nat) : List Value := (List.range k).map fun j => .int .i64 (ord home g j)
theorem wayV_succ (home : Int) (g k : Nat) : wayV home g k ++ [.int .i64 (ord home g k)] = wayV home g (k + 1) := by simp [wayV, List.range_succ]
theorem wayV_at {home : Int} {g k j : Nat} (h : j < k) : (wayV home g k)[j]? = some (.int .i64 (ord home g j)) := by simp [wayV, h]
theorem wayV_len (home : Int) (g k : Nat) : (wayV home g k).length = k := by simp [wayV]
/-- Where the walk stands ahead of step k. -/
def accR (home : Int) (g k : Nat) : Int := (home + ((k * (k - 1) / 2 : Nat) : Int)) % (g : Int)
theorem accR_succ (home : Int) (g k : Nat) : accR home g (k + 1) = ord home g k := by
  unfold accR ord
  rw [show (k + 1) * (k + 1 - 1) = k * (k + 1) by rw [Nat.add_sub_cancel, Nat.mul_comm]]
theorem acc_step (home : Int) (g k : Nat) (h : 0 < g) : (accR home g k + k) % (g : Int) = ord home g k := by
  unfold accR ord
  rw [Int.emod_add_emod]
  congr 1
  have : k * (k + 1) = k * (k - 1) + 2 * k := by
    cases k with
    | zero => rfl
    | succ k => rw [Nat.add_sub_cancel]; simp only [Nat.add_mul, Nat.mul_add]; omega
  omega
theorem accR_range (home : Int) (g k : Nat) (h : 0 < g) : 0 ≤ accR home g k ∧ accR home g k < (g : Int) := by
  unfold accR
  exact ⟨Int.emod_nonneg _ (by omega), Int.emod_lt_of_pos _ (by omega)⟩

theorem grp_powB1 {groups : Int} : powB groups 1 8192 = false → grp groups = 0 := grp_no

theorem rOrder_ok (home groups : Int) (hh : 0 ≤ home ∧ home < 18446744073709551616) :
    FnOk Try.prog 13 #[.int .u64 home, .int .i64 groups] [] (fun v L => L = [ownS 3 1 v (grp groups) (wayV home (grp groups) (grp groups))]) := by
  have hle := grp_le groups
  refine fn_intro en13 Try.func13 rfl rfl rfl ?_
  intro Fr w0
  refine t_norm fun M hM => ?_
  try simp only [List.cons_append, List.nil_append, List.append_nil] at hM
  subst M
  refine t_seq ?_
  refine t_region ?_
  refine l_q rfl (q_assign rfl) ?_
  refine l_nil ?_
  refine n_code ?_
  refine t_seq ?_
  refine t_region ?_
  refine l_q rfl (q_assign rfl) ?_
  refine l_nil ?_
  refine n_code ?_
  refine t_seq ?_
  refine t_seq ?_
  refine t_region ?_
  refine l_q rfl (q_move rfl) ?_
  apply l_callf rfl rfl rfl (rpower_ok _ 8192 13 (by omega) (by decide))
  · repeat (first | with_reducible exact .nil | apply Pick.cons | with_reducible exact .here | apply Take.there)
  rintro v L' ⟨rfl, rfl⟩
  refine l_norm fun M hM => ?_
  try simp only [List.cons_append, List.nil_append, List.append_nil] at hM
  subst M
  refine l_q rfl (q_un rfl (fun w => u_not w)) ?_
  refine l_nil ?_
  refine n_code ?_
  first | refine t_cond_d rfl (fun h => ?_) (fun h => ?_) | refine t_cond_n rfl (fun h => ?_) (fun h => ?_) | refine t_cond rfl (fun h => ?_) (fun h => ?_)
  · refine t_seq ?_
    refine t_region ?_
    refine l_q rfl (q_move rfl) ?_
    refine l_q rfl (q_assign rfl) ?_
    refine l_nil ?_
    refine n_code ?_
    refine t_ret ?_
    refine r_code ?_
    have hz := grp_no (groups := groups) (by simpa using h)
    apply f_ret (.inl rfl) ([ownS 3 1 (.slice none 0 0) 0 []])
    · apply res1 rfl
      · exact .tmp rfl
    · rw [hz]; rfl
    · exact fun w h => own_nil h
  · obtain ⟨hgi, e, he, hge⟩ := grp_yes (groups := groups) (by simpa using h)
    have hpos : 0 < 2 ^ e := Nat.two_pow_pos e
    have hmod := Int.emod_nonneg home (by omega : groups ≠ 0)
    have hmod2 := Int.emod_lt_of_pos home (by omega : 0 < groups)
    refine t_skip ?_
    refine n_code ?_
    refine t_seq ?_
    refine t_region ?_
    refine l_q rfl (q_move rfl) ?_
    refine l_q rfl (q_move rfl) ?_
    apply l_q rfl
    · apply q_conv rfl; first | exact fun w => c_int_u w Try.underlying3 Try.underlying22 (by omega) | exact fun w => c_int w Try.underlying3 Try.underlying22
    apply l_q rfl
    · apply q_bin rfl rfl (fun w => g_int w); first | exact fun w => b_rem_i w (by omega) | exact fun w => b_rem w (by omega)
    apply l_q rfl
    · apply q_conv rfl; first | exact fun w => c_int_i w Try.underlying22 Try.underlying3 (by omega) | exact fun w => c_int w Try.underlying22 Try.underlying3
    refine l_q rfl (q_assign rfl) ?_
    refine l_nil ?_
    refine n_code ?_
    refine t_seq ?_
    refine t_seq ?_
    refine t_region ?_
    refine l_q rfl (q_assign rfl) ?_
    refine l_nil ?_
    refine n_code ?_
    refine t_block ?_
    have ha0 : home % groups = accR home (grp groups) 0 := by unfold accR; rw [← hgi]; simp
    rw [ha0]
    refine t_loop (fun x : Nat × Value => x.1 ≤ grp groups) (fun x => [(0, .int .u64 home), (1, .int .i64 groups), (5, x.2), (6, .int .i64 (accR home (grp groups) x.1)), (7, .int .i64 x.1)]) (fun x => ownS 3 1 x.2 x.1 (wayV home (grp groups) x.1) :: Fr) (fun x => grp groups - x.1) (0, .slice none 0 0) (by omega) ⟨rfl, rfl, rfl, rfl, rfl, trivial⟩ (fun w h => own_nil h) ?_
    rintro ⟨k, v⟩ hk
    dsimp only at hk ⊢
    have hr := accR_range home (grp groups) k (by omega)
    have hst := acc_step home (grp groups) k (by omega)
    rw [← hgi] at hst
    have hob := ord_bounds home (grp groups) k (by omega)
    refine t_seq ?_
    refine t_seq ?_
    refine t_region ?_
    refine l_q rfl (q_move rfl) ?_
    refine l_q rfl (q_move rfl) ?_
    apply l_q rfl
    · apply q_bin rfl rfl (fun w => g_int w); exact fun w => b_lss w
    refine l_nil ?_
    refine n_code ?_
    first | refine t_cond_d rfl (fun m => ?_) (fun m => ?_) | refine t_cond_n rfl (fun m => ?_) (fun m => ?_) | refine t_cond rfl (fun m => ?_) (fun m => ?_)
    · refine t_skip ?_
      refine n_code ?_
      refine t_seq ?_
      refine t_block ?_
      refine t_seq ?_
      refine t_region ?_
      refine l_q rfl (q_move rfl) ?_
      refine l_q rfl (q_move rfl) ?_
      apply l_q rfl
      · apply q_bin rfl rfl (fun w => g_int w); first | exact fun w => b_add_i w (by omega) | exact fun w => b_add w
      refine l_q rfl (q_move rfl) ?_
      apply l_q rfl
      · apply q_bin rfl rfl (fun w => g_int w); first | exact fun w => b_rem_i w (by omega) | exact fun w => b_rem w (by omega)
      refine l_q rfl (q_assign rfl) ?_
      refine l_nil ?_
      refine n_code ?_
      refine t_region ?_
      refine l_q rfl (q_move rfl) ?_
      refine l_q rfl (q_move rfl) ?_
      refine o_buildSlice (us := [_]) rfl rfl Try.underlying27 ty_size3 ty_zero3 rfl rfl rfl rfl rfl (fun b29 => ?_)
      apply o_append (sz := 1) rfl rfl rfl Try.underlying27 ty_info3 rfl rfl
      · repeat (first | with_reducible exact .here | apply Take.there)
      · repeat (first | with_reducible exact .here | apply Take.there)
      · rfl
      · rfl
      · simp only [maxLen]; omega
      · omega
      intro v30
      refine l_q rfl (q_assign rfl) ?_
      refine l_nil ?_
      refine n_blk ?_
      refine n_code ?_
      refine t_region ?_
      refine l_q rfl (q_move rfl) ?_
      apply l_q rfl
      · apply q_bin rfl rfl (fun w => g_int w); first | exact fun w => b_add_i w (by omega) | exact fun w => b_add w
      refine l_q rfl (q_assign rfl) ?_
      refine l_nil ?_
      rw [hst]
      have hw := wayV_succ home (grp groups) k
      change TN _ _ _ _ (ownS _ _ _ _ (wayV home (grp groups) k ++ [.int .i64 (ord home (grp groups) k)]) :: _) _ _
      rw [hw]
      apply n_again ((k + 1, v30))
      · exact (show k + 1 ≤ grp groups by omega)
      · (dsimp only; omega)
      · exact ⟨rfl, rfl, rfl, by dsimp only; rw [accR_succ]; rfl, rfl, trivial⟩
      · first | exact Ent.refl _ | ((try push_cast); apply Sel.ent; (repeat (first | apply Sel.cons | with_reducible exact Sel.nil | apply Sel.rest | with_reducible exact Take.here | apply Take.there | exact Drop.refl | apply Drop.skip)))
    · refine t_exit ?_
      refine x_code ?_
      refine x_lp ?_
      refine x_hit ?_
      refine n_code ?_
      refine t_seq ?_
      refine t_region ?_
      refine l_q rfl (q_move rfl) ?_
      refine l_q rfl (q_assign rfl) ?_
      refine l_nil ?_
      refine n_code ?_
      refine t_ret ?_
      obtain rfl : k = grp groups := by omega
      apply f_ret (.inl rfl) ([_])
      · apply res1 rfl
        · exact .tmp rfl
      · rfl
      · first | exact Ent.refl _ | ((try push_cast); apply Sel.ent; (repeat (first | apply Sel.cons | with_reducible exact Sel.nil | apply Sel.rest | with_reducible exact Take.here | apply Take.there | exact Drop.refl | apply Drop.skip)))

theorem rOrder_ok2 (home groups : Int) (hh : 0 ≤ home ∧ home < 18446744073709551616) :
    FnOk Try.prog 13 #[.int .u64 home, .int .i64 groups] [] (fun v L => L = [ownS 3 1 v (grp groups) (wayV home (grp groups) (grp groups))] ∧ shapeS v (grp groups)) :=
  (rOrder_ok home groups hh).know fun v L h Fr w hs => by subst h; exact (own_shape hs).2

theorem rAt_ok (home groups n : Int) (hh : 0 ≤ home ∧ home < 18446744073709551616) :
    FnOk Try.prog 16 #[.int .u64 home, .int .i64 groups, .int .i64 n] [] (fun v L => v = .int .i64 (atI home groups n) ∧ L = []) := by
  have hle := grp_le groups
  refine fn_intro en16 Try.func16 rfl rfl rfl ?_
  intro Fr w0
  refine t_norm fun M hM => ?_
  try simp only [List.cons_append, List.nil_append, List.append_nil] at hM
  subst M
  refine t_seq ?_
  refine t_region ?_
  refine l_q rfl (q_assign rfl) ?_
  refine l_nil ?_
  refine n_code ?_
  refine t_seq ?_
  refine t_region ?_
  refine l_q rfl (q_move rfl) ?_
  refine l_q rfl (q_move rfl) ?_
  apply l_callf rfl rfl rfl (rOrder_ok2 _ _ hh)
  · repeat (first | with_reducible exact .nil | apply Pick.cons | with_reducible exact .here | apply Take.there)
  rintro v L' ⟨rfl, a, cap, rfl, ha, hc1, hc2⟩
  refine l_norm fun M hM => ?_
  try simp only [List.cons_append, List.nil_append, List.append_nil] at hM
  subst M
  refine l_q rfl (q_assign rfl) ?_
  refine l_nil ?_
  refine n_code ?_
  refine t_seq ?_
  refine t_seq ?_
  refine t_region ?_
  refine l_q rfl (q_move rfl) ?_
  apply l_q rfl
  · apply q_bin rfl rfl (fun w => g_int w); exact fun w => b_lss w
  refine l_q rfl (q_move rfl) ?_
  first | refine l_part_d (t := 13) rfl (fun h => ?_) (fun h => ?_) | refine l_part_n (t := 13) rfl (fun h => ?_) (fun h => ?_) | refine l_part (t := 13) rfl (fun h => ?_) (fun h => ?_)
  · refine l_off rfl rfl rfl rfl ?_
    refine l_off rfl rfl rfl rfl ?_
    refine l_off rfl rfl rfl rfl ?_
    refine l_off rfl rfl rfl rfl ?_
    apply l_q rfl
    · first | exact q_pick_t rfl rfl | exact q_pick_f rfl rfl
    refine l_nil ?_
    refine n_code ?_
    refine t_cond_t rfl ?_
    refine t_seq ?_
    refine t_region ?_
    refine l_q rfl (q_assign rfl) ?_
    refine l_nil ?_
    refine n_code ?_
    refine t_ret ?_
    refine r_code ?_
    apply f_ret (.inl rfl) ([])
    · apply res1 rfl
      · exact .tmp rfl
    · exact ⟨by unfold atI; rw [if_neg (by omega)], rfl⟩
    · first | exact Ent.refl _ | ((try push_cast); apply Sel.ent; (repeat (first | apply Sel.cons | with_reducible exact Sel.nil | apply Sel.rest | with_reducible exact Take.here | apply Take.there | exact Drop.refl | apply Drop.skip)))
  · refine l_on rfl rfl ?_
    refine l_q rfl (q_move rfl) ?_
    refine l_on rfl rfl ?_
    refine l_q rfl (q_move rfl) ?_
    refine l_on rfl rfl ?_
    refine l_q rfl (q_len rfl (fun w => len_slice Try.underlying27 w)) ?_
    refine l_on rfl rfl ?_
    apply l_q rfl
    · apply q_bin rfl rfl (fun w => g_int w); exact fun w => b_geq w
    apply l_q rfl
    · first | exact q_pick_t rfl rfl | exact q_pick_f rfl rfl
    refine l_nil ?_
    refine n_code ?_
    first | refine t_cond_d rfl (fun k => ?_) (fun k => ?_) | refine t_cond_n rfl (fun k => ?_) (fun k => ?_) | refine t_cond rfl (fun k => ?_) (fun k => ?_)
    · refine t_seq ?_
      refine t_region ?_
      refine l_q rfl (q_assign rfl) ?_
      refine l_nil ?_
      refine n_code ?_
      refine t_ret ?_
      refine r_code ?_
      apply f_ret (.inl rfl) ([])
      · apply res1 rfl
        · exact .tmp rfl
      · exact ⟨by unfold atI; rw [if_neg (by omega)], rfl⟩
      · first | exact Ent.refl _ | ((try push_cast); apply Sel.ent; (repeat (first | apply Sel.cons | with_reducible exact Sel.nil | apply Sel.rest | with_reducible exact Take.here | apply Take.there | exact Drop.refl | apply Drop.skip)))
    · obtain ⟨g, rfl⟩ := ha (by omega)
      refine t_skip ?_
      refine n_code ?_
      refine t_seq ?_
      refine t_region ?_
      refine l_q rfl (q_move rfl) ?_
      refine l_q rfl (q_move rfl) ?_
      refine l_q rfl (q_indexAddr1 rfl rfl Try.underlying27 ty_size3 (by omega)) ?_
      apply l_q rfl
      · apply q_loadOwn rfl ty_agg3
        · repeat (first | with_reducible exact .here | apply Take.there)
        · rw [wayV_at (by omega)]
      refine l_q rfl (q_assign rfl) ?_
      refine l_nil ?_
      refine n_code ?_
      refine t_ret ?_
      apply f_ret (.inl rfl) ([])
      · apply res1 rfl
        · exact .tmp rfl
      · exact ⟨by unfold atI; rw [if_pos ⟨by omega, by omega⟩, Nat.zero_add], rfl⟩
      · first | exact Ent.refl _ | ((try push_cast); apply Sel.ent; (repeat (first | apply Sel.cons | with_reducible exact Sel.nil | apply Sel.rest | with_reducible exact Take.here | apply Take.there | exact Drop.refl | apply Drop.skip)))

theorem rStart_ok (home groups : Int) (hh : 0 ≤ home ∧ home < 18446744073709551616) :
    FnOk Try.prog 15 #[.int .u64 home, .int .i64 groups] [] (fun v L => v = .int .i64 (atI home groups 0) ∧ L = []) := by
  refine fn_intro en15 Try.func15 rfl rfl rfl ?_
  intro Fr w0
  refine t_norm fun M hM => ?_
  try simp only [List.cons_append, List.nil_append, List.append_nil] at hM
  subst M
  refine t_seq ?_
  refine t_region ?_
  refine l_q rfl (q_assign rfl) ?_
  refine l_nil ?_
  refine n_code ?_
  refine t_seq ?_
  refine t_region ?_
  refine l_q rfl (q_move rfl) ?_
  refine l_q rfl (q_move rfl) ?_
  apply l_callf rfl rfl rfl (rAt_ok _ _ _ hh)
  · repeat (first | with_reducible exact .nil | apply Pick.cons | with_reducible exact .here | apply Take.there)
  rintro v L' ⟨rfl, rfl⟩
  refine l_norm fun M hM => ?_
  try simp only [List.cons_append, List.nil_append, List.append_nil] at hM
  subst M
  refine l_q rfl (q_assign rfl) ?_
  refine l_nil ?_
  refine n_code ?_
  refine t_ret ?_
  apply f_ret (.inl rfl) ([])
  · apply res1 rfl
    · exact .tmp rfl
  · exact ⟨rfl, rfl⟩
  · first | exact Ent.refl _ | ((try push_cast); apply Sel.ent; (repeat (first | apply Sel.cons | with_reducible exact Sel.nil | apply Sel.rest | with_reducible exact Take.here | apply Take.there | exact Drop.refl | apply Drop.skip)))

theorem rSteps_ok (home groups g : Int) (hh : 0 ≤ home ∧ home < 18446744073709551616) :
    FnOk Try.prog 18 #[.int .u64 home, .int .i64 groups, .int .i64 g] [] (fun v L => v = .int .i64 (stI home groups g) ∧ L = []) := by
  have hle := grp_le groups
  refine fn_intro en18 Try.func18 rfl rfl rfl ?_
  intro Fr w0
  refine t_norm fun M hM => ?_
  try simp only [List.cons_append, List.nil_append, List.append_nil] at hM
  subst M
  refine t_seq ?_
  refine t_region ?_
  refine l_q rfl (q_assign rfl) ?_
  refine l_nil ?_
  refine n_code ?_
  refine t_seq ?_
  refine t_region ?_
  refine l_q rfl (q_move rfl) ?_
  refine l_q rfl (q_move rfl) ?_
  apply l_callf rfl rfl rfl (rOrder_ok2 _ _ hh)
  · repeat (first | with_reducible exact .nil | apply Pick.cons | with_reducible exact .here | apply Take.there)
  rintro v L' ⟨rfl, a, cap, rfl, ha, hc1, hc2⟩
  refine l_norm fun M hM => ?_
  try simp only [List.cons_append, List.nil_append, List.append_nil] at hM
  subst M
  refine l_q rfl (q_assign rfl) ?_
  refine l_nil ?_
  refine n_code ?_
  refine t_seq ?_
  refine t_seq ?_
  refine t_region ?_
  refine l_q rfl (q_assign rfl) ?_
  refine l_nil ?_
  refine n_code ?_
  refine t_block ?_
  refine t_loop (fun k : Nat => k ≤ grp groups ∧ ∀ j, j < k → ord home (grp groups) j ≠ g) (fun k => [(2, .int .i64 g), (7, .slice a (grp groups) cap), (8, .int .i64 k)]) (fun k => ownS 3 1 (.slice a (grp groups) cap) (grp groups) (wayV home (grp groups) (grp groups)) :: Fr) (fun k => grp groups - k) 0 ⟨by omega, by omega⟩ ⟨rfl, rfl, rfl, trivial⟩ (Ent.refl _) ?_
  rintro k ⟨hk, hno⟩
  refine t_seq ?_
  refine t_seq ?_
  refine t_region ?_
  refine l_q rfl (q_move rfl) ?_
  refine l_q rfl (q_move rfl) ?_
  refine l_q rfl (q_len rfl (fun w => len_slice Try.underlying27 w)) ?_
  apply l_q rfl
  · apply q_bin rfl rfl (fun w => g_int w); exact fun w => b_lss w
  refine l_nil ?_
  refine n_code ?_
  first | refine t_cond_d rfl (fun h => ?_) (fun h => ?_) | refine t_cond_n rfl (fun h => ?_) (fun h => ?_) | refine t_cond rfl (fun h => ?_) (fun h => ?_)
  · obtain ⟨b, rfl⟩ := ha (by omega)
    refine t_skip ?_
    refine n_code ?_
    refine t_seq ?_
    refine t_block ?_
    refine t_seq ?_
    refine t_region ?_
    refine l_q rfl (q_move rfl) ?_
    refine l_q rfl (q_move rfl) ?_
    refine l_q rfl (q_indexAddr1 rfl rfl Try.underlying27 ty_size3 (by omega)) ?_
    apply l_q rfl
    · apply q_loadOwn rfl ty_agg3
      · repeat (first | with_reducible exact .here | apply Take.there)
      · rw [wayV_at (by omega)]
    refine l_q rfl (q_move rfl) ?_
    apply l_q rfl
    · apply q_bin rfl rfl (fun w => g_int w); exact fun w => b_eql w
    refine l_nil ?_
    refine n_code ?_
    rw [show 0 + ((k : Nat) : Int).toNat = k by omega]
    first | refine t_cond_d rfl (fun q => ?_) (fun q => ?_) | refine t_cond_n rfl (fun q => ?_) (fun q => ?_) | refine t_cond rfl (fun q => ?_) (fun q => ?_)
    · refine t_seq ?_
      refine t_region ?_
      refine l_q rfl (q_move rfl) ?_
      refine l_q rfl (q_assign rfl) ?_
      refine l_nil ?_
      refine n_code ?_
      refine t_ret ?_
      refine r_blk ?_
      refine r_code ?_
      refine r_lp ?_
      refine r_blk ?_
      refine r_code ?_
      apply f_ret (.inl rfl) ([])
      · apply res1 rfl
        · exact .tmp rfl
      · exact ⟨by rw [stI_hit (k := k) (by omega) q hno], rfl⟩
      · first | exact Ent.refl _ | ((try push_cast); apply Sel.ent; (repeat (first | apply Sel.cons | with_reducible exact Sel.nil | apply Sel.rest | with_reducible exact Take.here | apply Take.there | exact Drop.refl | apply Drop.skip)))
    · refine t_skip ?_
      refine n_blk ?_
      refine n_code ?_
      refine t_region ?_
      refine l_q rfl (q_move rfl) ?_
      apply l_q rfl
      · apply q_bin rfl rfl (fun w => g_int w); first | exact fun w => b_add_i w (by omega) | exact fun w => b_add w
      refine l_q rfl (q_assign rfl) ?_
      refine l_nil ?_
      apply n_again ((k + 1))
      · exact ⟨by omega, fun j hj => by by_cases hjk : j = k; (subst hjk; exact q); exact hno j (by omega)⟩
      · omega
      · exact ⟨rfl, rfl, rfl, trivial⟩
      · first | exact Ent.refl _ | ((try push_cast); apply Sel.ent; (repeat (first | apply Sel.cons | with_reducible exact Sel.nil | apply Sel.rest | with_reducible exact Take.here | apply Take.there | exact Drop.refl | apply Drop.skip)))
  · refine t_exit ?_
    refine x_code ?_
    refine x_lp ?_
    refine x_hit ?_
    refine n_code ?_
    refine t_seq ?_
    refine t_region ?_
    refine l_q rfl (q_assign rfl) ?_
    refine l_nil ?_
    refine n_code ?_
    refine t_ret ?_
    apply f_ret (.inl rfl) ([])
    · apply res1 rfl
      · exact .tmp rfl
    · exact ⟨by rw [stI_miss (fun j hj => hno j (by omega))], rfl⟩
    · first | exact Ent.refl _ | ((try push_cast); apply Sel.ent; (repeat (first | apply Sel.cons | with_reducible exact Sel.nil | apply Sel.rest | with_reducible exact Take.here | apply Take.there | exact Drop.refl | apply Drop.skip)))

theorem ProbeSteps_ok (home groups n g : Int) (hh : 0 ≤ home ∧ home < 18446744073709551616) :
    FnOk Try.prog 6 #[.int .u64 home, .int .i64 groups, .int .i64 n, .int .i64 g] [] (fun v L => v = .bool true ∧ L = []) := by
  refine fn_intro en6 Try.func6 rfl rfl rfl ?_
  intro Fr w0
  refine t_norm fun M hM => ?_
  try simp only [List.cons_append, List.nil_append, List.append_nil] at hM
  subst M
  refine t_seq ?_
  refine t_region ?_
  refine l_q rfl (q_assign rfl) ?_
  refine l_nil ?_
  refine n_code ?_
  refine t_seq ?_
  refine t_seq ?_
  refine t_region ?_
  refine l_q rfl (q_move rfl) ?_
  refine l_q rfl (q_move rfl) ?_
  apply l_callf rfl rfl rfl (Start_ok _ _ hh)
  · repeat (first | with_reducible exact .nil | apply Pick.cons | with_reducible exact .here | apply Take.there)
  rintro v L' ⟨rfl, rfl⟩
  refine l_norm fun M hM => ?_
  try simp only [List.cons_append, List.nil_append, List.append_nil] at hM
  subst M
  refine l_q rfl (q_move rfl) ?_
  refine l_q rfl (q_move rfl) ?_
  apply l_callf rfl rfl rfl (rStart_ok _ _ hh)
  · repeat (first | with_reducible exact .nil | apply Pick.cons | with_reducible exact .here | apply Take.there)
  rintro v L' ⟨rfl, rfl⟩
  refine l_norm fun M hM => ?_
  try simp only [List.cons_append, List.nil_append, List.append_nil] at hM
  subst M
  apply l_q rfl
  · apply q_bin rfl rfl (fun w => g_int w); exact fun w => b_neq w
  refine l_nil ?_
  refine n_code ?_
  first | refine t_cond_d rfl (fun h => ?_) (fun h => ?_) | refine t_cond_n rfl (fun h => ?_) (fun h => ?_) | refine t_cond rfl (fun h => ?_) (fun h => ?_)
  · refine t_seq ?_
    refine t_region ?_
    refine l_q rfl (q_assign rfl) ?_
    refine l_nil ?_
    refine n_code ?_
    refine t_ret ?_
    refine r_code ?_
    exact absurd rfl h
  · refine t_skip ?_
    refine n_code ?_
    refine t_seq ?_
    refine t_region ?_
    refine l_q rfl (q_move rfl) ?_
    refine l_q rfl (q_move rfl) ?_
    refine l_q rfl (q_move rfl) ?_
    apply l_callf rfl rfl rfl (At_ok _ _ _ hh)
    · repeat (first | with_reducible exact .nil | apply Pick.cons | with_reducible exact .here | apply Take.there)
    rintro v L' ⟨rfl, rfl⟩
    refine l_norm fun M hM => ?_
    try simp only [List.cons_append, List.nil_append, List.append_nil] at hM
    subst M
    refine l_q rfl (q_move rfl) ?_
    refine l_q rfl (q_move rfl) ?_
    refine l_q rfl (q_move rfl) ?_
    apply l_callf rfl rfl rfl (rAt_ok _ _ _ hh)
    · repeat (first | with_reducible exact .nil | apply Pick.cons | with_reducible exact .here | apply Take.there)
    rintro v L' ⟨rfl, rfl⟩
    refine l_norm fun M hM => ?_
    try simp only [List.cons_append, List.nil_append, List.append_nil] at hM
    subst M
    apply l_q rfl
    · apply q_bin rfl rfl (fun w => g_int w); exact fun w => b_eql w
    refine l_q rfl (q_move rfl) ?_
    first | refine l_part_d (t := 25) rfl (fun k => ?_) (fun k => ?_) | refine l_part_n (t := 25) rfl (fun k => ?_) (fun k => ?_) | refine l_part (t := 25) rfl (fun k => ?_) (fun k => ?_)
    · refine l_on rfl rfl ?_
      refine l_q rfl (q_move rfl) ?_
      refine l_on rfl rfl ?_
      refine l_q rfl (q_move rfl) ?_
      refine l_on rfl rfl ?_
      refine l_q rfl (q_move rfl) ?_
      refine l_on rfl rfl ?_
      apply l_callf rfl rfl rfl (Steps_ok _ _ _ hh)
      · repeat (first | with_reducible exact .nil | apply Pick.cons | with_reducible exact .here | apply Take.there)
      rintro v L' ⟨rfl, rfl⟩
      refine l_norm fun M hM => ?_
      try simp only [List.cons_append, List.nil_append, List.append_nil] at hM
      subst M
      refine l_on rfl rfl ?_
      refine l_q rfl (q_move rfl) ?_
      refine l_on rfl rfl ?_
      refine l_q rfl (q_move rfl) ?_
      refine l_on rfl rfl ?_
      refine l_q rfl (q_move rfl) ?_
      refine l_on rfl rfl ?_
      apply l_callf rfl rfl rfl (rSteps_ok _ _ _ hh)
      · repeat (first | with_reducible exact .nil | apply Pick.cons | with_reducible exact .here | apply Take.there)
      rintro v L' ⟨rfl, rfl⟩
      refine l_norm fun M hM => ?_
      try simp only [List.cons_append, List.nil_append, List.append_nil] at hM
      subst M
      refine l_on rfl rfl ?_
      apply l_q rfl
      · apply q_bin rfl rfl (fun w => g_int w); exact fun w => b_eql w
      apply l_q rfl
      · first | exact q_pick_t rfl rfl | exact q_pick_f rfl rfl
      refine l_q rfl (q_assign rfl) ?_
      refine l_nil ?_
      refine n_code ?_
      refine t_ret ?_
      apply f_ret (.inl rfl) ([])
      · apply res1 rfl
        · exact .tmp rfl
      · exact ⟨by simp, rfl⟩
      · first | exact Ent.refl _ | ((try push_cast); apply Sel.ent; (repeat (first | apply Sel.cons | with_reducible exact Sel.nil | apply Sel.rest | with_reducible exact Take.here | apply Take.there | exact Drop.refl | apply Drop.skip)))
    · refine l_off rfl rfl rfl rfl ?_
      refine l_off rfl rfl rfl rfl ?_
      refine l_off rfl rfl rfl rfl ?_
      refine l_off rfl rfl rfl rfl ?_
      refine l_off rfl rfl rfl rfl ?_
      refine l_off rfl rfl rfl rfl ?_
      refine l_off rfl rfl rfl rfl ?_
      refine l_off rfl rfl rfl rfl ?_
      refine l_off rfl rfl rfl rfl ?_
      apply l_q rfl
      · first | exact q_pick_t rfl rfl | exact q_pick_f rfl rfl
      refine l_q rfl (q_assign rfl) ?_
      refine l_nil ?_
      refine n_code ?_
      refine t_ret ?_
      exact absurd rfl k
end Go.Proofs.Ytbooplbhlmiihaa.Probe
