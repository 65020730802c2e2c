/- The contracts of package probe, continued: sizes; and of the reference of layer 7. -/
import Derived.Test.YtbooplbhlmiihaaProbe
set_option linter.unusedVariables false
set_option linter.unusedSimpArgs false
set_option maxRecDepth 100000
namespace Go.Proofs.Ytbooplbhlmiihaa.Probe
open Go.RowKit Go.Proofs Go.Proofs.Ytbooplbhlmiihaa.Eng Go.Proofs.Ytbooplbhlmiihaa.Ty Go.Proofs.Ytbooplbhlmiihaa.Bits

def mostI (s : Int) : Int := if powB s 8 65536 then s - s / 8 else 0
theorem powB_le {n lo hi : Int} (h : powB n lo hi = true) : lo ≤ n ∧ n ≤ hi := by simp only [powB, Bool.and_eq_true, decide_eq_true_eq] at h; omega

theorem Most_ok (s : Int) : FnOk Try.prog 19 #[.int .i64 s] [] (fun v L => v = .int .i64 (mostI s) ∧ L = []) := by
  refine fn_intro en19 Try.func19 rfl rfl rfl ?_
  intro Fr w0
  refine t_norm fun M hM => ?_
  try simp only [List.cons_append, List.nil_append, List.append_nil] at hM
  subst M
  refine t_seq ?_
  refine t_region ?_
  refine l_q rfl (q_assign rfl) ?_
  refine l_nil ?_
  refine n_code ?_
  refine t_seq ?_
  refine t_seq ?_
  refine t_region ?_
  refine l_q rfl (q_move rfl) ?_
  apply l_callf rfl rfl rfl (power_ok _ _ _ (by omega) (by omega))
  · repeat (first | with_reducible exact .nil | apply Pick.cons | with_reducible exact .here | apply Take.there)
  rintro v L' ⟨rfl, rfl⟩
  refine l_norm fun M hM => ?_
  try simp only [List.cons_append, List.nil_append, List.append_nil] at hM
  subst M
  refine l_q rfl (q_un rfl (fun w => u_not w)) ?_
  refine l_nil ?_
  refine n_code ?_
  first | refine t_cond_d rfl (fun h => ?_) (fun h => ?_) | refine t_cond_n rfl (fun h => ?_) (fun h => ?_) | refine t_cond rfl (fun h => ?_) (fun h => ?_)
  · refine t_seq ?_
    refine t_region ?_
    refine l_q rfl (q_assign rfl) ?_
    refine l_nil ?_
    refine n_code ?_
    refine t_ret ?_
    refine r_code ?_
    apply f_ret (.inl rfl) ([])
    · apply res1 rfl
      · exact .tmp rfl
    · exact ⟨by unfold mostI; rw [show powB s 8 65536 = false by simpa using h]; rfl, rfl⟩
    · first | exact Ent.refl _ | ((try push_cast); apply Sel.ent; (repeat (first | apply Sel.cons | with_reducible exact Sel.nil | apply Sel.rest | with_reducible exact Take.here | apply Take.there | exact Drop.refl | apply Drop.skip)))
  · have hb := powB_le (show powB s 8 65536 = true by simpa using h)
    refine t_skip ?_
    refine n_code ?_
    refine t_seq ?_
    refine t_region ?_
    refine l_q rfl (q_move rfl) ?_
    refine l_q rfl (q_move rfl) ?_
    apply l_q rfl
    · apply q_bin rfl rfl (fun w => g_int w); first | exact fun w => b_quo_i w (by omega) | exact fun w => b_quo w (by omega)
    apply l_q rfl
    · apply q_bin rfl rfl (fun w => g_int w); first | exact fun w => b_sub_i w (by omega) | exact fun w => b_sub w
    refine l_q rfl (q_assign rfl) ?_
    refine l_nil ?_
    refine n_code ?_
    refine t_ret ?_
    apply f_ret (.inl rfl) ([])
    · apply res1 rfl
      · exact .tmp rfl
    · exact ⟨by unfold mostI; rw [show powB s 8 65536 = true by simpa using h]; rfl, rfl⟩
    · first | exact Ent.refl _ | ((try push_cast); apply Sel.ent; (repeat (first | apply Sel.cons | with_reducible exact Sel.nil | apply Sel.rest | with_reducible exact Take.here | apply Take.there | exact Drop.refl | apply Drop.skip)))

/-- How many bits. -/
def blen (x : Int) : Nat := if x = 0 then 0 else Nat.log2 x.toNat + 1
def tabS : ByteArray := (⟨#[0, 1, 2, 2, 3, 3, 3, 3, 4, 4, 4, 4, 4, 4, 4, 4, 5, 5, 5, 5, 5, 5, 5, 5, 5, 5, 5, 5, 5, 5, 5, 5, 6, 6, 6, 6, 6, 6, 6, 6, 6, 6, 6, 6, 6, 6, 6, 6, 6, 6, 6, 6, 6, 6, 6, 6, 6, 6, 6, 6, 6, 6, 6, 6, 7, 7, 7, 7, 7, 7, 7, 7, 7, 7, 7, 7, 7, 7, 7, 7, 7, 7, 7, 7, 7, 7, 7, 7, 7, 7, 7, 7, 7, 7, 7, 7, 7, 7, 7, 7, 7, 7, 7, 7, 7, 7, 7, 7, 7, 7, 7, 7, 7, 7, 7, 7, 7, 7, 7, 7, 7, 7, 7, 7, 7, 7, 7, 7, 8, 8, 8, 8, 8, 8, 8, 8, 8, 8, 8, 8, 8, 8, 8, 8, 8, 8, 8, 8, 8, 8, 8, 8, 8, 8, 8, 8, 8, 8, 8, 8, 8, 8, 8, 8, 8, 8, 8, 8, 8, 8, 8, 8, 8, 8, 8, 8, 8, 8, 8, 8, 8, 8, 8, 8, 8, 8, 8, 8, 8, 8, 8, 8, 8, 8, 8, 8, 8, 8, 8, 8, 8, 8, 8, 8, 8, 8, 8, 8, 8, 8, 8, 8, 8, 8, 8, 8, 8, 8, 8, 8, 8, 8, 8, 8, 8, 8, 8, 8, 8, 8, 8, 8, 8, 8, 8, 8, 8, 8, 8, 8, 8, 8, 8, 8, 8, 8, 8, 8, 8, 8, 8, 8, 8, 8, 8, 8]⟩ : ByteArray)
theorem tab8 : ∀ i : Fin 256, tabS[i.val]? = some (UInt8.ofNat (blen (i.val : Int))) ∧ blen (i.val : Int) ≤ 8 := by decide +kernel
theorem tabAt {i : Int} (h0 : 0 ≤ i) (h1 : i < 256) : ∃ u : UInt8, tabS[i.toNat]? = some u ∧ (u.toNat : Int) = blen i := by
  have := tab8 ⟨i.toNat, by omega⟩
  have e : ((i.toNat : Nat) : Int) = i := by omega
  simp only [e] at this
  exact ⟨_, this.1, by rw [UInt8.toNat_ofNat']; omega⟩
theorem blen_shift {x : Int} (h0 : 256 ≤ x) : blen x = 8 + blen (x / 256) := by
  obtain ⟨n, rfl⟩ := Int.eq_ofNat_of_zero_le (by omega : 0 ≤ x)
  have h1 : n / 256 ≠ 0 := by omega
  have e : ((n : Int) / 256).toNat = n / 256 := by omega
  unfold blen
  rw [if_neg (by omega), if_neg (by omega), e, Int.toNat_natCast]
  have : Nat.log2 n = Nat.log2 (n / 256) + 8 := by
    have a1 := Nat.log2_self_le h1
    have a2 := Nat.lt_log2_self (n := n / 256)
    rw [Nat.log2_eq_iff (by omega)]
    generalize Nat.log2 (n / 256) = l at a1 a2 ⊢
    have b1 : 2 ^ (l + 8) = 2 ^ l * 256 := Nat.pow_add 2 l 8
    have b2 : 2 ^ (l + 8 + 1) = 2 ^ l * 512 := Nat.pow_add 2 l 9
    have b3 : 2 ^ (l + 1) = 2 ^ l * 2 := Nat.pow_add 2 l 1
    omega
  omega

theorem Len64_ok (x : Int) (h0 : 0 ≤ x) (h1 : x < 65536) : FnOk Try.prog 28 #[.int .u64 x] [] (fun v L => v = .int .i64 (blen x) ∧ L = []) := by
  refine fn_intro en28 Try.func28 rfl rfl rfl ?_
  intro Fr w0
  refine t_norm fun M hM => ?_
  try simp only [List.cons_append, List.nil_append, List.append_nil] at hM
  subst M
  refine t_seq ?_
  refine t_region ?_
  refine l_q rfl (q_assign rfl) ?_
  refine l_nil ?_
  refine n_code ?_
  refine t_seq ?_
  refine t_seq ?_
  refine t_region ?_
  refine l_q rfl (q_move rfl) ?_
  apply l_q rfl
  · apply q_bin rfl rfl (fun w => g_int w); exact fun w => b_geq w
  refine l_nil ?_
  refine n_code ?_
  first | refine t_cond_d rfl (fun a => ?_) (fun a => ?_) | refine t_cond_n rfl (fun a => ?_) (fun a => ?_) | refine t_cond rfl (fun a => ?_) (fun a => ?_)
  · refine t_seq ?_
    refine t_region ?_
    refine l_q rfl (q_move rfl) ?_
    apply l_q rfl
    · apply q_bin rfl rfl (fun w => g_int w); first | exact fun w => b_shr_c (m := 4294967296) w (by decide) (by decide) (by omega) | exact fun w => b_shr w (by decide)
    refine l_q rfl (q_assign rfl) ?_
    refine l_nil ?_
    refine n_code ?_
    refine t_region ?_
    refine l_q rfl (q_assign rfl) ?_
    refine l_nil ?_
    refine n_code ?_
    refine t_seq ?_
    refine t_seq ?_
    refine t_region ?_
    refine l_q rfl (q_move rfl) ?_
    apply l_q rfl
    · apply q_bin rfl rfl (fun w => g_int w); exact fun w => b_geq w
    refine l_nil ?_
    refine n_code ?_
    exact absurd a (by omega)
  · refine t_skip ?_
    refine n_code ?_
    refine t_seq ?_
    refine t_seq ?_
    refine t_region ?_
    refine l_q rfl (q_move rfl) ?_
    apply l_q rfl
    · apply q_bin rfl rfl (fun w => g_int w); exact fun w => b_geq w
    refine l_nil ?_
    refine n_code ?_
    first | refine t_cond_d rfl (fun b => ?_) (fun b => ?_) | refine t_cond_n rfl (fun b => ?_) (fun b => ?_) | refine t_cond rfl (fun b => ?_) (fun b => ?_)
    · refine t_seq ?_
      refine t_region ?_
      refine l_q rfl (q_move rfl) ?_
      apply l_q rfl
      · apply q_bin rfl rfl (fun w => g_int w); first | exact fun w => b_shr_c (m := 65536) w (by decide) (by decide) (by omega) | exact fun w => b_shr w (by decide)
      refine l_q rfl (q_assign rfl) ?_
      refine l_nil ?_
      refine n_code ?_
      refine t_region ?_
      refine l_q rfl (q_move rfl) ?_
      apply l_q rfl
      · apply q_bin rfl rfl (fun w => g_int w); first | exact fun w => b_add_i w (by omega) | exact fun w => b_add w
      refine l_q rfl (q_assign rfl) ?_
      refine l_nil ?_
      refine n_code ?_
      refine t_seq ?_
      refine t_seq ?_
      refine t_region ?_
      refine l_q rfl (q_move rfl) ?_
      apply l_q rfl
      · apply q_bin rfl rfl (fun w => g_int w); exact fun w => b_geq w
      refine l_nil ?_
      refine n_code ?_
      exact absurd b (by omega)
    · refine t_skip ?_
      refine n_code ?_
      refine t_seq ?_
      refine t_seq ?_
      refine t_region ?_
      refine l_q rfl (q_move rfl) ?_
      apply l_q rfl
      · apply q_bin rfl rfl (fun w => g_int w); exact fun w => b_geq w
      refine l_nil ?_
      refine n_code ?_
      obtain ⟨u, hu1, hu2⟩ := tabAt (i := if 256 ≤ x then x / 256 else x) (by split <;> omega) (by split <;> omega)
      have hu3 := u.toNat_lt
      first | refine t_cond_d rfl (fun k => ?_) (fun k => ?_) | refine t_cond_n rfl (fun k => ?_) (fun k => ?_) | refine t_cond rfl (fun k => ?_) (fun k => ?_)
      · rw [if_pos k] at hu1 hu2
        have hl := blen_shift k
        refine t_seq ?_
        refine t_region ?_
        refine l_q rfl (q_move rfl) ?_
        apply l_q rfl
        · apply q_bin rfl rfl (fun w => g_int w); first | exact fun w => b_shr_c (m := 256) w (by decide) (by decide) (by omega) | exact fun w => b_shr w (by decide)
        refine l_q rfl (q_assign rfl) ?_
        refine l_nil ?_
        refine n_code ?_
        refine t_region ?_
        refine l_q rfl (q_move rfl) ?_
        apply l_q rfl
        · apply q_bin rfl rfl (fun w => g_int w); first | exact fun w => b_add_i w (by omega) | exact fun w => b_add w
        refine l_q rfl (q_assign rfl) ?_
        refine l_nil ?_
        refine n_code ?_
        refine t_seq ?_
        refine t_region ?_
        refine l_q rfl (q_move rfl) ?_
        refine l_q rfl (q_move rfl) ?_
        apply l_q rfl
        · apply q_conv rfl; first | exact fun w => c_int_b w Try.underlying22 Try.underlying5 (by omega) | exact fun w => c_int w Try.underlying22 Try.underlying5
        apply l_q rfl
        · apply q_indexSv rfl rfl Try.underlying9 (by omega)
          exact hu1
        apply l_q rfl
        · apply q_conv rfl; first | exact fun w => c_int_i w Try.underlying5 Try.underlying3 (by omega) | exact fun w => c_int w Try.underlying5 Try.underlying3
        apply l_q rfl
        · apply q_bin rfl rfl (fun w => g_int w); first | exact fun w => b_add_i w (by omega) | exact fun w => b_add w
        refine l_q rfl (q_assign rfl) ?_
        refine l_nil ?_
        refine n_code ?_
        refine t_ret ?_
        apply f_ret (.inl rfl) ([])
        · apply res1 rfl
          · exact .tmp rfl
        · exact ⟨by rw [hl]; congr 1; omega, rfl⟩
        · first | exact Ent.refl _ | ((try push_cast); apply Sel.ent; (repeat (first | apply Sel.cons | with_reducible exact Sel.nil | apply Sel.rest | with_reducible exact Take.here | apply Take.there | exact Drop.refl | apply Drop.skip)))
      · rw [if_neg k] at hu1 hu2
        refine t_skip ?_
        refine n_code ?_
        refine t_seq ?_
        refine t_region ?_
        refine l_q rfl (q_move rfl) ?_
        refine l_q rfl (q_move rfl) ?_
        apply l_q rfl
        · apply q_conv rfl; first | exact fun w => c_int_b w Try.underlying22 Try.underlying5 (by omega) | exact fun w => c_int w Try.underlying22 Try.underlying5
        apply l_q rfl
        · apply q_indexSv rfl rfl Try.underlying9 (by omega)
          exact hu1
        apply l_q rfl
        · apply q_conv rfl; first | exact fun w => c_int_i w Try.underlying5 Try.underlying3 (by omega) | exact fun w => c_int w Try.underlying5 Try.underlying3
        apply l_q rfl
        · apply q_bin rfl rfl (fun w => g_int w); first | exact fun w => b_add_i w (by omega) | exact fun w => b_add w
        refine l_q rfl (q_assign rfl) ?_
        refine l_nil ?_
        refine n_code ?_
        refine t_ret ?_
        apply f_ret (.inl rfl) ([])
        · apply res1 rfl
          · exact .tmp rfl
        · exact ⟨by congr 1; omega, rfl⟩
        · first | exact Ent.refl _ | ((try push_cast); apply Sel.ent; (repeat (first | apply Sel.cons | with_reducible exact Sel.nil | apply Sel.rest | with_reducible exact Take.here | apply Take.there | exact Drop.refl | apply Drop.skip)))

theorem Len_ok (x : Int) (h0 : 0 ≤ x) (h1 : x < 65536) : FnOk Try.prog 26 #[.int .u64 x] [] (fun v L => v = .int .i64 (blen x) ∧ L = []) := by
  refine fn_intro en26 Try.func26 rfl rfl rfl ?_
  intro Fr w0
  refine t_norm fun M hM => ?_
  try simp only [List.cons_append, List.nil_append, List.append_nil] at hM
  subst M
  refine t_seq ?_
  refine t_region ?_
  refine l_q rfl (q_assign rfl) ?_
  refine l_nil ?_
  refine n_code ?_
  refine t_seq ?_
  refine t_cond_f rfl ?_
  refine t_skip ?_
  refine n_code ?_
  refine t_seq ?_
  refine t_region ?_
  refine l_q rfl (q_move rfl) ?_
  apply l_callf rfl rfl rfl (Len64_ok x h0 h1)
  · repeat (first | with_reducible exact .nil | apply Pick.cons | with_reducible exact .here | apply Take.there)
  rintro v L' ⟨rfl, rfl⟩
  refine l_norm fun M hM => ?_
  try simp only [List.cons_append, List.nil_append, List.append_nil] at hM
  subst M
  refine l_q rfl (q_assign rfl) ?_
  refine l_nil ?_
  refine n_code ?_
  refine t_ret ?_
  apply f_ret (.inl rfl) ([])
  · apply res1 rfl
    · exact .tmp rfl
  · exact ⟨rfl, rfl⟩
  · first | exact Ent.refl _ | ((try push_cast); apply Sel.ent; (repeat (first | apply Sel.cons | with_reducible exact Sel.nil | apply Sel.rest | with_reducible exact Take.here | apply Take.there | exact Drop.refl | apply Drop.skip)))

/-- The least table that holds n keys, s slots; 0: there is none. -/
def LeastS (n s : Int) : Prop := ((n < 0 ∨ 57344 < n) ∧ s = 0) ∨ (0 ≤ n ∧ n ≤ 57344 ∧ ∃ k : Nat, k ≤ 13 ∧ s = 8 * 2 ^ k ∧ n ≤ 7 * 2 ^ k ∧ (k = 0 ∨ 7 * 2 ^ k < 2 * n))

theorem pow_step (k : Nat) : (2 : Int) ^ (k + 1) = 2 * 2 ^ k := by rw [Int.pow_succ]; omega
theorem pow_pos2 (k : Nat) : (1 : Int) ≤ 2 ^ k := by have := pow_cast k; have := Nat.two_pow_pos k; omega
theorem pow_le2 {j k : Nat} (h : j ≤ k) : (2 : Int) ^ j ≤ 2 ^ k := by
  have a := pow_cast j; have b := pow_cast k
  have : 2 ^ j ≤ 2 ^ k := Nat.pow_le_pow_right (by decide) h
  omega
theorem powB8 (n : Int) : powB n 8 65536 = true ↔ ∃ k : Nat, k ≤ 13 ∧ n = 8 * 2 ^ k := by
  have := powB_iff n 8 3 16 65536 (by decide) (by decide) (by decide)
  refine this.trans ⟨fun ⟨k, a, b, e⟩ => ⟨k - 3, by omega, ?_⟩, fun ⟨k, a, e⟩ => ⟨k + 3, by omega, by omega, by rw [e, Int.pow_add]; omega⟩⟩
  rw [e]
  have : (2 : Int) ^ (k - 3 + 3) = 2 ^ (k - 3) * 2 ^ 3 := Int.pow_add 2 (k - 3) 3
  rw [show k - 3 + 3 = k by omega] at this
  rw [this]; omega
theorem most8 (k : Nat) (h : k ≤ 13) : mostI (8 * 2 ^ k) = 7 * 2 ^ k := by
  unfold mostI
  rw [(powB8 _).2 ⟨k, h, rfl⟩]
  simp only [if_true]
  omega
theorem LeastS.uniq {n s t : Int} (h : LeastS n s) (k : LeastS n t) : s = t := by
  rcases h with ⟨h1, rfl⟩ | ⟨h1, h2, j, hj, rfl, h3, h4⟩
  · rcases k with ⟨_, rfl⟩ | ⟨k1, k2, _⟩
    · rfl
    · omega
  · rcases k with ⟨k1, rfl⟩ | ⟨_, _, i, hi, rfl, k3, k4⟩
    · omega
    · have : j = i := by
        rcases Nat.lt_trichotomy j i with q | q | q
        · exfalso
          have a := pow_le2 (show j + 1 ≤ i from q)
          rw [pow_step] at a
          omega
        · exact q
        · exfalso
          have a := pow_le2 (show i + 1 ≤ j from q)
          rw [pow_step] at a
          omega
      rw [this]

theorem LeastS.yes {n s : Int} (h : LeastS n s) (h0 : 0 ≤ n) (h1 : n ≤ 57344) : ∃ k : Nat, k ≤ 13 ∧ s = 8 * 2 ^ k ∧ n ≤ 7 * 2 ^ k ∧ (k = 0 ∨ 7 * 2 ^ k < 2 * n) := by
  rcases h with ⟨h2, _⟩ | ⟨_, _, h2⟩
  · omega
  · exact h2
theorem blen_pow {x : Int} (h0 : 1 ≤ x) : (2 : Int) ^ blen x ≤ 2 * x ∧ x < 2 ^ blen x := by
  obtain ⟨n, rfl⟩ := Int.eq_ofNat_of_zero_le (by omega : 0 ≤ x)
  have hn : n ≠ 0 := by omega
  unfold blen
  rw [if_neg (by omega), Int.toNat_natCast]
  have a1 := Nat.log2_self_le hn
  have a2 := Nat.lt_log2_self (n := n)
  have b1 := pow_cast (Nat.log2 n)
  have b2 := pow_cast (Nat.log2 n + 1)
  have b3 := pow_step (Nat.log2 n)
  omega

theorem Slots_ok (n : Int) (hn : -9223372036854775808 ≤ n ∧ n ≤ 9223372036854775807) : FnOk Try.prog 21 #[.int .i64 n] [] (fun v L => (∃ s, v = .int .i64 s ∧ LeastS n s) ∧ L = []) := by
  refine fn_intro en21 Try.func21 rfl rfl rfl ?_
  intro Fr w0
  refine t_norm fun M hM => ?_
  try simp only [List.cons_append, List.nil_append, List.append_nil] at hM
  subst M
  refine t_seq ?_
  refine t_region ?_
  refine l_q rfl (q_assign rfl) ?_
  refine l_nil ?_
  refine n_code ?_
  refine t_seq ?_
  refine t_seq ?_
  refine t_region ?_
  refine l_q rfl (q_move rfl) ?_
  apply l_q rfl
  · apply q_bin rfl rfl (fun w => g_int w); exact fun w => b_lss w
  refine l_q rfl (q_move rfl) ?_
  first | refine l_part_d (t := 6) rfl (fun h => ?_) (fun h => ?_) | refine l_part_n (t := 6) rfl (fun h => ?_) (fun h => ?_) | refine l_part (t := 6) rfl (fun h => ?_) (fun h => ?_)
  · refine l_off rfl rfl rfl rfl ?_
    refine l_off rfl rfl rfl rfl ?_
    refine l_off rfl rfl rfl rfl ?_
    apply l_q rfl
    · first | exact q_pick_t rfl rfl | exact q_pick_f rfl rfl
    refine l_nil ?_
    refine n_code ?_
    refine t_cond_t rfl ?_
    refine t_seq ?_
    refine t_region ?_
    refine l_q rfl (q_assign rfl) ?_
    refine l_nil ?_
    refine n_code ?_
    refine t_ret ?_
    refine r_code ?_
    apply f_ret (.inl rfl) ([])
    · apply res1 rfl
      · exact .tmp rfl
    · exact ⟨⟨_, rfl, .inl ⟨.inl h, rfl⟩⟩, rfl⟩
    · first | exact Ent.refl _ | ((try push_cast); apply Sel.ent; (repeat (first | apply Sel.cons | with_reducible exact Sel.nil | apply Sel.rest | with_reducible exact Take.here | apply Take.there | exact Drop.refl | apply Drop.skip)))
  · refine l_on rfl rfl ?_
    refine l_q rfl (q_move rfl) ?_
    refine l_on rfl rfl ?_
    apply l_callf rfl rfl rfl (Most_ok _)
    · repeat (first | with_reducible exact .nil | apply Pick.cons | with_reducible exact .here | apply Take.there)
    rintro v L' ⟨rfl, rfl⟩
    refine l_norm fun M hM => ?_
    try simp only [List.cons_append, List.nil_append, List.append_nil] at hM
    subst M
    refine l_on rfl rfl ?_
    apply l_q rfl
    · apply q_bin rfl rfl (fun w => g_int w); exact fun w => b_gtr w
    apply l_q rfl
    · first | exact q_pick_t rfl rfl | exact q_pick_f rfl rfl
    refine l_nil ?_
    refine n_code ?_
    have e1 : mostI 65536 = 57344 := most8 13 (by omega)
    have e2 : mostI 8 = 7 := most8 0 (by omega)
    first | refine t_cond_d rfl (fun k => ?_) (fun k => ?_) | refine t_cond_n rfl (fun k => ?_) (fun k => ?_) | refine t_cond rfl (fun k => ?_) (fun k => ?_)
    · rw [e1] at k
      refine t_seq ?_
      refine t_region ?_
      refine l_q rfl (q_assign rfl) ?_
      refine l_nil ?_
      refine n_code ?_
      refine t_ret ?_
      refine r_code ?_
      apply f_ret (.inl rfl) ([])
      · apply res1 rfl
        · exact .tmp rfl
      · exact ⟨⟨_, rfl, .inl ⟨.inr k, rfl⟩⟩, rfl⟩
      · first | exact Ent.refl _ | ((try push_cast); apply Sel.ent; (repeat (first | apply Sel.cons | with_reducible exact Sel.nil | apply Sel.rest | with_reducible exact Take.here | apply Take.there | exact Drop.refl | apply Drop.skip)))
    · rw [e1] at k
      refine t_skip ?_
      refine n_code ?_
      refine t_seq ?_
      refine t_seq ?_
      refine t_region ?_
      refine l_q rfl (q_move rfl) ?_
      apply l_callf rfl rfl rfl (Most_ok _)
      · repeat (first | with_reducible exact .nil | apply Pick.cons | with_reducible exact .here | apply Take.there)
      rintro v L' ⟨rfl, rfl⟩
      refine l_norm fun M hM => ?_
      try simp only [List.cons_append, List.nil_append, List.append_nil] at hM
      subst M
      apply l_q rfl
      · apply q_bin rfl rfl (fun w => g_int w); exact fun w => b_leq w
      refine l_nil ?_
      refine n_code ?_
      first | refine t_cond_d rfl (fun m => ?_) (fun m => ?_) | refine t_cond_n rfl (fun m => ?_) (fun m => ?_) | refine t_cond rfl (fun m => ?_) (fun m => ?_)
      · rw [e2] at m
        refine t_seq ?_
        refine t_region ?_
        refine l_q rfl (q_assign rfl) ?_
        refine l_nil ?_
        refine n_code ?_
        refine t_ret ?_
        refine r_code ?_
        apply f_ret (.inl rfl) ([])
        · apply res1 rfl
          · exact .tmp rfl
        · exact ⟨⟨_, rfl, .inr ⟨by omega, by omega, 0, by omega, by decide, by simpa using m, .inl rfl⟩⟩, rfl⟩
        · first | exact Ent.refl _ | ((try push_cast); apply Sel.ent; (repeat (first | apply Sel.cons | with_reducible exact Sel.nil | apply Sel.rest | with_reducible exact Take.here | apply Take.there | exact Drop.refl | apply Drop.skip)))
      · rw [e2] at m
        refine t_skip ?_
        refine n_code ?_
        refine t_seq ?_
        refine t_region ?_
        refine l_q rfl (q_move rfl) ?_
        apply l_q rfl
        · apply q_bin rfl rfl (fun w => g_int w); first | exact fun w => b_sub_i w (by omega) | exact fun w => b_sub w
        apply l_q rfl
        · apply q_conv rfl; first | exact fun w => c_int_u w Try.underlying3 Try.underlying39 (by omega) | exact fun w => c_int w Try.underlying3 Try.underlying39
        obtain ⟨b1, b2⟩ := blen_pow (x := n - 1) (by omega)
        obtain ⟨k', hk'⟩ : ∃ k' : Nat, blen (n - 1) = k' + 3 := by
          refine ⟨blen (n - 1) - 3, ?_⟩
          have : ¬ blen (n - 1) ≤ 2 := fun q => by
            have := pow_le2 q
            omega
          omega
        have e3 : (2 : Int) ^ (k' + 3) = 8 * 2 ^ k' := by rw [Int.pow_add]; omega
        have p1 := pow_pos2 k'
        rw [hk', e3] at b1 b2
        have hk13 : k' ≤ 13 := by
          have : ¬ 14 ≤ k' := fun q => by
            have := pow_le2 q
            omega
          omega
        have p2 := pow_le2 hk13
        have hs : IntKind.i64.wrap (1 * 2 ^ min ((blen (n - 1) : Nat) : Int).toNat IntKind.i64.bits) = 8 * 2 ^ k' := by
          rw [hk', show min ((k' + 3 : Nat) : Int).toNat IntKind.i64.bits = k' + 3 by simp [IntKind.bits]; omega, e3]
          exact (by rw [wrap_i64 (by omega)]; omega)
        apply l_callf rfl rfl rfl (Len_ok (n - 1) (by omega) (by omega))
        · repeat (first | with_reducible exact .nil | apply Pick.cons | with_reducible exact .here | apply Take.there)
        rintro v L' ⟨rfl, rfl⟩
        refine l_norm fun M hM => ?_
        try simp only [List.cons_append, List.nil_append, List.append_nil] at hM
        subst M
        refine l_q rfl (q_bin (v := .int .i64 (8 * 2 ^ k')) rfl rfl (fun w => g_int w) (fun w => by rw [b_shl w (by omega), hs])) ?_
        refine l_q rfl (q_assign rfl) ?_
        refine l_nil ?_
        refine n_code ?_
        refine t_seq ?_
        refine t_seq ?_
        refine t_region ?_
        refine l_q rfl (q_move rfl) ?_
        apply l_callf rfl rfl rfl (Most_ok _)
        · repeat (first | with_reducible exact .nil | apply Pick.cons | with_reducible exact .here | apply Take.there)
        rintro v L' ⟨rfl, rfl⟩
        refine l_norm fun M hM => ?_
        try simp only [List.cons_append, List.nil_append, List.append_nil] at hM
        subst M
        refine l_q rfl (q_move rfl) ?_
        apply l_q rfl
        · apply q_bin rfl rfl (fun w => g_int w); exact fun w => b_lss w
        refine l_nil ?_
        refine n_code ?_
        have e4 := most8 k' hk13
        first | refine t_cond_d rfl (fun q => ?_) (fun q => ?_) | refine t_cond_n rfl (fun q => ?_) (fun q => ?_) | refine t_cond rfl (fun q => ?_) (fun q => ?_)
        · rw [e4] at q
          have hk14 : k' + 1 ≤ 13 := by { have : ¬ 13 ≤ k' := (fun z => by { have := pow_le2 z; omega }); omega }
          refine t_region ?_
          refine l_q rfl (q_move rfl) ?_
          apply l_q rfl
          · apply q_bin rfl rfl (fun w => g_int w); first | exact fun w => b_mul_i w (by omega) | exact fun w => b_mul w
          refine l_q rfl (q_assign rfl) ?_
          refine l_nil ?_
          refine n_code ?_
          refine t_seq ?_
          refine t_region ?_
          refine l_q rfl (q_move rfl) ?_
          refine l_q rfl (q_assign rfl) ?_
          refine l_nil ?_
          refine n_code ?_
          refine t_ret ?_
          apply f_ret (.inl rfl) ([])
          · apply res1 rfl
            · exact .tmp rfl
          · exact ⟨⟨_, rfl, .inr ⟨by omega, by omega, k' + 1, hk14, by rw [pow_step]; omega, by rw [pow_step]; omega, .inr (by rw [pow_step]; omega)⟩⟩, rfl⟩
          · first | exact Ent.refl _ | ((try push_cast); apply Sel.ent; (repeat (first | apply Sel.cons | with_reducible exact Sel.nil | apply Sel.rest | with_reducible exact Take.here | apply Take.there | exact Drop.refl | apply Drop.skip)))
        · rw [e4] at q
          refine t_skip ?_
          refine n_code ?_
          refine t_seq ?_
          refine t_region ?_
          refine l_q rfl (q_move rfl) ?_
          refine l_q rfl (q_assign rfl) ?_
          refine l_nil ?_
          refine n_code ?_
          refine t_ret ?_
          apply f_ret (.inl rfl) ([])
          · apply res1 rfl
            · exact .tmp rfl
          · exact ⟨⟨_, rfl, .inr ⟨by omega, by omega, k', hk13, rfl, by omega, by omega⟩⟩, rfl⟩
          · first | exact Ent.refl _ | ((try push_cast); apply Sel.ent; (repeat (first | apply Sel.cons | with_reducible exact Sel.nil | apply Sel.rest | with_reducible exact Take.here | apply Take.there | exact Drop.refl | apply Drop.skip)))

/-! The reference -/
theorem powB1 (n most : Int) (K : Nat) (hK : K ≤ 20) (hm : most = 2 ^ K) : powB n 1 most = true ↔ ∃ k : Nat, k ≤ K ∧ n = 2 ^ k := by
  have := powB_iff n 1 0 K most (by decide) hm hK
  exact this.trans ⟨fun ⟨k, _, a, b⟩ => ⟨k, a, b⟩, fun ⟨k, a, b⟩ => ⟨k, by omega, a, b⟩⟩
theorem rpower_ok (n most : Int) (K : Nat) (hK : K ≤ 20) (hm : most = 2 ^ K) :
    FnOk Try.prog 24 #[.int .i64 n, .int .i64 most] [] (fun v L => v = .bool (powB n 1 most) ∧ L = []) := by
  have hi := powB1 n most K hK hm
  have pK := pow_le2 hK
  refine fn_intro en24 Try.func24 rfl rfl rfl ?_
  intro Fr w0
  refine t_norm fun M hM => ?_
  try simp only [List.cons_append, List.nil_append, List.append_nil] at hM
  subst M
  refine t_seq ?_
  refine t_region ?_
  refine l_q rfl (q_assign rfl) ?_
  refine l_nil ?_
  refine n_code ?_
  refine t_seq ?_
  refine t_seq ?_
  refine t_region ?_
  refine l_q rfl (q_assign rfl) ?_
  refine l_nil ?_
  refine n_code ?_
  refine t_block ?_
  refine t_loop (fun j : Nat => j ≤ K + 1 ∧ ∀ i : Nat, i < j → n ≠ 2 ^ i) (fun j => [(0, .int .i64 n), (1, .int .i64 most), (5, .int .i64 (2 ^ j))]) (fun _ => Fr) (fun j => K + 1 - j) 0 ⟨by omega, by omega⟩ ⟨rfl, rfl, rfl, trivial⟩ (Ent.refl _) ?_
  rintro j ⟨hj, hno⟩
  have pj := pow_le2 hj
  have pj1 := pow_pos2 j
  rw [pow_step] at pj
  refine t_seq ?_
  refine t_seq ?_
  refine t_region ?_
  refine l_q rfl (q_move rfl) ?_
  refine l_q rfl (q_move rfl) ?_
  apply l_q rfl
  · apply q_bin rfl rfl (fun w => g_int w); exact fun w => b_leq w
  refine l_nil ?_
  refine n_code ?_
  first | refine t_cond_d rfl (fun h => ?_) (fun h => ?_) | refine t_cond_n rfl (fun h => ?_) (fun h => ?_) | refine t_cond rfl (fun h => ?_) (fun h => ?_)
  · refine t_skip ?_
    refine n_code ?_
    refine t_seq ?_
    refine t_block ?_
    refine t_seq ?_
    refine t_region ?_
    refine l_q rfl (q_move rfl) ?_
    refine l_q rfl (q_move rfl) ?_
    apply l_q rfl
    · apply q_bin rfl rfl (fun w => g_int w); exact fun w => b_eql w
    refine l_nil ?_
    refine n_code ?_
    have hjK : j ≤ K := by
      have : ¬ K + 1 ≤ j := fun q => by
        have := pow_le2 q
        rw [pow_step] at this
        have := pow_pos2 K
        omega
      omega
    first | refine t_cond_d rfl (fun q => ?_) (fun q => ?_) | refine t_cond_n rfl (fun q => ?_) (fun q => ?_) | refine t_cond rfl (fun q => ?_) (fun q => ?_)
    · refine t_seq ?_
      refine t_region ?_
      refine l_q rfl (q_assign rfl) ?_
      refine l_nil ?_
      refine n_code ?_
      refine t_ret ?_
      refine r_blk ?_
      refine r_code ?_
      refine r_lp ?_
      refine r_blk ?_
      refine r_code ?_
      apply f_ret (.inl rfl) ([])
      · apply res1 rfl
        · exact .tmp rfl
      · exact ⟨by rw [show powB n 1 most = true from hi.2 ⟨j, hjK, q.symm⟩], rfl⟩
      · first | exact Ent.refl _ | ((try push_cast); apply Sel.ent; (repeat (first | apply Sel.cons | with_reducible exact Sel.nil | apply Sel.rest | with_reducible exact Take.here | apply Take.there | exact Drop.refl | apply Drop.skip)))
    · refine t_skip ?_
      refine n_blk ?_
      refine n_code ?_
      refine t_region ?_
      refine l_q rfl (q_move rfl) ?_
      apply l_q rfl
      · apply q_bin rfl rfl (fun w => g_int w); first | exact fun w => b_mul_i w (by omega) | exact fun w => b_mul w
      refine l_q rfl (q_assign rfl) ?_
      refine l_nil ?_
      apply n_again (j + 1)
      · exact ⟨by omega, fun i hij => by by_cases e : i = j; (rw [e]; exact fun z => q z.symm); exact hno i (by omega)⟩
      · omega
      · exact ⟨rfl, rfl, by rw [pow_step, Int.mul_comm]; rfl, trivial⟩
      · first | exact Ent.refl _ | ((try push_cast); apply Sel.ent; (repeat (first | apply Sel.cons | with_reducible exact Sel.nil | apply Sel.rest | with_reducible exact Take.here | apply Take.there | exact Drop.refl | apply Drop.skip)))
  · refine t_exit ?_
    refine x_code ?_
    refine x_lp ?_
    refine x_hit ?_
    refine n_code ?_
    refine t_seq ?_
    refine t_region ?_
    refine l_q rfl (q_assign rfl) ?_
    refine l_nil ?_
    refine n_code ?_
    refine t_ret ?_
    apply f_ret (.inl rfl) ([])
    · apply res1 rfl
      · exact .tmp rfl
    · exact ⟨by rw [show powB n 1 most = false by rw [Bool.eq_false_iff]; intro z; obtain ⟨k, hk, e⟩ := hi.1 z; exact hno k (by have : ¬ j ≤ k := fun z => (by have := pow_le2 z; have := pow_le2 hk; omega); omega) e], rfl⟩
    · first | exact Ent.refl _ | ((try push_cast); apply Sel.ent; (repeat (first | apply Sel.cons | with_reducible exact Sel.nil | apply Sel.rest | with_reducible exact Take.here | apply Take.there | exact Drop.refl | apply Drop.skip)))

theorem rMost_ok (s : Int) : FnOk Try.prog 20 #[.int .i64 s] [] (fun v L => v = .int .i64 (mostI s) ∧ L = []) := by
  have hi : 8 ≤ s → powB s 8 65536 = powB s 1 65536 := fun h8 => by
    rw [Bool.eq_iff_iff, powB8, powB1 s 65536 16 (by decide) (by decide)]
    constructor
    · rintro ⟨k, hk, e⟩; exact ⟨k + 3, by omega, by rw [e, Int.pow_add]; omega⟩
    · rintro ⟨k, hk, e⟩
      have : 3 ≤ k := by
        have : ¬ k ≤ 2 := fun z => by have := pow_le2 z; omega
        omega
      refine ⟨k - 3, by omega, ?_⟩
      have h3 : (2 : Int) ^ (k - 3 + 3) = 2 ^ (k - 3) * 2 ^ 3 := Int.pow_add 2 (k - 3) 3
      rw [show k - 3 + 3 = k by omega] at h3
      rw [e, h3]; omega
  refine fn_intro en20 Try.func20 rfl rfl rfl ?_
  intro Fr w0
  refine t_norm fun M hM => ?_
  try simp only [List.cons_append, List.nil_append, List.append_nil] at hM
  subst M
  refine t_seq ?_
  refine t_region ?_
  refine l_q rfl (q_assign rfl) ?_
  refine l_nil ?_
  refine n_code ?_
  refine t_seq ?_
  refine t_seq ?_
  refine t_region ?_
  refine l_q rfl (q_move rfl) ?_
  apply l_q rfl
  · apply q_bin rfl rfl (fun w => g_int w); exact fun w => b_lss w
  refine l_q rfl (q_move rfl) ?_
  first | refine l_part_d (t := 5) rfl (fun h => ?_) (fun h => ?_) | refine l_part_n (t := 5) rfl (fun h => ?_) (fun h => ?_) | refine l_part (t := 5) rfl (fun h => ?_) (fun h => ?_)
  · refine l_off rfl rfl rfl rfl ?_
    refine l_off rfl rfl rfl rfl ?_
    refine l_off rfl rfl rfl rfl ?_
    apply l_q rfl
    · first | exact q_pick_t rfl rfl | exact q_pick_f rfl rfl
    refine l_nil ?_
    refine n_code ?_
    refine t_cond_t rfl ?_
    refine t_seq ?_
    refine t_region ?_
    refine l_q rfl (q_assign rfl) ?_
    refine l_nil ?_
    refine n_code ?_
    refine t_ret ?_
    refine r_code ?_
    apply f_ret (.inl rfl) ([])
    · apply res1 rfl
      · exact .tmp rfl
    · exact ⟨by unfold mostI; rw [show powB s 8 65536 = false by rw [Bool.eq_false_iff]; intro z; have := powB_le z; omega]; rfl, rfl⟩
    · first | exact Ent.refl _ | ((try push_cast); apply Sel.ent; (repeat (first | apply Sel.cons | with_reducible exact Sel.nil | apply Sel.rest | with_reducible exact Take.here | apply Take.there | exact Drop.refl | apply Drop.skip)))
  · refine l_on rfl rfl ?_
    refine l_q rfl (q_move rfl) ?_
    refine l_on rfl rfl ?_
    apply l_callf rfl rfl rfl (rpower_ok s 65536 16 (by omega) (by decide))
    · repeat (first | with_reducible exact .nil | apply Pick.cons | with_reducible exact .here | apply Take.there)
    rintro v L' ⟨rfl, rfl⟩
    refine l_norm fun M hM => ?_
    try simp only [List.cons_append, List.nil_append, List.append_nil] at hM
    subst M
    refine l_on rfl rfl ?_
    refine l_q rfl (q_un rfl (fun w => u_not w)) ?_
    apply l_q rfl
    · first | exact q_pick_t rfl rfl | exact q_pick_f rfl rfl
    refine l_nil ?_
    refine n_code ?_
    have hi := hi (by omega)
    first | refine t_cond_d rfl (fun k => ?_) (fun k => ?_) | refine t_cond_n rfl (fun k => ?_) (fun k => ?_) | refine t_cond rfl (fun k => ?_) (fun k => ?_)
    · refine t_seq ?_
      refine t_region ?_
      refine l_q rfl (q_assign rfl) ?_
      refine l_nil ?_
      refine n_code ?_
      refine t_ret ?_
      refine r_code ?_
      apply f_ret (.inl rfl) ([])
      · apply res1 rfl
        · exact .tmp rfl
      · exact ⟨by unfold mostI; rw [hi, show powB s 1 65536 = false by simpa using k]; rfl, rfl⟩
      · first | exact Ent.refl _ | ((try push_cast); apply Sel.ent; (repeat (first | apply Sel.cons | with_reducible exact Sel.nil | apply Sel.rest | with_reducible exact Take.here | apply Take.there | exact Drop.refl | apply Drop.skip)))
    · have hb := powB_le (show powB s 8 65536 = true by rw [hi]; simpa using k)
      refine t_skip ?_
      refine n_code ?_
      refine t_seq ?_
      refine t_region ?_
      refine l_q rfl (q_move rfl) ?_
      apply l_q rfl
      · apply q_bin rfl rfl (fun w => g_int w); first | exact fun w => b_quo_i w (by omega) | exact fun w => b_quo w (by omega)
      apply l_q rfl
      · apply q_bin rfl rfl (fun w => g_int w); first | exact fun w => b_mul_i w (by omega) | exact fun w => b_mul w
      refine l_q rfl (q_assign rfl) ?_
      refine l_nil ?_
      refine n_code ?_
      refine t_ret ?_
      apply f_ret (.inl rfl) ([])
      · apply res1 rfl
        · exact .tmp rfl
      · refine ⟨?_, rfl⟩; obtain ⟨j, _, e⟩ := (powB8 s).1 (show powB s 8 65536 = true by rw [hi]; simpa using k); unfold mostI; rw [hi, show powB s 1 65536 = true by simpa using k, if_pos rfl]; congr 1; rw [e]; omega
      · first | exact Ent.refl _ | ((try push_cast); apply Sel.ent; (repeat (first | apply Sel.cons | with_reducible exact Sel.nil | apply Sel.rest | with_reducible exact Take.here | apply Take.there | exact Drop.refl | apply Drop.skip)))

theorem rSlots_ok (n : Int) (hn : -9223372036854775808 ≤ n ∧ n ≤ 9223372036854775807) : FnOk Try.prog 22 #[.int .i64 n] [] (fun v L => (∃ s, v = .int .i64 s ∧ LeastS n s) ∧ L = []) := by
  refine fn_intro en22 Try.func22 rfl rfl rfl ?_
  intro Fr w0
  refine t_norm fun M hM => ?_
  try simp only [List.cons_append, List.nil_append, List.append_nil] at hM
  subst M
  refine t_seq ?_
  refine t_region ?_
  refine l_q rfl (q_assign rfl) ?_
  refine l_nil ?_
  refine n_code ?_
  refine t_seq ?_
  refine t_seq ?_
  refine t_region ?_
  refine l_q rfl (q_assign rfl) ?_
  refine l_nil ?_
  refine n_code ?_
  refine t_block ?_
  refine t_loop (fun j : Nat => j ≤ 14 ∧ ∀ i : Nat, i < j → n < 0 ∨ 7 * 2 ^ i < n) (fun j => [(0, .int .i64 n), (3, .int .i64 (8 * 2 ^ j))]) (fun _ => Fr) (fun j => 14 - j) 0 ⟨by omega, by omega⟩ ⟨rfl, rfl, trivial⟩ (Ent.refl _) ?_
  rintro j ⟨hj, hno⟩
  have pj := pow_le2 hj
  have pj1 := pow_pos2 j
  refine t_seq ?_
  refine t_seq ?_
  refine t_region ?_
  refine l_q rfl (q_move rfl) ?_
  apply l_q rfl
  · apply q_bin rfl rfl (fun w => g_int w); exact fun w => b_leq w
  refine l_nil ?_
  refine n_code ?_
  first | refine t_cond_d rfl (fun h => ?_) (fun h => ?_) | refine t_cond_n rfl (fun h => ?_) (fun h => ?_) | refine t_cond rfl (fun h => ?_) (fun h => ?_)
  · refine t_skip ?_
    refine n_code ?_
    refine t_seq ?_
    refine t_block ?_
    refine t_seq ?_
    refine t_region ?_
    refine l_q rfl (q_move rfl) ?_
    apply l_q rfl
    · apply q_bin rfl rfl (fun w => g_int w); exact fun w => b_geq w
    refine l_q rfl (q_move rfl) ?_
    have hj13 : j ≤ 13 := by
      have : ¬ 14 ≤ j := fun z => by have := pow_le2 z; omega
      omega
    have e := most8 j hj13
    have hprev : j = 0 ∨ n < 0 ∨ 7 * 2 ^ j < 2 * n := by
      by_cases j0 : j = 0
      · exact .inl j0
      · rcases hno (j - 1) (by omega) with h1 | h1
        · exact .inr (.inl h1)
        · have h2 := pow_step (j - 1)
          rw [show j - 1 + 1 = j by omega] at h2
          omega
    first | refine l_part_d (t := 10) rfl (fun q => ?_) (fun q => ?_) | refine l_part_n (t := 10) rfl (fun q => ?_) (fun q => ?_) | refine l_part (t := 10) rfl (fun q => ?_) (fun q => ?_)
    · refine l_on rfl rfl ?_
      refine l_q rfl (q_move rfl) ?_
      refine l_on rfl rfl ?_
      apply l_callf rfl rfl rfl (rMost_ok _)
      · repeat (first | with_reducible exact .nil | apply Pick.cons | with_reducible exact .here | apply Take.there)
      rintro v L' ⟨rfl, rfl⟩
      refine l_norm fun M hM => ?_
      try simp only [List.cons_append, List.nil_append, List.append_nil] at hM
      subst M
      refine l_on rfl rfl ?_
      refine l_q rfl (q_move rfl) ?_
      refine l_on rfl rfl ?_
      apply l_q rfl
      · apply q_bin rfl rfl (fun w => g_int w); exact fun w => b_geq w
      apply l_q rfl
      · first | exact q_pick_t rfl rfl | exact q_pick_f rfl rfl
      refine l_nil ?_
      refine n_code ?_
      first | refine t_cond_d rfl (fun m => ?_) (fun m => ?_) | refine t_cond_n rfl (fun m => ?_) (fun m => ?_) | refine t_cond rfl (fun m => ?_) (fun m => ?_)
      · rw [e] at m
        refine t_seq ?_
        refine t_region ?_
        refine l_q rfl (q_move rfl) ?_
        refine l_q rfl (q_assign rfl) ?_
        refine l_nil ?_
        refine n_code ?_
        refine t_ret ?_
        refine r_blk ?_
        refine r_code ?_
        refine r_lp ?_
        refine r_blk ?_
        refine r_code ?_
        have pl := pow_le2 hj13
        apply f_ret (.inl rfl) ([])
        · apply res1 rfl
          · exact .tmp rfl
        · exact ⟨⟨_, rfl, .inr ⟨q, by omega, j, hj13, rfl, m, by omega⟩⟩, rfl⟩
        · first | exact Ent.refl _ | ((try push_cast); apply Sel.ent; (repeat (first | apply Sel.cons | with_reducible exact Sel.nil | apply Sel.rest | with_reducible exact Take.here | apply Take.there | exact Drop.refl | apply Drop.skip)))
      · rw [e] at m
        refine t_skip ?_
        refine n_blk ?_
        refine n_code ?_
        refine t_region ?_
        refine l_q rfl (q_move rfl) ?_
        apply l_q rfl
        · apply q_bin rfl rfl (fun w => g_int w); first | exact fun w => b_mul_i w (by omega) | exact fun w => b_mul w
        refine l_q rfl (q_assign rfl) ?_
        refine l_nil ?_
        apply n_again (j + 1)
        · exact ⟨by omega, fun i hij => by by_cases ei : i = j; (rw [ei]; omega); exact hno i (by omega)⟩
        · omega
        · exact ⟨rfl, by show some (Value.int .i64 (8 * 2 ^ j * 2)) = _; rw [pow_step, show (8 : Int) * 2 ^ j * 2 = 8 * (2 * 2 ^ j) by omega], trivial⟩
        · first | exact Ent.refl _ | ((try push_cast); apply Sel.ent; (repeat (first | apply Sel.cons | with_reducible exact Sel.nil | apply Sel.rest | with_reducible exact Take.here | apply Take.there | exact Drop.refl | apply Drop.skip)))
    · refine l_off rfl rfl rfl rfl ?_
      refine l_off rfl rfl rfl rfl ?_
      refine l_off rfl rfl rfl rfl ?_
      refine l_off rfl rfl rfl rfl ?_
      apply l_q rfl
      · first | exact q_pick_t rfl rfl | exact q_pick_f rfl rfl
      refine l_nil ?_
      refine n_code ?_
      refine t_cond_f rfl ?_
      refine t_skip ?_
      refine n_blk ?_
      refine n_code ?_
      refine t_region ?_
      refine l_q rfl (q_move rfl) ?_
      apply l_q rfl
      · apply q_bin rfl rfl (fun w => g_int w); first | exact fun w => b_mul_i w (by omega) | exact fun w => b_mul w
      refine l_q rfl (q_assign rfl) ?_
      refine l_nil ?_
      apply n_again (j + 1)
      · exact ⟨by omega, fun i hij => .inl (by omega)⟩
      · omega
      · exact ⟨rfl, by show some (Value.int .i64 (8 * 2 ^ j * 2)) = _; rw [pow_step, show (8 : Int) * 2 ^ j * 2 = 8 * (2 * 2 ^ j) by omega], trivial⟩
      · first | exact Ent.refl _ | ((try push_cast); apply Sel.ent; (repeat (first | apply Sel.cons | with_reducible exact Sel.nil | apply Sel.rest | with_reducible exact Take.here | apply Take.there | exact Drop.refl | apply Drop.skip)))
  · refine t_exit ?_
    refine x_code ?_
    refine x_lp ?_
    refine x_hit ?_
    refine n_code ?_
    refine t_seq ?_
    refine t_region ?_
    refine l_q rfl (q_assign rfl) ?_
    refine l_nil ?_
    refine n_code ?_
    refine t_ret ?_
    have hj14 : j = 14 := by
      have : ¬ j ≤ 13 := fun z => by have := pow_le2 z; omega
      omega
    have hl := hno 13 (by omega)
    apply f_ret (.inl rfl) ([])
    · apply res1 rfl
      · exact .tmp rfl
    · exact ⟨⟨_, rfl, .inl ⟨by omega, rfl⟩⟩, rfl⟩
    · first | exact Ent.refl _ | ((try push_cast); apply Sel.ent; (repeat (first | apply Sel.cons | with_reducible exact Sel.nil | apply Sel.rest | with_reducible exact Take.here | apply Take.there | exact Drop.refl | apply Drop.skip)))

/-! The laws that ask for sizes alone -/
theorem ProbeSizes_ok (slots n : Int) (hn : -9223372036854775808 ≤ n ∧ n ≤ 9223372036854775807) : FnOk Try.prog 8 #[.int .i64 slots, .int .i64 n] [] (fun v L => v = .bool true ∧ L = []) := by
  refine fn_intro en8 Try.func8 rfl rfl rfl ?_
  intro Fr w0
  refine t_norm fun M hM => ?_
  try simp only [List.cons_append, List.nil_append, List.append_nil] at hM
  subst M
  refine t_seq ?_
  refine t_region ?_
  refine l_q rfl (q_assign rfl) ?_
  refine l_nil ?_
  refine n_code ?_
  refine t_seq ?_
  refine t_region ?_
  refine l_q rfl (q_move rfl) ?_
  apply l_callf rfl rfl rfl (Most_ok _)
  · repeat (first | with_reducible exact .nil | apply Pick.cons | with_reducible exact .here | apply Take.there)
  rintro v L' ⟨rfl, rfl⟩
  refine l_norm fun M hM => ?_
  try simp only [List.cons_append, List.nil_append, List.append_nil] at hM
  subst M
  refine l_q rfl (q_move rfl) ?_
  apply l_callf rfl rfl rfl (rMost_ok _)
  · repeat (first | with_reducible exact .nil | apply Pick.cons | with_reducible exact .here | apply Take.there)
  rintro v L' ⟨rfl, rfl⟩
  refine l_norm fun M hM => ?_
  try simp only [List.cons_append, List.nil_append, List.append_nil] at hM
  subst M
  apply l_q rfl
  · apply q_bin rfl rfl (fun w => g_int w); exact fun w => b_eql w
  refine l_q rfl (q_move rfl) ?_
  first | refine l_part_d (t := 10) rfl (fun h => ?_) (fun h => ?_) | refine l_part_n (t := 10) rfl (fun h => ?_) (fun h => ?_) | refine l_part (t := 10) rfl (fun h => ?_) (fun h => ?_)
  · refine l_on rfl rfl ?_
    refine l_q rfl (q_move rfl) ?_
    refine l_on rfl rfl ?_
    apply l_callf rfl rfl rfl (Slots_ok n hn)
    · repeat (first | with_reducible exact .nil | apply Pick.cons | with_reducible exact .here | apply Take.there)
    rintro v L' ⟨⟨s1, rfl, hs1⟩, rfl⟩
    refine l_norm fun M hM => ?_
    try simp only [List.cons_append, List.nil_append, List.append_nil] at hM
    subst M
    refine l_on rfl rfl ?_
    refine l_q rfl (q_move rfl) ?_
    refine l_on rfl rfl ?_
    apply l_callf rfl rfl rfl (rSlots_ok n hn)
    · repeat (first | with_reducible exact .nil | apply Pick.cons | with_reducible exact .here | apply Take.there)
    rintro v L' ⟨⟨s2, rfl, hs2⟩, rfl⟩
    refine l_norm fun M hM => ?_
    try simp only [List.cons_append, List.nil_append, List.append_nil] at hM
    subst M
    refine l_on rfl rfl ?_
    apply l_q rfl
    · apply q_bin rfl rfl (fun w => g_int w); exact fun w => b_eql w
    apply l_q rfl
    · first | exact q_pick_t rfl rfl | exact q_pick_f rfl rfl
    refine l_q rfl (q_move rfl) ?_
    first | refine l_part_d (t := 17) rfl (fun k => ?_) (fun k => ?_) | refine l_part_n (t := 17) rfl (fun k => ?_) (fun k => ?_) | refine l_part (t := 17) rfl (fun k => ?_) (fun k => ?_)
    · refine l_on rfl rfl ?_
      apply l_callf rfl rfl rfl (Most_ok _)
      · repeat (first | with_reducible exact .nil | apply Pick.cons | with_reducible exact .here | apply Take.there)
      rintro v L' ⟨rfl, rfl⟩
      refine l_norm fun M hM => ?_
      try simp only [List.cons_append, List.nil_append, List.append_nil] at hM
      subst M
      refine l_on rfl rfl ?_
      apply l_q rfl
      · apply q_bin rfl rfl (fun w => g_int w); exact fun w => b_eql w
      apply l_q rfl
      · first | exact q_pick_t rfl rfl | exact q_pick_f rfl rfl
      refine l_q rfl (q_assign rfl) ?_
      refine l_nil ?_
      refine n_code ?_
      refine t_ret ?_
      have e16 : mostI 16 = 14 := most8 1 (by omega)
      apply f_ret (.inl rfl) ([])
      · apply res1 rfl
        · exact .tmp rfl
      · exact ⟨by rw [e16]; rfl, rfl⟩
      · first | exact Ent.refl _ | ((try push_cast); apply Sel.ent; (repeat (first | apply Sel.cons | with_reducible exact Sel.nil | apply Sel.rest | with_reducible exact Take.here | apply Take.there | exact Drop.refl | apply Drop.skip)))
    · refine l_off rfl rfl rfl rfl ?_
      refine l_off rfl rfl rfl rfl ?_
      apply l_q rfl
      · first | exact q_pick_t rfl rfl | exact q_pick_f rfl rfl
      refine l_q rfl (q_assign rfl) ?_
      refine l_nil ?_
      refine n_code ?_
      refine t_ret ?_
      exact absurd (hs1.uniq hs2) k
  · refine l_off rfl rfl rfl rfl ?_
    refine l_off rfl rfl rfl rfl ?_
    refine l_off rfl rfl rfl rfl ?_
    refine l_off rfl rfl rfl rfl ?_
    refine l_off rfl rfl rfl rfl ?_
    apply l_q rfl
    · first | exact q_pick_t rfl rfl | exact q_pick_f rfl rfl
    refine l_q rfl (q_move rfl) ?_
    refine l_off rfl rfl rfl rfl ?_
    refine l_off rfl rfl rfl rfl ?_
    apply l_q rfl
    · first | exact q_pick_t rfl rfl | exact q_pick_f rfl rfl
    refine l_q rfl (q_assign rfl) ?_
    refine l_nil ?_
    refine n_code ?_
    refine t_ret ?_
    exact absurd rfl h

theorem valid_ok (n : Int) : FnOk Try.prog 10 #[.int .i64 n] [] (fun v L => v = .bool (powB n 1 8192) ∧ L = []) := by
  refine fn_intro en10 Try.func10 rfl rfl rfl ?_
  intro Fr w0
  refine t_norm fun M hM => ?_
  try simp only [List.cons_append, List.nil_append, List.append_nil] at hM
  subst M
  refine t_seq ?_
  refine t_region ?_
  refine l_q rfl (q_assign rfl) ?_
  refine l_nil ?_
  refine n_code ?_
  refine t_seq ?_
  refine t_region ?_
  refine l_q rfl (q_move rfl) ?_
  apply l_q rfl
  · apply q_bin rfl rfl (fun w => g_int w); exact fun w => b_geq w
  refine l_q rfl (q_move rfl) ?_
  first | refine l_part_d (t := 5) rfl (fun h => ?_) (fun h => ?_) | refine l_part_n (t := 5) rfl (fun h => ?_) (fun h => ?_) | refine l_part (t := 5) rfl (fun h => ?_) (fun h => ?_)
  · refine l_on rfl rfl ?_
    refine l_q rfl (q_move rfl) ?_
    refine l_on rfl rfl ?_
    apply l_q rfl
    · apply q_bin rfl rfl (fun w => g_int w); exact fun w => b_leq w
    apply l_q rfl
    · first | exact q_pick_t rfl rfl | exact q_pick_f rfl rfl
    refine l_q rfl (q_move rfl) ?_
    first | refine l_part_d (t := 9) rfl (fun k => ?_) (fun k => ?_) | refine l_part_n (t := 9) rfl (fun k => ?_) (fun k => ?_) | refine l_part (t := 9) rfl (fun k => ?_) (fun k => ?_)
    · refine l_on rfl rfl ?_
      refine l_q rfl (q_move rfl) ?_
      refine l_on rfl rfl ?_
      refine l_q rfl (q_move rfl) ?_
      refine l_on rfl rfl ?_
      apply l_q rfl
      · apply q_bin rfl rfl (fun w => g_int w); first | exact fun w => b_sub_i w (by omega) | exact fun w => b_sub w
      refine l_on rfl rfl ?_
      apply l_q rfl
      · apply q_bin rfl rfl (fun w => g_int w); exact fun w => b_bits w rfl
      refine l_on rfl rfl ?_
      apply l_q rfl
      · apply q_bin rfl rfl (fun w => g_int w); exact fun w => b_eql w
      apply l_q rfl
      · first | exact q_pick_t rfl rfl | exact q_pick_f rfl rfl
      refine l_q rfl (q_assign rfl) ?_
      refine l_nil ?_
      refine n_code ?_
      refine t_ret ?_
      apply f_ret (.inl rfl) ([])
      · apply res1 rfl
        · exact .tmp rfl
      · exact ⟨by rw [pow2_eq (by omega) (by omega)]; simp [powB, h, k], rfl⟩
      · first | exact Ent.refl _ | ((try push_cast); apply Sel.ent; (repeat (first | apply Sel.cons | with_reducible exact Sel.nil | apply Sel.rest | with_reducible exact Take.here | apply Take.there | exact Drop.refl | apply Drop.skip)))
    · refine l_off rfl rfl rfl rfl ?_
      refine l_off rfl rfl rfl rfl ?_
      refine l_off rfl rfl rfl rfl ?_
      refine l_off rfl rfl rfl rfl ?_
      refine l_off rfl rfl rfl rfl ?_
      apply l_q rfl
      · first | exact q_pick_t rfl rfl | exact q_pick_f rfl rfl
      refine l_q rfl (q_assign rfl) ?_
      refine l_nil ?_
      refine n_code ?_
      refine t_ret ?_
      apply f_ret (.inl rfl) ([])
      · apply res1 rfl
        · exact .tmp rfl
      · exact ⟨by simp [powB, k], rfl⟩
      · first | exact Ent.refl _ | ((try push_cast); apply Sel.ent; (repeat (first | apply Sel.cons | with_reducible exact Sel.nil | apply Sel.rest | with_reducible exact Take.here | apply Take.there | exact Drop.refl | apply Drop.skip)))
  · refine l_off rfl rfl rfl rfl ?_
    refine l_off rfl rfl rfl rfl ?_
    apply l_q rfl
    · first | exact q_pick_t rfl rfl | exact q_pick_f rfl rfl
    refine l_q rfl (q_move rfl) ?_
    refine l_off rfl rfl rfl rfl ?_
    refine l_off rfl rfl rfl rfl ?_
    refine l_off rfl rfl rfl rfl ?_
    refine l_off rfl rfl rfl rfl ?_
    refine l_off rfl rfl rfl rfl ?_
    apply l_q rfl
    · first | exact q_pick_t rfl rfl | exact q_pick_f rfl rfl
    refine l_q rfl (q_assign rfl) ?_
    refine l_nil ?_
    refine n_code ?_
    refine t_ret ?_
    apply f_ret (.inl rfl) ([])
    · apply res1 rfl
      · exact .tmp rfl
    · exact ⟨by simp [powB, h], rfl⟩
    · first | exact Ent.refl _ | ((try push_cast); apply Sel.ent; (repeat (first | apply Sel.cons | with_reducible exact Sel.nil | apply Sel.rest | with_reducible exact Take.here | apply Take.there | exact Drop.refl | apply Drop.skip)))

theorem ProbeLeast_ok (n : Int) (hn : -9223372036854775808 ≤ n ∧ n ≤ 9223372036854775807) : FnOk Try.prog 9 #[.int .i64 n] [] (fun v L => v = .bool true ∧ L = []) := by
  refine fn_intro en9 Try.func9 rfl rfl rfl ?_
  intro Fr w0
  refine t_norm fun M hM => ?_
  try simp only [List.cons_append, List.nil_append, List.append_nil] at hM
  subst M
  refine t_seq ?_
  refine t_region ?_
  refine l_q rfl (q_assign rfl) ?_
  refine l_nil ?_
  refine n_code ?_
  refine t_seq ?_
  refine t_region ?_
  refine l_q rfl (q_move rfl) ?_
  apply l_callf rfl rfl rfl (Slots_ok n hn)
  · repeat (first | with_reducible exact .nil | apply Pick.cons | with_reducible exact .here | apply Take.there)
  rintro v L' ⟨⟨s, rfl, hs⟩, rfl⟩
  refine l_norm fun M hM => ?_
  try simp only [List.cons_append, List.nil_append, List.append_nil] at hM
  subst M
  refine l_q rfl (q_assign rfl) ?_
  refine l_nil ?_
  refine n_code ?_
  refine t_seq ?_
  refine t_seq ?_
  refine t_region ?_
  refine l_q rfl (q_move rfl) ?_
  apply l_q rfl
  · apply q_bin rfl rfl (fun w => g_int w); exact fun w => b_lss w
  refine l_q rfl (q_move rfl) ?_
  have hpos := fun k : Nat => pow_pos2 k
  first | refine l_part_d (t := 8) rfl (fun h => ?_) (fun h => ?_) | refine l_part_n (t := 8) rfl (fun h => ?_) (fun h => ?_) | refine l_part (t := 8) rfl (fun h => ?_) (fun h => ?_)
  · refine l_off rfl rfl rfl rfl ?_
    refine l_off rfl rfl rfl rfl ?_
    apply l_q rfl
    · first | exact q_pick_t rfl rfl | exact q_pick_f rfl rfl
    refine l_nil ?_
    refine n_code ?_
    refine t_cond_t rfl ?_
    refine t_seq ?_
    refine t_region ?_
    refine l_q rfl (q_move rfl) ?_
    apply l_q rfl
    · apply q_bin rfl rfl (fun w => g_int w); exact fun w => b_eql w
    refine l_q rfl (q_move rfl) ?_
    obtain rfl : s = 0 := by rcases hs with ⟨_, h2⟩ | ⟨h2, _⟩ <;> omega
    first | refine l_part_d (t := 14) rfl (fun k => ?_) (fun k => ?_) | refine l_part_n (t := 14) rfl (fun k => ?_) (fun k => ?_) | refine l_part (t := 14) rfl (fun k => ?_) (fun k => ?_)
    · refine l_on rfl rfl ?_
      apply l_callf rfl rfl rfl (Slots_ok 57344 (by omega))
      · repeat (first | with_reducible exact .nil | apply Pick.cons | with_reducible exact .here | apply Take.there)
      rintro v L' ⟨⟨s2, rfl, hs2⟩, rfl⟩
      refine l_norm fun M hM => ?_
      try simp only [List.cons_append, List.nil_append, List.append_nil] at hM
      subst M
      refine l_on rfl rfl ?_
      apply l_q rfl
      · apply q_bin rfl rfl (fun w => g_int w); exact fun w => b_eql w
      apply l_q rfl
      · first | exact q_pick_t rfl rfl | exact q_pick_f rfl rfl
      refine l_q rfl (q_assign rfl) ?_
      refine l_nil ?_
      refine n_code ?_
      refine t_ret ?_
      refine r_code ?_
      obtain rfl : s2 = 65536 := hs2.uniq (.inr ⟨by omega, by omega, 13, by omega, by decide, by decide, .inr (by decide)⟩)
      apply f_ret (.inl rfl) ([])
      · apply res1 rfl
        · exact .tmp rfl
      · exact ⟨rfl, rfl⟩
      · first | exact Ent.refl _ | ((try push_cast); apply Sel.ent; (repeat (first | apply Sel.cons | with_reducible exact Sel.nil | apply Sel.rest | with_reducible exact Take.here | apply Take.there | exact Drop.refl | apply Drop.skip)))
    · refine l_off rfl rfl rfl rfl ?_
      refine l_off rfl rfl rfl rfl ?_
      apply l_q rfl
      · first | exact q_pick_t rfl rfl | exact q_pick_f rfl rfl
      refine l_q rfl (q_assign rfl) ?_
      refine l_nil ?_
      refine n_code ?_
      refine t_ret ?_
      refine r_code ?_
      exact absurd rfl k
  · refine l_on rfl rfl ?_
    refine l_q rfl (q_move rfl) ?_
    refine l_on rfl rfl ?_
    apply l_q rfl
    · apply q_bin rfl rfl (fun w => g_int w); exact fun w => b_gtr w
    apply l_q rfl
    · first | exact q_pick_t rfl rfl | exact q_pick_f rfl rfl
    refine l_nil ?_
    refine n_code ?_
    first | refine t_cond_d rfl (fun g => ?_) (fun g => ?_) | refine t_cond_n rfl (fun g => ?_) (fun g => ?_) | refine t_cond rfl (fun g => ?_) (fun g => ?_)
    · refine t_seq ?_
      refine t_region ?_
      refine l_q rfl (q_move rfl) ?_
      apply l_q rfl
      · apply q_bin rfl rfl (fun w => g_int w); exact fun w => b_eql w
      refine l_q rfl (q_move rfl) ?_
      obtain rfl : s = 0 := by rcases hs with ⟨_, h2⟩ | ⟨_, h2, _⟩ <;> omega
      first | refine l_part_d (t := 14) rfl (fun k => ?_) (fun k => ?_) | refine l_part_n (t := 14) rfl (fun k => ?_) (fun k => ?_) | refine l_part (t := 14) rfl (fun k => ?_) (fun k => ?_)
      · refine l_on rfl rfl ?_
        apply l_callf rfl rfl rfl (Slots_ok 57344 (by omega))
        · repeat (first | with_reducible exact .nil | apply Pick.cons | with_reducible exact .here | apply Take.there)
        rintro v L' ⟨⟨s2, rfl, hs2⟩, rfl⟩
        refine l_norm fun M hM => ?_
        try simp only [List.cons_append, List.nil_append, List.append_nil] at hM
        subst M
        refine l_on rfl rfl ?_
        apply l_q rfl
        · apply q_bin rfl rfl (fun w => g_int w); exact fun w => b_eql w
        apply l_q rfl
        · first | exact q_pick_t rfl rfl | exact q_pick_f rfl rfl
        refine l_q rfl (q_assign rfl) ?_
        refine l_nil ?_
        refine n_code ?_
        refine t_ret ?_
        refine r_code ?_
        obtain rfl : s2 = 65536 := hs2.uniq (.inr ⟨by omega, by omega, 13, by omega, by decide, by decide, .inr (by decide)⟩)
        apply f_ret (.inl rfl) ([])
        · apply res1 rfl
          · exact .tmp rfl
        · exact ⟨rfl, rfl⟩
        · first | exact Ent.refl _ | ((try push_cast); apply Sel.ent; (repeat (first | apply Sel.cons | with_reducible exact Sel.nil | apply Sel.rest | with_reducible exact Take.here | apply Take.there | exact Drop.refl | apply Drop.skip)))
      · refine l_off rfl rfl rfl rfl ?_
        refine l_off rfl rfl rfl rfl ?_
        apply l_q rfl
        · first | exact q_pick_t rfl rfl | exact q_pick_f rfl rfl
        refine l_q rfl (q_assign rfl) ?_
        refine l_nil ?_
        refine n_code ?_
        refine t_ret ?_
        refine r_code ?_
        exact absurd rfl k
    · obtain ⟨k, hk, hsk, hs1, hs2⟩ : ∃ k : Nat, k ≤ 13 ∧ s = 8 * 2 ^ k ∧ n ≤ 7 * 2 ^ k ∧ (k = 0 ∨ 7 * 2 ^ k < 2 * n) := hs.yes (by omega) (by omega)
      have p1 := hpos k
      have p2 := pow_le2 hk
      have hb : powB s 8 65536 = true := (powB8 s).2 ⟨k, hk, hsk⟩
      have hm : mostI s = 7 * 2 ^ k := by { rw [hsk]; exact most8 k hk }
      have hp2 : pow2 s = true := by { simp only [powB, Bool.and_eq_true] at hb; exact hb.2 }
      refine t_skip ?_
      refine n_code ?_
      refine t_seq ?_
      refine t_seq ?_
      refine t_region ?_
      refine l_q rfl (q_move rfl) ?_
      apply l_q rfl
      · apply q_bin rfl rfl (fun w => g_int w); exact fun w => b_lss w
      refine l_q rfl (q_move rfl) ?_
      first | refine l_part_d (t := 20) rfl (fun a => ?_) (fun a => ?_) | refine l_part_n (t := 20) rfl (fun a => ?_) (fun a => ?_) | refine l_part (t := 20) rfl (fun a => ?_) (fun a => ?_)
      · refine l_off rfl rfl rfl rfl ?_
        refine l_off rfl rfl rfl rfl ?_
        apply l_q rfl
        · first | exact q_pick_t rfl rfl | exact q_pick_f rfl rfl
        refine l_q rfl (q_move rfl) ?_
        refine l_off rfl rfl rfl rfl ?_
        refine l_off rfl rfl rfl rfl ?_
        refine l_off rfl rfl rfl rfl ?_
        refine l_off rfl rfl rfl rfl ?_
        refine l_off rfl rfl rfl rfl ?_
        apply l_q rfl
        · first | exact q_pick_t rfl rfl | exact q_pick_f rfl rfl
        refine l_q rfl (q_move rfl) ?_
        refine l_off rfl rfl rfl rfl ?_
        refine l_off rfl rfl rfl rfl ?_
        refine l_off rfl rfl rfl rfl ?_
        refine l_off rfl rfl rfl rfl ?_
        apply l_q rfl
        · first | exact q_pick_t rfl rfl | exact q_pick_f rfl rfl
        refine l_q rfl (q_move rfl) ?_
        refine l_off rfl rfl rfl rfl ?_
        refine l_off rfl rfl rfl rfl ?_
        refine l_off rfl rfl rfl rfl ?_
        refine l_off rfl rfl rfl rfl ?_
        refine l_off rfl rfl rfl rfl ?_
        refine l_off rfl rfl rfl rfl ?_
        refine l_off rfl rfl rfl rfl ?_
        apply l_q rfl
        · first | exact q_pick_t rfl rfl | exact q_pick_f rfl rfl
        refine l_nil ?_
        refine n_code ?_
        refine t_cond_t rfl ?_
        refine t_seq ?_
        refine t_region ?_
        refine l_q rfl (q_assign rfl) ?_
        refine l_nil ?_
        refine n_code ?_
        refine t_ret ?_
        refine r_code ?_
        exact absurd a (by omega)
      · refine l_on rfl rfl ?_
        refine l_q rfl (q_move rfl) ?_
        refine l_on rfl rfl ?_
        apply l_q rfl
        · apply q_bin rfl rfl (fun w => g_int w); exact fun w => b_gtr w
        apply l_q rfl
        · first | exact q_pick_t rfl rfl | exact q_pick_f rfl rfl
        refine l_q rfl (q_move rfl) ?_
        first | refine l_part_d (t := 24) rfl (fun b => ?_) (fun b => ?_) | refine l_part_n (t := 24) rfl (fun b => ?_) (fun b => ?_) | refine l_part (t := 24) rfl (fun b => ?_) (fun b => ?_)
        · refine l_off rfl rfl rfl rfl ?_
          refine l_off rfl rfl rfl rfl ?_
          refine l_off rfl rfl rfl rfl ?_
          refine l_off rfl rfl rfl rfl ?_
          refine l_off rfl rfl rfl rfl ?_
          apply l_q rfl
          · first | exact q_pick_t rfl rfl | exact q_pick_f rfl rfl
          refine l_q rfl (q_move rfl) ?_
          refine l_off rfl rfl rfl rfl ?_
          refine l_off rfl rfl rfl rfl ?_
          refine l_off rfl rfl rfl rfl ?_
          refine l_off rfl rfl rfl rfl ?_
          apply l_q rfl
          · first | exact q_pick_t rfl rfl | exact q_pick_f rfl rfl
          refine l_q rfl (q_move rfl) ?_
          refine l_off rfl rfl rfl rfl ?_
          refine l_off rfl rfl rfl rfl ?_
          refine l_off rfl rfl rfl rfl ?_
          refine l_off rfl rfl rfl rfl ?_
          refine l_off rfl rfl rfl rfl ?_
          refine l_off rfl rfl rfl rfl ?_
          refine l_off rfl rfl rfl rfl ?_
          apply l_q rfl
          · first | exact q_pick_t rfl rfl | exact q_pick_f rfl rfl
          refine l_nil ?_
          refine n_code ?_
          refine t_cond_t rfl ?_
          refine t_seq ?_
          refine t_region ?_
          refine l_q rfl (q_assign rfl) ?_
          refine l_nil ?_
          refine n_code ?_
          refine t_ret ?_
          refine r_code ?_
          exact absurd b (by omega)
        · refine l_on rfl rfl ?_
          refine l_q rfl (q_move rfl) ?_
          refine l_on rfl rfl ?_
          refine l_q rfl (q_move rfl) ?_
          refine l_on rfl rfl ?_
          apply l_q rfl
          · apply q_bin rfl rfl (fun w => g_int w); first | exact fun w => b_sub_i w (by omega) | exact fun w => b_sub w
          refine l_on rfl rfl ?_
          apply l_q rfl
          · apply q_bin rfl rfl (fun w => g_int w); exact fun w => b_bits w rfl
          refine l_on rfl rfl ?_
          apply l_q rfl
          · apply q_bin rfl rfl (fun w => g_int w); exact fun w => b_neq w
          apply l_q rfl
          · first | exact q_pick_t rfl rfl | exact q_pick_f rfl rfl
          refine l_q rfl (q_move rfl) ?_
          first | refine l_part_d (t := 31) rfl (fun d => ?_) (fun d => ?_) | refine l_part_n (t := 31) rfl (fun d => ?_) (fun d => ?_) | refine l_part (t := 31) rfl (fun d => ?_) (fun d => ?_)
          · refine l_off rfl rfl rfl rfl ?_
            refine l_off rfl rfl rfl rfl ?_
            refine l_off rfl rfl rfl rfl ?_
            refine l_off rfl rfl rfl rfl ?_
            apply l_q rfl
            · first | exact q_pick_t rfl rfl | exact q_pick_f rfl rfl
            refine l_q rfl (q_move rfl) ?_
            refine l_off rfl rfl rfl rfl ?_
            refine l_off rfl rfl rfl rfl ?_
            refine l_off rfl rfl rfl rfl ?_
            refine l_off rfl rfl rfl rfl ?_
            refine l_off rfl rfl rfl rfl ?_
            refine l_off rfl rfl rfl rfl ?_
            refine l_off rfl rfl rfl rfl ?_
            apply l_q rfl
            · first | exact q_pick_t rfl rfl | exact q_pick_f rfl rfl
            refine l_nil ?_
            refine n_code ?_
            refine t_cond_t rfl ?_
            refine t_seq ?_
            refine t_region ?_
            refine l_q rfl (q_assign rfl) ?_
            refine l_nil ?_
            refine n_code ?_
            refine t_ret ?_
            refine r_code ?_
            rw [← pow2_eq (by omega) (by omega)] at hp2
            exact absurd (of_decide_eq_true hp2) d
          · refine l_on rfl rfl ?_
            refine l_q rfl (q_move rfl) ?_
            refine l_on rfl rfl ?_
            apply l_callf rfl rfl rfl (Most_ok _)
            · repeat (first | with_reducible exact .nil | apply Pick.cons | with_reducible exact .here | apply Take.there)
            rintro v L' ⟨rfl, rfl⟩
            refine l_norm fun M hM => ?_
            try simp only [List.cons_append, List.nil_append, List.append_nil] at hM
            subst M
            refine l_on rfl rfl ?_
            refine l_q rfl (q_move rfl) ?_
            refine l_on rfl rfl ?_
            apply l_q rfl
            · apply q_bin rfl rfl (fun w => g_int w); exact fun w => b_lss w
            apply l_q rfl
            · first | exact q_pick_t rfl rfl | exact q_pick_f rfl rfl
            refine l_q rfl (q_move rfl) ?_
            first | refine l_part_d (t := 37) rfl (fun f => ?_) (fun f => ?_) | refine l_part_n (t := 37) rfl (fun f => ?_) (fun f => ?_) | refine l_part (t := 37) rfl (fun f => ?_) (fun f => ?_)
            · refine l_off rfl rfl rfl rfl ?_
              refine l_off rfl rfl rfl rfl ?_
              refine l_off rfl rfl rfl rfl ?_
              refine l_off rfl rfl rfl rfl ?_
              refine l_off rfl rfl rfl rfl ?_
              refine l_off rfl rfl rfl rfl ?_
              refine l_off rfl rfl rfl rfl ?_
              apply l_q rfl
              · first | exact q_pick_t rfl rfl | exact q_pick_f rfl rfl
              refine l_nil ?_
              refine n_code ?_
              refine t_cond_t rfl ?_
              refine t_seq ?_
              refine t_region ?_
              refine l_q rfl (q_assign rfl) ?_
              refine l_nil ?_
              refine n_code ?_
              refine t_ret ?_
              refine r_code ?_
              exact absurd f (by omega)
            · refine l_on rfl rfl ?_
              refine l_q rfl (q_move rfl) ?_
              refine l_on rfl rfl ?_
              apply l_callf rfl rfl rfl (Most_ok _)
              · repeat (first | with_reducible exact .nil | apply Pick.cons | with_reducible exact .here | apply Take.there)
              rintro v L' ⟨rfl, rfl⟩
              refine l_norm fun M hM => ?_
              try simp only [List.cons_append, List.nil_append, List.append_nil] at hM
              subst M
              refine l_on rfl rfl ?_
              refine l_q rfl (q_move rfl) ?_
              refine l_on rfl rfl ?_
              refine l_q rfl (q_move rfl) ?_
              refine l_on rfl rfl ?_
              apply l_q rfl
              · apply q_bin rfl rfl (fun w => g_int w); first | exact fun w => b_quo_i w (by omega) | exact fun w => b_quo w (by omega)
              refine l_on rfl rfl ?_
              apply l_q rfl
              · apply q_bin rfl rfl (fun w => g_int w); first | exact fun w => b_sub_i w (by omega) | exact fun w => b_sub w
              refine l_on rfl rfl ?_
              apply l_q rfl
              · apply q_bin rfl rfl (fun w => g_int w); exact fun w => b_neq w
              apply l_q rfl
              · first | exact q_pick_t rfl rfl | exact q_pick_f rfl rfl
              refine l_nil ?_
              refine n_code ?_
              first | refine t_cond_d rfl (fun q => ?_) (fun q => ?_) | refine t_cond_n rfl (fun q => ?_) (fun q => ?_) | refine t_cond rfl (fun q => ?_) (fun q => ?_)
              · exact absurd (show mostI s = s - s / 8 by rw [hm]; omega) q
              · refine t_skip ?_
                refine n_code ?_
                refine t_seq ?_
                refine t_region ?_
                refine l_q rfl (q_move rfl) ?_
                apply l_q rfl
                · apply q_bin rfl rfl (fun w => g_int w); exact fun w => b_eql w
                refine l_q rfl (q_move rfl) ?_
                first | refine l_part_d (t := 48) rfl (fun r => ?_) (fun r => ?_) | refine l_part_n (t := 48) rfl (fun r => ?_) (fun r => ?_) | refine l_part (t := 48) rfl (fun r => ?_) (fun r => ?_)
                · refine l_off rfl rfl rfl rfl ?_
                  refine l_off rfl rfl rfl rfl ?_
                  refine l_off rfl rfl rfl rfl ?_
                  refine l_off rfl rfl rfl rfl ?_
                  refine l_off rfl rfl rfl rfl ?_
                  refine l_off rfl rfl rfl rfl ?_
                  refine l_offu rfl rfl rfl ?_
                  refine l_offu rfl rfl rfl ?_
                  refine l_offu rfl rfl rfl ?_
                  refine l_offu rfl rfl rfl ?_
                  refine l_off rfl rfl rfl rfl ?_
                  apply l_q rfl
                  · first | exact q_pick_t rfl rfl | exact q_pick_f rfl rfl
                  refine l_q rfl (q_assign rfl) ?_
                  refine l_nil ?_
                  refine n_code ?_
                  refine t_ret ?_
                  apply f_ret (.inl rfl) ([])
                  · apply res1 rfl
                    · exact .tmp rfl
                  · exact ⟨rfl, rfl⟩
                  · first | exact Ent.refl _ | ((try push_cast); apply Sel.ent; (repeat (first | apply Sel.cons | with_reducible exact Sel.nil | apply Sel.rest | with_reducible exact Take.here | apply Take.there | exact Drop.refl | apply Drop.skip)))
                · refine l_on rfl rfl ?_
                  refine l_q rfl (q_move rfl) ?_
                  refine l_on rfl rfl ?_
                  apply l_q rfl
                  · apply q_bin rfl rfl (fun w => g_int w); first | exact fun w => b_quo_i w (by omega) | exact fun w => b_quo w (by omega)
                  refine l_on rfl rfl ?_
                  have k0 : k ≠ 0 := by
                    rintro rfl
                    exact r (by simpa using hsk)
                  have h2 := pow_step (k - 1)
                  rw [show k - 1 + 1 = k by omega] at h2
                  have hm2 : mostI (s / 2) = 7 * 2 ^ (k - 1) := by
                    rw [show s / 2 = 8 * 2 ^ (k - 1) by omega]; exact most8 _ (by omega)
                  apply l_callf rfl rfl rfl (Most_ok _)
                  · repeat (first | with_reducible exact .nil | apply Pick.cons | with_reducible exact .here | apply Take.there)
                  rintro v L' ⟨rfl, rfl⟩
                  refine l_norm fun M hM => ?_
                  try simp only [List.cons_append, List.nil_append, List.append_nil] at hM
                  subst M
                  refine l_on rfl rfl ?_
                  refine l_q rfl (q_move rfl) ?_
                  refine l_on rfl rfl ?_
                  apply l_q rfl
                  · apply q_bin rfl rfl (fun w => g_int w); exact fun w => b_lss w
                  refine l_on rfl rfl ?_
                  refine l_q rfl (q_move rfl) ?_
                  first | refine l_part_d (t := 54) rfl (fun t => ?_) (fun t => ?_) | refine l_part_n (t := 54) rfl (fun t => ?_) (fun t => ?_) | refine l_part (t := 54) rfl (fun t => ?_) (fun t => ?_)
                  · refine l_on rfl rfl ?_
                    refine l_q rfl (q_move rfl) ?_
                    refine l_on rfl rfl ?_
                    apply l_q rfl
                    · apply q_bin rfl rfl (fun w => g_int w); first | exact fun w => b_quo_i w (by omega) | exact fun w => b_quo w (by omega)
                    refine l_on rfl rfl ?_
                    apply l_callf rfl rfl rfl (Most_ok _)
                    · repeat (first | with_reducible exact .nil | apply Pick.cons | with_reducible exact .here | apply Take.there)
                    rintro v L' ⟨rfl, rfl⟩
                    refine l_norm fun M hM => ?_
                    try simp only [List.cons_append, List.nil_append, List.append_nil] at hM
                    subst M
                    refine l_on rfl rfl ?_
                    apply l_q rfl
                    · apply q_bin rfl rfl (fun w => g_int w); exact fun w => b_gtr w
                    refine l_on rfl rfl ?_
                    apply l_q rfl
                    · first | exact q_pick_t rfl rfl | exact q_pick_f rfl rfl
                    apply l_q rfl
                    · first | exact q_pick_t rfl rfl | exact q_pick_f rfl rfl
                    refine l_q rfl (q_assign rfl) ?_
                    refine l_nil ?_
                    refine n_code ?_
                    refine t_ret ?_
                    apply f_ret (.inl rfl) ([])
                    · apply res1 rfl
                      · exact .tmp rfl
                    · exact ⟨by rw [hm2]; rw [decide_eq_true (by have := hpos (k - 1); omega)], rfl⟩
                    · first | exact Ent.refl _ | ((try push_cast); apply Sel.ent; (repeat (first | apply Sel.cons | with_reducible exact Sel.nil | apply Sel.rest | with_reducible exact Take.here | apply Take.there | exact Drop.refl | apply Drop.skip)))
                  · refine l_off rfl rfl rfl rfl ?_
                    refine l_off rfl rfl rfl rfl ?_
                    refine l_off rfl rfl rfl rfl ?_
                    refine l_off rfl rfl rfl rfl ?_
                    refine l_on rfl rfl ?_
                    apply l_q rfl
                    · first | exact q_pick_t rfl rfl | exact q_pick_f rfl rfl
                    apply l_q rfl
                    · first | exact q_pick_t rfl rfl | exact q_pick_f rfl rfl
                    refine l_q rfl (q_assign rfl) ?_
                    refine l_nil ?_
                    refine n_code ?_
                    refine t_ret ?_
                    exact absurd (show mostI (s / 2) < n by rw [hm2]; omega) t
end Go.Proofs.Ytbooplbhlmiihaa.Probe
