/- The document's class of a size; the arena's live bytes. -/
import Derived.Test.YtgijnebgchkenaaGreatDoorArenaW
set_option linter.unusedVariables false
set_option linter.unusedSimpArgs false
set_option maxRecDepth 100000
namespace Go.Proofs.YtgijnebgchkenaaGreatDoor.Arena
open Go.RowKit Go.Proofs Go.Proofs.YtgijnebgchkenaaGreatDoor.Eng Go.Proofs.YtgijnebgchkenaaGreatDoor.Ty Go.Proofs.YtgijnebgchkenaaGreatDoor.Bits Go.Proofs.YtgijnebgchkenaaGreatDoor.Mem Go.Proofs.YtgijnebgchkenaaGreatDoor.Search

theorem class_two {n : Int} {e : Nat} (h0 : 1 ≤ n ∧ n ≤ 1048576) (h : twoI n = 16 * 2 ^ e) : classI n = if 24 < 12 * (2 : Int) ^ e ∧ n ≤ 12 * 2 ^ e then 12 * 2 ^ e else 16 * 2 ^ e := by
  unfold classI
  rw [if_neg (by omega), h, show (16 : Int) * 2 ^ e / 4 * 3 = 12 * 2 ^ e by omega]
theorem pow2_int (e : Nat) : (2 : Int) ^ (e + 1) = 2 * 2 ^ e := by rw [Int.pow_succ, Int.mul_comm]
theorem pow2_ge : ∀ {e : Nat}, 1 ≤ e → (2 : Int) ≤ 2 ^ e
  | k + 1, _ => by
    have h1 := pow2_int k
    have h2 : (1 : Int) ≤ 2 ^ k := Int.pow_pos (by decide)
    omega
theorem class_at {n : Int} {e : Nat} (h0 : 1 ≤ n ∧ n ≤ 1048576) (he : e ≤ 16) (hno : ∀ j, j < e → 16 * (2 : Int) ^ j < n) (hmid : ∀ j, 1 ≤ j → j < e → 24 * (2 : Int) ^ j < n) (h : n ≤ 16 * 2 ^ e) : classI n = 16 * 2 ^ e := by
  rw [class_two h0 (two_hit h he hno), if_neg]
  rintro ⟨a, b⟩
  match e, hmid, a, b with
  | 0, _, a, _ => simp at a
  | 1, _, a, _ => simp at a
  | k + 2, hmid, _, b => have := hmid (k + 1) (by omega) (by omega); rw [pow2_int] at b; omega
theorem class_mid {n : Int} {e : Nat} (h0 : 1 ≤ n ∧ n ≤ 1048576) (h1 : 1 ≤ e) (he : e < 16) (hno : ∀ j, j < e → 16 * (2 : Int) ^ j < n) (hn : 16 * 2 ^ e < n) (h : n ≤ 24 * 2 ^ e) : classI n = 24 * 2 ^ e := by
  have hp := pow2_int e
  have ht : twoI n = 16 * 2 ^ (e + 1) := two_hit (by omega) (by omega) fun j hj => by
    rcases Nat.lt_or_ge j e with q | q
    · exact hno j q
    · rw [show j = e by omega]; exact hn
  have h2 : (2 : Int) ≤ 2 ^ e := by
    match e, h1 with
    | k + 1, _ =>
      have := pow2_int k
      have := Int.pow_pos (n := 2) (m := k) (by decide)
      omega
  rw [class_two h0 ht, if_pos (by omega)]
  omega
theorem Class02_ok (n : Int) : FnOk Tryz.prog 102 #[.int .i64 n] [] (fun v L => v = .int .i64 (classI n) ∧ L = []) := by
  refine fn_intro en102 Tryz.func102 rfl rfl rfl fun Fr w0 => t_nm ?_
  refine sr <| asg rfl rfl <| lc <| t_seq <| sr <| mv rfl rfl <| l_q rfl (qi rfl rfl (b_lss ·)) <| mv rfl rfl <| l_pt (t := 6) rfl (fun h1 => ?_) fun h1 => ?_
  · refine l_off rfl rfl rfl rfl <| l_off rfl rfl rfl rfl <| l_q rfl (q_pk rfl rfl) <| lc <| t_cond_t rfl <| sr <| asg rfl rfl <| lc <| rt <| fr1 rfl ([]) (.tmp rfl) ?_
    exact ⟨by unfold classI; rw [if_pos (.inl h1)], rfl⟩
  · refine l_on rfl rfl <| mv rfl rfl <| l_on rfl rfl <| l_q rfl (qi rfl rfl (b_gtr ·)) <| l_q rfl (q_pk rfl rfl) <| lc <| t_if rfl (fun h2 => ?_) fun h2 => ?_
    · refine sr <| asg rfl rfl <| lc <| rt <| fr1 rfl ([]) (.tmp rfl) ?_
      exact ⟨by unfold classI; rw [if_pos (.inr h2)], rfl⟩
    · refine t_skip <| n_code <| t_seq <| sr <| asg rfl rfl <| lc <| t_block ?_
      refine t_loop (fun e : Nat => e ≤ 16 ∧ (∀ j, j < e → 16 * (2 : Int) ^ j < n) ∧ ∀ j, 1 ≤ j → j < e → 24 * (2 : Int) ^ j < n) (fun e => [(0, .int .i64 n), (3, .int .i64 (16 * (2 : Int) ^ e))]) (fun _ => Fr) (fun e => 16 - e) 0 ⟨by decide, by omega, by omega⟩ ⟨rfl, rfl, trivial⟩ (Ent.refl _) ?_
      rintro e ⟨he, hno, hmid⟩
      have hp0 : (1 : Int) ≤ 2 ^ e := Int.pow_pos (by decide)
      have hp1 : (2 : Int) ^ e ≤ 65536 := by
        have h3 := pow_cast e
        have h4 : 2 ^ e ≤ 2 ^ 16 := Nat.pow_le_pow_right (by decide) he
        omega
      have hps := pow2_int e
      have hcl := class_at (n := n) (e := e) (by omega) he hno hmid
      have hcm := class_mid (n := n) (e := e) (by omega)
      have hlast := hno 15
      have he16 : 16 * (2 : Int) ^ e < 1048576 → e < 16 := fun h => by
        rcases Nat.lt_or_ge e 16 with q | q
        · exact q
        · have e16 : e = 16 := by omega
          rw [e16] at h; exact absurd h (by decide)
      have hge := pow2_ge (e := e)
      have he1 : 16 < 16 * (2 : Int) ^ e → 1 ≤ e := fun h => by
        rcases Nat.eq_zero_or_pos e with q | q
        · rw [q] at h; exact absurd h (by decide)
        · exact q
      have hnext : n > 16 * (2 : Int) ^ e → ∀ j, j < e + 1 → 16 * (2 : Int) ^ j < n := fun h j hj => by
        rcases Nat.lt_succ_iff_lt_or_eq.1 hj with q | rfl
        · exact hno j q
        · exact h
      have hnext2 : (1 ≤ e → 24 * (2 : Int) ^ e < n) → ∀ j, 1 ≤ j → j < e + 1 → 24 * (2 : Int) ^ j < n := fun h j h1 hj => by
        rcases Nat.lt_succ_iff_lt_or_eq.1 hj with q | rfl
        · exact hmid j h1 q
        · exact h h1
      have hdone : ¬ 16 * (2 : Int) ^ e < 1048576 → e = 16 := fun h => by
        rcases Nat.lt_or_ge e 16 with q | q
        · exfalso
          have h3 := pow_cast e
          have h4 : 2 ^ e ≤ 2 ^ 15 := Nat.pow_le_pow_right (by decide) (by omega)
          omega
        · omega
      generalize (2 : Int) ^ e = p at *
      refine t_seq <| sr <| mv rfl rfl <| l_q rfl (qi rfl rfl (b_lss ·)) <| lc <| t_if rfl (fun h3 => ?_) fun h3 => ?_
      · refine t_skip <| n_code <| t_seq <| t_block <| t_seq <| sr <| mv rfl rfl <| mv rfl rfl <| l_q rfl (qi rfl rfl (b_leq ·)) <| lc <| t_if rfl (fun h4 => ?_) fun h4 => ?_
        · refine sr <| mv rfl rfl <| asg rfl rfl <| lc <| rt <| fr1 rfl ([]) (.tmp rfl) ?_
          exact ⟨by rw [hcl h4], rfl⟩
        · refine t_skip <| nz <| mv rfl rfl <| l_q rfl (qi rfl rfl (b_gtr ·)) <| mv rfl rfl <| l_pt (t := 20) rfl (fun h5 => ?_) fun h5 => ?_
          · refine l_on rfl rfl <| mv rfl rfl <| l_on rfl rfl <| mv rfl rfl <| l_on rfl rfl <| l_q rfl (qquo rfl rfl) ?_
            refine l_on rfl rfl <| l_q rfl (qmul rfl rfl) ?_
            refine l_on rfl rfl <| l_q rfl (qi rfl rfl (b_leq ·)) <| l_q rfl (q_pk rfl rfl) <| lc <| t_if rfl (fun h6 => ?_) fun h6 => ?_
            · refine sr <| mv rfl rfl <| l_q rfl (qquo rfl rfl) ?_
              refine l_q rfl (qmul rfl rfl) ?_
              refine asg rfl rfl <| lc <| rt <| fr1 rfl ([]) (.tmp rfl) ?_
              exact ⟨by rw [hcm (he1 h5) (he16 h3) hno (by omega) (by omega)]; congr 1; omega, rfl⟩
            · refine t_skip <| n_blk <| n_code <| t_region <| mv rfl rfl <| l_q rfl (qmul rfl rfl) ?_
              refine asg rfl rfl <| l_nil ?_
              apply n_again ((e + 1))
              · exact ⟨by have := he16 h3; omega, hnext (by omega), hnext2 fun _ => by omega⟩
              · have := he16 h3; omega
              · exact ⟨rfl, by rw [hps, show (16 : Int) * (2 * p) = 2 * (16 * p) by omega]; rfl, trivial⟩
              · exact en
          · refine l_off rfl rfl rfl rfl <| l_off rfl rfl rfl rfl <| l_off rfl rfl rfl rfl <| l_off rfl rfl rfl rfl <| l_off rfl rfl rfl rfl <| l_q rfl (q_pk rfl rfl) <| lc <| t_cond_f rfl <| t_skip <| n_blk <| n_code <| t_region <| mv rfl rfl <| l_q rfl (qmul rfl rfl) ?_
            refine asg rfl rfl <| l_nil ?_
            apply n_again ((e + 1))
            · exact ⟨by have := he16 h3; omega, hnext (by omega), hnext2 fun q => by exfalso; have := hge q; omega⟩
            · have := he16 h3; omega
            · exact ⟨rfl, by rw [hps, show (16 : Int) * (2 * p) = 2 * (16 * p) by omega]; rfl, trivial⟩
            · exact en
      · refine xt rfl <| nz <| asg rfl rfl <| lc <| rt <| fr1 rfl ([]) (.tmp rfl) ?_
        exact ⟨by rw [hcl (by omega)]; congr 1; omega, rfl⟩
theorem Live_ok (pa : Nat) (s : ArS) : FnOk Tryz.prog 9 #[.pointer (some ⟨pa, 0, none⟩)] [arenaH pa s] (fun v L => v = .int .i64 s.live ∧ L = [arenaH pa s]) := by
  refine fn_intro en9 Tryz.func9 rfl rfl rfl fun Fr w0 => t_nm ?_
  refine arena_open fun x hx => ?_
  refine t_norm fun M hM => ?_
  simp only [List.cons_append, List.nil_append] at hM
  subst M
  refine sr <| asg rfl rfl <| lz <| mv rfl rfl <| l_q rfl (q_nilCheck rfl) <| l_q rfl (qfa 1 rfl yU128 rfl rfl yS3) <| l_q rfl (qld rfl yA3) ?_
  refine asg rfl rfl <| lc <| rt ?_
  apply f_ret (.inl rfl) ([arenaH pa s])
  · apply res1 rfl
    · exact .tmp rfl
  · exact ⟨rfl, rfl⟩
  · refine arena_close hx ?_; (exact en)
end Go.Proofs.YtgijnebgchkenaaGreatDoor.Arena
