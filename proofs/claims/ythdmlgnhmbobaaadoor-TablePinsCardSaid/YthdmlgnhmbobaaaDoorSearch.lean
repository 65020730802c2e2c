/- The contract of slices.BinarySearch over rising whole numbers. -/
import Derived.Test.YthdmlgnhmbobaaaDoorTypes
import Derived.Test.YthdmlgnhmbobaaaDoorBits
set_option linter.unusedVariables false
set_option linter.unusedSimpArgs false
set_option maxRecDepth 100000
namespace Go.Proofs.YthdmlgnhmbobaaaDoor.Search
open Go.RowKit Go.Proofs Go.Proofs.YthdmlgnhmbobaaaDoor.Eng Go.Proofs.YthdmlgnhmbobaaaDoor.Ty Go.Proofs.YthdmlgnhmbobaaaDoor.Bits

def ints (xs : List Int) : List Value := xs.map fun x => .int .i64 x
theorem ints_at {xs : List Int} {i : Nat} (h : i < xs.length) : (ints xs)[i]? = some (.int .i64 xs[i]) := by simp [ints, h]
theorem ints_len (xs : List Int) : (ints xs).length = xs.length := by simp [ints]

theorem isNaN1_ok (x : Int) : FnOk Tryd.prog 128 #[.int .i64 x] [] (fun v L => v = .bool false ∧ L = []) := by
  refine fn_intro en128 Tryd.func128 rfl rfl rfl ?_
  intro Fr w0
  refine t_nm ?_
  refine t_seq ?_
  refine t_region ?_
  refine l_q rfl (q_assign rfl) ?_
  refine l_nil ?_
  refine n_code ?_
  refine t_seq ?_
  refine t_region ?_
  refine l_q rfl (q_move rfl) ?_
  refine l_q rfl (q_move rfl) ?_
  apply l_q rfl
  · apply q_bin rfl rfl (fun w => g_int w); exact fun w => b_neq w
  refine l_q rfl (q_assign rfl) ?_
  refine l_nil ?_
  refine n_code ?_
  refine t_ret ?_
  apply f_ret (.inl rfl) ([])
  · apply res1 rfl
    · exact .tmp rfl
  · exact ⟨by simp, rfl⟩
  · exact en
theorem isNaN2_ok (x : Int) : FnOk Tryd.prog 126 #[.int .i64 x] [] (fun v L => v = .bool false ∧ L = []) := by
  refine fn_intro en126 Tryd.func126 rfl rfl rfl ?_
  intro Fr w0
  refine t_nm ?_
  refine t_seq ?_
  refine t_region ?_
  refine l_q rfl (q_assign rfl) ?_
  refine l_nil ?_
  refine n_code ?_
  refine t_seq ?_
  refine t_region ?_
  refine l_q rfl (q_move rfl) ?_
  refine l_q rfl (q_move rfl) ?_
  apply l_q rfl
  · apply q_bin rfl rfl (fun w => g_int w); exact fun w => b_neq w
  refine l_q rfl (q_assign rfl) ?_
  refine l_nil ?_
  refine n_code ?_
  refine t_ret ?_
  apply f_ret (.inl rfl) ([])
  · apply res1 rfl
    · exact .tmp rfl
  · exact ⟨by simp, rfl⟩
  · exact en
theorem Less_ok (x y : Int) : FnOk Tryd.prog 125 #[.int .i64 x, .int .i64 y] [] (fun v L => v = .bool (decide (x < y)) ∧ L = []) := by
  refine fn_intro en125 Tryd.func125 rfl rfl rfl ?_
  intro Fr w0
  refine t_nm ?_
  refine t_seq ?_
  refine t_region ?_
  refine l_q rfl (q_assign rfl) ?_
  refine l_nil ?_
  refine n_code ?_
  refine t_seq ?_
  refine t_region ?_
  refine l_q rfl (q_move rfl) ?_
  apply l_callf rfl rfl rfl (isNaN1_ok _)
  · exact pk
  rintro v L' ⟨rfl, rfl⟩
  refine l_nm ?_
  refine l_q rfl (q_move rfl) ?_
  first | refine l_part_d (t := 7) rfl (fun h => ?_) (fun h => ?_) | refine l_part_n (t := 7) rfl (fun h => ?_) (fun h => ?_) | refine l_part (t := 7) rfl (fun h => ?_) (fun h => ?_)
  · cases h
  · refine l_off rfl rfl rfl rfl ?_
    refine l_off rfl rfl rfl rfl ?_
    refine l_off rfl rfl rfl rfl ?_
    first | refine l_q rfl (q_pick_t rfl rfl) ?_ | refine l_q rfl (q_pick_f rfl rfl) ?_
    refine l_q rfl (q_move rfl) ?_
    refine l_on rfl rfl ?_
    refine l_q rfl (q_move rfl) ?_
    refine l_on rfl rfl ?_
    refine l_q rfl (q_move rfl) ?_
    refine l_on rfl rfl ?_
    apply l_q rfl
    · apply q_bin rfl rfl (fun w => g_int w); exact fun w => b_lss w
    first | refine l_q rfl (q_pick_t rfl rfl) ?_ | refine l_q rfl (q_pick_f rfl rfl) ?_
    refine l_q rfl (q_assign rfl) ?_
    refine l_nil ?_
    refine n_code ?_
    refine t_ret ?_
    apply f_ret (.inl rfl) ([])
    · apply res1 rfl
      · exact .tmp rfl
    · exact ⟨rfl, rfl⟩
    · exact en

/-- Where t belongs. -/
def placed (xs : List Int) (t : Int) (i : Nat) : Prop := i ≤ xs.length ∧ (∀ j (h : j < xs.length), j < i → xs[j] < t) ∧ (∀ j (h : j < xs.length), i ≤ j → t ≤ xs[j])
theorem Search_ok (xs : List Int) (g k cap : Nat) (t : Int) (hk : xs.length = k) (hkb : k ≤ 4611686018427387904) (hs : ∀ i j (hi : i < xs.length) (hj : j < xs.length), i < j → xs[i] < xs[j]) :
    FnOk Tryd.prog 116 #[.slice (some ⟨g, 0, none⟩) k cap, .int .i64 t] [ownS 3 1 (.slice (some ⟨g, 0, none⟩) k cap) k (ints xs)]
      (fun v L => (∃ i : Nat, v = .tuple #[.int .i64 i, .bool (decide (xs[i]? = some t))] ∧ placed xs t i) ∧ L = [ownS 3 1 (.slice (some ⟨g, 0, none⟩) k cap) k (ints xs)]) := by
  refine fn_intro en116 Tryd.func116 rfl rfl rfl ?_
  intro Fr w0
  refine t_nm ?_
  refine t_seq ?_
  refine t_region ?_
  refine l_q rfl (q_assign rfl) ?_
  refine l_q rfl (q_assign rfl) ?_
  refine l_nil ?_
  refine n_code ?_
  refine t_seq ?_
  refine t_region ?_
  refine l_q rfl (q_move rfl) ?_
  refine l_q rfl (q_len rfl (fun w => len_slice Tryd.underlying22 w)) ?_
  refine l_q rfl (q_assign rfl) ?_
  refine l_nil ?_
  refine n_code ?_
  refine t_seq ?_
  refine t_region ?_
  refine l_q rfl (q_move rfl) ?_
  refine l_q rfl (q_assign rfl) ?_
  refine l_q rfl (q_assign rfl) ?_
  refine l_nil ?_
  refine n_code ?_
  refine t_seq ?_
  refine t_block ?_
  refine t_loop (fun x : Nat × Nat => x.1 ≤ x.2 ∧ x.2 ≤ k ∧ (∀ j (h : j < xs.length), j < x.1 → xs[j] < t) ∧ (∀ j (h : j < xs.length), x.2 ≤ j → t ≤ xs[j])) (fun x => [(0, .slice (some ⟨g, 0, none⟩) k cap), (1, .int .i64 t), (6, .int .i64 k), (7, .int .i64 x.1), (8, .int .i64 x.2)]) (fun _ => ownS 3 1 (.slice (some ⟨g, 0, none⟩) k cap) k (ints xs) :: Fr) (fun x => x.2 - x.1) (0, k) ⟨by omega, by omega, by omega, fun j h h2 => by omega⟩ ⟨rfl, rfl, rfl, rfl, rfl, trivial⟩ (Ent.refl _) ?_
  rintro ⟨i, j⟩ ⟨hij, hjk, hlo, hhi⟩
  dsimp only at hij hjk hlo hhi ⊢
  refine t_seq ?_
  refine t_seq ?_
  refine t_region ?_
  refine l_q rfl (q_move rfl) ?_
  refine l_q rfl (q_move rfl) ?_
  apply l_q rfl
  · apply q_bin rfl rfl (fun w => g_int w); exact fun w => b_lss w
  refine l_nil ?_
  refine n_code ?_
  first | refine t_cond_d rfl (fun h => ?_) (fun h => ?_) | refine t_cond_n rfl (fun h => ?_) (fun h => ?_) | refine t_cond rfl (fun h => ?_) (fun h => ?_)
  · have hm : (((i : Int) + (j : Int)) / 2).toNat = (i + j) / 2 := by omega
    refine t_skip ?_
    refine n_code ?_
    refine t_block ?_
    refine t_seq ?_
    refine t_region ?_
    refine l_q rfl (q_move rfl) ?_
    refine l_q rfl (q_move rfl) ?_
    apply l_q rfl
    · apply q_bin rfl rfl (fun w => g_int w); first | exact fun w => b_add_i w (by omega) | exact fun w => b_add w
    apply l_q rfl
    · apply q_conv rfl; first | exact fun w => c_int_u w Tryd.underlying3 Tryd.underlying106 (by omega) | exact fun w => c_int w Tryd.underlying3 Tryd.underlying106
    apply l_q rfl
    · apply q_bin rfl rfl (fun w => g_int w); first | exact fun w => b_shr_c (m := 2) w (by decide) (by decide) (by omega) | exact fun w => b_shr w (by decide)
    apply l_q rfl
    · apply q_conv rfl; first | exact fun w => c_int_i w Tryd.underlying106 Tryd.underlying3 (by omega) | exact fun w => c_int w Tryd.underlying106 Tryd.underlying3
    refine l_q rfl (q_assign rfl) ?_
    refine l_nil ?_
    refine n_code ?_
    refine t_seq ?_
    refine t_region ?_
    refine l_q rfl (q_move rfl) ?_
    refine l_q rfl (q_move rfl) ?_
    refine l_q rfl (q_indexAddr1 rfl rfl Tryd.underlying22 ty_size3 (by omega)) ?_
    apply l_q rfl
    · apply q_loadOwn rfl ty_agg3
      · exact tk
      · rw [Nat.zero_add, hm, ints_at (by omega)]
    refine l_q rfl (q_move rfl) ?_
    apply l_callf rfl rfl rfl (Less_ok _ _)
    · exact pk
    rintro v L' ⟨rfl, rfl⟩
    refine l_nm ?_
    refine l_nil ?_
    refine n_code ?_
    first | refine t_cond_d rfl (fun q => ?_) (fun q => ?_) | refine t_cond_n rfl (fun q => ?_) (fun q => ?_) | refine t_cond rfl (fun q => ?_) (fun q => ?_)
    · refine t_region ?_
      refine l_q rfl (q_move rfl) ?_
      apply l_q rfl
      · apply q_bin rfl rfl (fun w => g_int w); first | exact fun w => b_add_i w (by omega) | exact fun w => b_add w
      refine l_q rfl (q_assign rfl) ?_
      refine l_nil ?_
      refine n_blk ?_
      apply n_again (((i + j) / 2 + 1, j))
      · exact ⟨by dsimp only; omega, hjk, fun a ha hai => by by_cases e : a = (i + j) / 2; (subst e; exact q); exact Int.lt_trans (hs a ((i + j) / 2) ha (by omega) (by dsimp only at hai; omega)) q, hhi⟩
      · dsimp only; omega
      · exact ⟨rfl, rfl, rfl, congrArg (fun z => some (Value.int .i64 z)) (by omega : ((i : Int) + (j : Int)) / 2 + 1 = (((i + j) / 2 + 1 : Nat) : Int)), rfl, trivial⟩
      · exact en
    · refine t_region ?_
      refine l_q rfl (q_move rfl) ?_
      refine l_q rfl (q_assign rfl) ?_
      refine l_nil ?_
      refine n_blk ?_
      apply n_again ((i, (i + j) / 2))
      · exact ⟨by dsimp only; omega, by dsimp only; omega, hlo, fun a ha hai => by by_cases e : a = (i + j) / 2; (subst e; omega); have := hs ((i + j) / 2) a (by omega) ha (by dsimp only at hai; omega); omega⟩
      · dsimp only; omega
      · exact ⟨rfl, rfl, rfl, rfl, congrArg (fun z => some (Value.int .i64 z)) (by omega : ((i : Int) + (j : Int)) / 2 = (((i + j) / 2 : Nat) : Int)), trivial⟩
      · exact en
  · refine t_exit ?_
    refine x_code ?_
    refine x_lp ?_
    refine x_hit ?_
    refine n_code ?_
    refine t_seq ?_
    refine t_region ?_
    refine l_q rfl (q_move rfl) ?_
    refine l_q rfl (q_move rfl) ?_
    refine l_q rfl (q_move rfl) ?_
    apply l_q rfl
    · apply q_bin rfl rfl (fun w => g_int w); exact fun w => b_lss w
    refine l_q rfl (q_move rfl) ?_
    obtain rfl : i = j := by omega
    have hpl : placed xs t i := ⟨by omega, hlo, hhi⟩
    first | refine l_part_d (t := 35) rfl (fun a => ?_) (fun a => ?_) | refine l_part_n (t := 35) rfl (fun a => ?_) (fun a => ?_) | refine l_part (t := 35) rfl (fun a => ?_) (fun a => ?_)
    · refine l_on rfl rfl ?_
      refine l_q rfl (q_move rfl) ?_
      refine l_on rfl rfl ?_
      refine l_q rfl (q_move rfl) ?_
      refine l_on rfl rfl ?_
      refine l_q rfl (q_indexAddr1 rfl rfl Tryd.underlying22 ty_size3 (by omega)) ?_
      refine l_on rfl rfl ?_
      apply l_q rfl
      · apply q_loadOwn rfl ty_agg3
        · exact tk
        · rw [Nat.zero_add, Int.toNat_natCast, ints_at (by omega)]
      refine l_on rfl rfl ?_
      refine l_q rfl (q_move rfl) ?_
      refine l_on rfl rfl ?_
      apply l_q rfl
      · apply q_bin rfl rfl (fun w => g_int w); exact fun w => b_eql w
      refine l_on rfl rfl ?_
      refine l_q rfl (q_move rfl) ?_
      have hil : i < xs.length := by omega
      first | refine l_part_d (t := 42) rfl (fun b => ?_) (fun b => ?_) | refine l_part_n (t := 42) rfl (fun b => ?_) (fun b => ?_) | refine l_part (t := 42) rfl (fun b => ?_) (fun b => ?_)
      · refine l_off rfl rfl rfl rfl ?_
        refine l_off rfl rfl rfl rfl ?_
        refine l_off rfl rfl rfl rfl ?_
        refine l_off rfl rfl rfl rfl ?_
        refine l_off rfl rfl rfl rfl ?_
        refine l_off rfl rfl rfl rfl ?_
        refine l_offu rfl rfl rfl ?_
        refine l_offu rfl rfl rfl ?_
        refine l_off rfl rfl rfl rfl ?_
        refine l_on rfl rfl ?_
        first | refine l_q rfl (q_pick_t rfl rfl) ?_ | refine l_q rfl (q_pick_f rfl rfl) ?_
        first | refine l_q rfl (q_pick_t rfl rfl) ?_ | refine l_q rfl (q_pick_f rfl rfl) ?_
        refine l_q rfl (q_assign rfl) ?_
        refine l_q rfl (q_assign rfl) ?_
        refine l_nil ?_
        refine n_code ?_
        refine t_ret ?_
        apply f_ret (.inl rfl) ([ownS 3 1 (.slice (some ⟨g, 0, none⟩) k cap) k (ints xs)])
        · apply res2 rfl
          · exact .tmp rfl
          · exact .tmp rfl
        · exact ⟨⟨i, by rw [List.getElem?_eq_getElem hil, b, decide_eq_true rfl], hpl⟩, rfl⟩
        · exact en
      · refine l_on rfl rfl ?_
        refine l_q rfl (q_move rfl) ?_
        refine l_on rfl rfl ?_
        refine l_q rfl (q_move rfl) ?_
        refine l_on rfl rfl ?_
        refine l_q rfl (q_indexAddr1 rfl rfl Tryd.underlying22 ty_size3 (by omega)) ?_
        refine l_on rfl rfl ?_
        apply l_q rfl
        · apply q_loadOwn rfl ty_agg3
          · exact tk
          · rw [Nat.zero_add, Int.toNat_natCast, ints_at (by omega)]
        refine l_on rfl rfl ?_
        apply l_callf rfl rfl rfl (isNaN2_ok _)
        · exact pk
        rintro v L' ⟨rfl, rfl⟩
        refine l_nm ?_
        refine l_on rfl rfl ?_
        refine l_q rfl (q_move rfl) ?_
        first | refine l_part_d (t := 48) rfl (fun e => ?_) (fun e => ?_) | refine l_part_n (t := 48) rfl (fun e => ?_) (fun e => ?_) | refine l_part (t := 48) rfl (fun e => ?_) (fun e => ?_)
        · cases e
        · refine l_off rfl rfl rfl rfl ?_
          refine l_off rfl rfl rfl rfl ?_
          refine l_on rfl rfl ?_
          first | refine l_q rfl (q_pick_t rfl rfl) ?_ | refine l_q rfl (q_pick_f rfl rfl) ?_
          refine l_on rfl rfl ?_
          first | refine l_q rfl (q_pick_t rfl rfl) ?_ | refine l_q rfl (q_pick_f rfl rfl) ?_
          first | refine l_q rfl (q_pick_t rfl rfl) ?_ | refine l_q rfl (q_pick_f rfl rfl) ?_
          refine l_q rfl (q_assign rfl) ?_
          refine l_q rfl (q_assign rfl) ?_
          refine l_nil ?_
          refine n_code ?_
          refine t_ret ?_
          apply f_ret (.inl rfl) ([ownS 3 1 (.slice (some ⟨g, 0, none⟩) k cap) k (ints xs)])
          · apply res2 rfl
            · exact .tmp rfl
            · exact .tmp rfl
          · exact ⟨⟨i, by rw [List.getElem?_eq_getElem hil, decide_eq_false (by simpa using b)], hpl⟩, rfl⟩
          · exact en
    · refine l_off rfl rfl rfl rfl ?_
      refine l_off rfl rfl rfl rfl ?_
      refine l_off rfl rfl rfl rfl ?_
      refine l_off rfl rfl rfl rfl ?_
      refine l_off rfl rfl rfl rfl ?_
      refine l_off rfl rfl rfl rfl ?_
      refine l_off rfl rfl rfl rfl ?_
      refine l_offu rfl rfl rfl ?_
      refine l_offu rfl rfl rfl ?_
      refine l_offu rfl rfl rfl ?_
      refine l_offu rfl rfl rfl ?_
      refine l_offu rfl rfl rfl ?_
      refine l_offu rfl rfl rfl ?_
      refine l_offu rfl rfl rfl ?_
      refine l_offu rfl rfl rfl ?_
      refine l_offu rfl rfl rfl ?_
      refine l_off rfl rfl rfl rfl ?_
      first | refine l_q rfl (q_pick_t rfl rfl) ?_ | refine l_q rfl (q_pick_f rfl rfl) ?_
      refine l_q rfl (q_assign rfl) ?_
      refine l_q rfl (q_assign rfl) ?_
      refine l_nil ?_
      refine n_code ?_
      refine t_ret ?_
      apply f_ret (.inl rfl) ([ownS 3 1 (.slice (some ⟨g, 0, none⟩) k cap) k (ints xs)])
      · apply res2 rfl
        · exact .tmp rfl
        · exact .tmp rfl
      · exact ⟨⟨i, by rw [List.getElem?_eq_none (by omega)]; rfl, hpl⟩, rfl⟩
      · exact en
end Go.Proofs.YthdmlgnhmbobaaaDoor.Search
