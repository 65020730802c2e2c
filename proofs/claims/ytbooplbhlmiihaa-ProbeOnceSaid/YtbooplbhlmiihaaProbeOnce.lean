/- ProbeOnce answers true: its walk. -/
import Derived.Test.YtbooplbhlmiihaaProbeSz
import Derived.Test.YtbooplbhlmiihaaProbeWay
set_option linter.unusedVariables false
set_option linter.unusedSimpArgs false
set_option maxRecDepth 100000
namespace Go.Proofs.Ytbooplbhlmiihaa.Probe
open Go.RowKit Go.Proofs Go.Proofs.Ytbooplbhlmiihaa.Eng Go.Proofs.Ytbooplbhlmiihaa.Ty Go.Proofs.Ytbooplbhlmiihaa.Bits

/-- Which groups have been met before step k. -/
def metV (home : Int) (g k : Nat) : List Value := (List.range g).map fun (v : Nat) => .bool ((List.range k).any fun j => decide (ord home g j = (v : Int)))
theorem metV_len (home : Int) (g k : Nat) : (metV home g k).length = g := by simp [metV]
theorem metV_zero (home : Int) (g : Nat) : metV home g 0 = List.replicate g (.bool false) := by
  apply List.ext_getElem <;> simp [metV]
theorem metV_at {home : Int} {g e k : Nat} (hg : g = 2 ^ e) (hk : k < g) : (metV home g k)[(ord home g k).toNat]? = some (.bool false) := by
  have hb := ord_bounds home g k (by omega)
  have hlt : (ord home g k).toNat < g := by omega
  simp only [metV, List.getElem?_map, List.getElem?_range hlt, Option.map_some]
  congr 2
  rw [List.any_eq_false]
  intro j hj
  rw [List.mem_range] at hj
  simp only [decide_eq_true_eq]
  intro q
  have := ord_inj hg (by omega) hk (show ord home g j = ord home g k by omega)
  omega
theorem metV_set {home : Int} {g k : Nat} (hp : 0 < g) : (metV home g k).set (ord home g k).toNat (.bool true) = metV home g (k + 1) := by
  have hb := ord_bounds home g k hp
  apply List.ext_getElem
  · simp [metV]
  · intro i h1 h2
    rw [List.length_set, metV_len] at h1
    rw [List.getElem_set]
    simp only [metV, List.getElem_map, List.getElem_range, List.range_succ, List.any_append, List.any_cons, List.any_nil, Bool.or_false]
    by_cases q : (ord home g k).toNat = i
    · rw [if_pos q, show decide (ord home g k = (i : Int)) = true from decide_eq_true (by omega)]; simp
    · rw [if_neg q, show decide (ord home g k = (i : Int)) = false from decide_eq_false (by omega)]; simp

theorem ProbeOnce_ok (home groups : Int) (hh : 0 ≤ home ∧ home < 18446744073709551616) :
    FnOk Try.prog 5 #[.int .u64 home, .int .i64 groups] [] (fun v L => v = .bool true ∧ L = []) := by
  have hle := grp_le groups
  refine fn_intro en5 Try.func5 rfl rfl rfl ?_
  intro Fr w0
  refine t_norm fun M hM => ?_
  try simp only [List.cons_append, List.nil_append, List.append_nil] at hM
  subst M
  refine t_seq ?_
  refine t_region ?_
  refine o_alloc1 rfl ty_zero4 rfl (fun b4 => ?_)
  refine l_nil ?_
  refine n_code ?_
  refine t_seq ?_
  refine t_region ?_
  refine o_alloc1 rfl ty_zero32 rfl (fun b5 => ?_)
  refine l_nil ?_
  refine n_code ?_
  refine t_seq ?_
  refine t_seq ?_
  refine t_region ?_
  refine l_q rfl (q_move rfl) ?_
  apply l_callf rfl rfl rfl (valid_ok _)
  · repeat (first | with_reducible exact .nil | apply Pick.cons | with_reducible exact .here | apply Take.there)
  rintro v L' ⟨rfl, rfl⟩
  refine l_norm fun M hM => ?_
  try simp only [List.cons_append, List.nil_append, List.append_nil] at hM
  subst M
  refine l_nil ?_
  refine n_code ?_
  first | refine t_cond_d rfl (fun h => ?_) (fun h => ?_) | refine t_cond_n rfl (fun h => ?_) (fun h => ?_) | refine t_cond rfl (fun h => ?_) (fun h => ?_)
  · obtain ⟨hgi, e, he, hg⟩ := grp_yes h
    have ht : groups.toNat = grp groups := by omega
    refine t_region ?_
    refine l_q rfl (q_move rfl) ?_
    apply o_makeSlice1 rfl rfl rfl Try.underlying32 ty_info4 rfl (by omega) (by omega)
    intro b12
    apply o_storeL rfl rfl rfl ty_size32 rfl
    · repeat (first | with_reducible exact .here | apply Take.there)
    · repeat (first | exact SetAt.here | apply SetAt.there)
    refine l_nil ?_
    refine n_code ?_
    refine t_seq ?_
    refine t_region ?_
    refine l_q rfl (q_move rfl) ?_
    refine l_q rfl (q_move rfl) ?_
    rw [ht, ← metV_zero home]
    obtain ⟨a, hsh, ha⟩ : ∃ a : Option Addr, (0 < grp groups → ∃ g, a = some ⟨g, 0, none⟩) ∧ a = some ⟨b12, 0, none⟩ := ⟨_, fun _ => ⟨b12, rfl⟩, rfl⟩
    rw [← ha]
    clear ha
    apply l_callf rfl rfl rfl (Order_ok _ _)
    · repeat (first | with_reducible exact .nil | apply Pick.cons | with_reducible exact .here | apply Take.there)
    rintro v L' ⟨bh, bg, rfl, rfl⟩
    refine l_norm fun M hM => ?_
    try simp only [List.cons_append, List.nil_append, List.append_nil] at hM
    subst M
    refine l_q rfl (q_assign rfl) ?_
    refine l_nil ?_
    refine n_code ?_
    refine t_seq ?_
    refine t_seq ?_
    refine t_region ?_
    refine l_q rfl (q_move rfl) ?_
    apply l_q rfl
    · apply q_bin rfl rfl (fun w => g_func w); exact fun w => b_eqlF0 w Try.underlying30
    refine l_nil ?_
    refine n_code ?_
    refine t_cond_f rfl ?_
    refine t_skip ?_
    refine n_code ?_
    refine t_seq ?_
    refine t_region ?_
    refine o_alloc1 rfl ty_zero3 rfl (fun b7 => ?_)
    apply o_storeL rfl rfl rfl ty_size3 rfl
    · repeat (first | with_reducible exact .here | apply Take.there)
    · repeat (first | exact SetAt.here | apply SetAt.there)
    refine l_nil ?_
    refine n_code ?_
    refine t_seq ?_
    refine t_seq ?_
    refine t_region ?_
    refine l_q rfl (q_move rfl) ?_
    refine l_nil ?_
    refine n_code ?_
    refine t_block ?_
    apply t_range (p := (fun k (_ : Unit) => k ≤ grp groups)) (J := (fun k _ => [pt b7 (.cells #[.int .i64 (k : Nat)] 3 (0, 0)), pt b5 (.cells #[(.slice a (grp groups) (grp groups))] 32 (0, 0)), ownS 4 1 (.slice a (grp groups) (grp groups)) (grp groups) (metV home (grp groups) k)])) (q := (fun _ (y : Code × Unit) => False)) (Jx := (fun _ _ => [])) (x0 := ()) (hc := order_it _ _ home hh groups) (hr := rfl) (hg := rfl)
    · repeat (first | with_reducible exact .nil | apply Pick.cons | with_reducible exact .here | apply Take.there)
    · omega
    · (try dsimp only); (try simp only [Int.natCast_zero, Nat.sub_zero]); repeat (first | with_reducible exact .nil | apply Pick.cons | with_reducible exact .here | apply Take.there)
    · rfl
    · (intro x hx; simp only [way, List.mem_map] at hx; obtain ⟨_, _, rfl⟩ := hx; rfl)
    · intro l rc Fr' w1 k x j hrd hpn hx hj
      obtain ⟨hk, rfl⟩ := way_get hx
      obtain ⟨gb, rfl⟩ := hsh (by omega)
      obtain ⟨_, e', _, hg', _⟩ := grp_pow (groups := groups) (by omega)
      have hob := ord_bounds home (grp groups) k (by omega)
      refine t_norm fun M hM => ?_
      try simp only [List.cons_append, List.nil_append, List.append_nil] at hM
      subst M
      refine t_region ?_
      refine l_q rfl (q_assign rfl) ?_
      refine l_nil ?_
      apply n_begin
      · repeat (first | with_reducible exact .here | apply Take.there)
      · assumption
      refine t_block ?_
      refine t_seq ?_
      refine t_seq ?_
      refine t_region ?_
      refine l_q rfl (q_move rfl) ?_
      apply l_q rfl
      · apply q_bin rfl rfl (fun w => g_int w); exact fun w => b_lss w
      refine l_q rfl (q_move rfl) ?_
      first | refine l_part_d (t := 22) rfl (fun q => ?_) (fun q => ?_) | refine l_part_n (t := 22) rfl (fun q => ?_) (fun q => ?_) | refine l_part (t := 22) rfl (fun q => ?_) (fun q => ?_)
      · omega
      · refine l_on rfl rfl ?_
        refine l_q rfl (q_move rfl) ?_
        refine l_on rfl rfl ?_
        apply l_q rfl
        · apply q_loadL rfl ty_agg32
          · repeat (first | with_reducible exact .here | apply Take.there)
          · repeat (first | exact GetAt.here | apply GetAt.there)
        refine l_on rfl rfl ?_
        refine l_q rfl (q_len rfl (fun w => len_slice Try.underlying32 w)) ?_
        refine l_on rfl rfl ?_
        apply l_q rfl
        · apply q_bin rfl rfl (fun w => g_int w); exact fun w => b_geq w
        apply l_q rfl
        · first | exact q_pick_t rfl rfl | exact q_pick_f rfl rfl
        refine l_q rfl (q_move rfl) ?_
        first | refine l_part_d (t := 28) rfl (fun r => ?_) (fun r => ?_) | refine l_part_n (t := 28) rfl (fun r => ?_) (fun r => ?_) | refine l_part (t := 28) rfl (fun r => ?_) (fun r => ?_)
        · omega
        · refine l_on rfl rfl ?_
          apply l_q rfl
          · apply q_loadL rfl ty_agg32
            · repeat (first | with_reducible exact .here | apply Take.there)
            · repeat (first | exact GetAt.here | apply GetAt.there)
          refine l_on rfl rfl ?_
          refine l_q rfl (q_move rfl) ?_
          refine l_on rfl rfl ?_
          refine l_q rfl (q_indexAddr1 rfl rfl Try.underlying32 ty_size4 (by omega)) ?_
          refine l_on rfl rfl ?_
          apply l_q rfl
          · apply q_loadOwn rfl ty_agg4
            · repeat (first | with_reducible exact .here | apply Take.there)
            · rw [Nat.zero_add, metV_at hg' (by omega)]
          apply l_q rfl
          · first | exact q_pick_t rfl rfl | exact q_pick_f rfl rfl
          refine l_nil ?_
          refine n_code ?_
          first | refine t_cond_d rfl (fun z => ?_) (fun z => ?_) | refine t_cond_n rfl (fun z => ?_) (fun z => ?_) | refine t_cond rfl (fun z => ?_) (fun z => ?_)
          · exact absurd z (by simp)
          · refine t_skip ?_
            refine n_code ?_
            refine t_seq ?_
            refine t_region ?_
            apply l_q rfl
            · apply q_loadL rfl ty_agg32
              · repeat (first | with_reducible exact .here | apply Take.there)
              · repeat (first | exact GetAt.here | apply GetAt.there)
            refine l_q rfl (q_move rfl) ?_
            refine l_q rfl (q_indexAddr1 rfl rfl Try.underlying32 ty_size4 (by omega)) ?_
            apply o_storeOwn rfl rfl rfl ty_size4 rfl
            · repeat (first | with_reducible exact .here | apply Take.there)
            · omega
            · rw [Nat.zero_add, metV_set (by omega)]
            refine l_nil ?_
            refine n_code ?_
            refine t_region ?_
            apply l_q rfl
            · apply q_loadL rfl ty_agg3
              · repeat (first | with_reducible exact .here | apply Take.there)
              · repeat (first | exact GetAt.here | apply GetAt.there)
            apply l_q rfl
            · apply q_bin rfl rfl (fun w => g_int w); first | exact fun w => b_add_i w (by omega) | exact fun w => b_add w
            apply o_storeL rfl rfl rfl ty_size3 rfl
            · repeat (first | with_reducible exact .here | apply Take.there)
            · repeat (first | exact SetAt.here | apply SetAt.there)
            refine l_nil ?_
            refine n_blk ?_
            apply r_next (by assumption) (by assumption) (()) ((show k + 1 ≤ grp groups by omega))
            first | exact Ent.refl _ | ((try push_cast); apply Sel.ent; (repeat (first | apply Sel.cons | with_reducible exact Sel.nil | apply Sel.rest | with_reducible exact Take.here | apply Take.there | exact Drop.refl | apply Drop.skip)))
    · intro b j hj
      rw [way_length] at hj ⊢
      refine n_norm fun M hM => ?_
      try simp only [List.cons_append, List.nil_append, List.append_nil] at hM
      subst M
      refine n_blk ?_
      refine n_code ?_
      refine t_seq ?_
      refine t_region ?_
      apply l_q rfl
      · apply q_loadL rfl ty_agg3
        · repeat (first | with_reducible exact .here | apply Take.there)
        · repeat (first | exact GetAt.here | apply GetAt.there)
      apply l_q rfl
      · apply q_loadL rfl ty_agg32
        · repeat (first | with_reducible exact .here | apply Take.there)
        · repeat (first | exact GetAt.here | apply GetAt.there)
      refine l_q rfl (q_len rfl (fun w => len_slice Try.underlying32 w)) ?_
      apply l_q rfl
      · apply q_bin rfl rfl (fun w => g_int w); exact fun w => b_eql w
      apply o_storeL rfl rfl rfl ty_size4 rfl
      · repeat (first | with_reducible exact .here | apply Take.there)
      · repeat (first | exact SetAt.here | apply SetAt.there)
      refine l_nil ?_
      refine n_code ?_
      refine t_ret ?_
      apply f_retm (.inl rfl) [b] ([])
      · repeat (first | with_reducible exact TakeM.nil | apply TakeM.cons | with_reducible exact Take.here | apply Take.there)
      · apply res1 rfl
        · apply Rv.cellL rfl
          · repeat (first | with_reducible exact .here | apply Take.there)
          · repeat (first | exact GetAt.here | apply GetAt.there)
          · exact ty_agg4
      · exact ⟨by simp, rfl⟩
      · first | exact Ent.refl _ | ((try push_cast); apply Sel.ent; (repeat (first | apply Sel.cons | with_reducible exact Sel.nil | apply Sel.rest | with_reducible exact Take.here | apply Take.there | exact Drop.refl | apply Drop.skip)))
    · rintro b k ⟨jc, y⟩ hk hq
      exact hq.elim
  · refine t_skip ?_
    refine n_code ?_
    refine t_seq ?_
    refine t_region ?_
    refine l_q rfl (q_move rfl) ?_
    refine l_q rfl (q_move rfl) ?_
    have hz := grp_no (by simpa using h)
    refine l_turn (X := Unit) (LL := fun _ => ownS 4 1 (.slice none (grp groups) (grp groups)) (grp groups) (metV home (grp groups) 0) :: pt b5 (.cells #[.slice none (grp groups) (grp groups)] 32 (0, 0)) :: pt b4 (.cells #[.bool false] 4 (0, 0)) :: Fr) (fun w h => ⟨(), by rw [hz]; exact own_nil h⟩) fun _ => ?_
    obtain ⟨a, hsh, ha⟩ : ∃ a : Option Addr, (0 < grp groups → ∃ g, a = some ⟨g, 0, none⟩) ∧ a = none := ⟨none, by omega, rfl⟩
    rw [← ha]
    clear ha
    apply l_callf rfl rfl rfl (Order_ok _ _)
    · repeat (first | with_reducible exact .nil | apply Pick.cons | with_reducible exact .here | apply Take.there)
    rintro v L' ⟨bh, bg, rfl, rfl⟩
    refine l_norm fun M hM => ?_
    try simp only [List.cons_append, List.nil_append, List.append_nil] at hM
    subst M
    refine l_q rfl (q_assign rfl) ?_
    refine l_nil ?_
    refine n_code ?_
    refine t_seq ?_
    refine t_seq ?_
    refine t_region ?_
    refine l_q rfl (q_move rfl) ?_
    apply l_q rfl
    · apply q_bin rfl rfl (fun w => g_func w); exact fun w => b_eqlF0 w Try.underlying30
    refine l_nil ?_
    refine n_code ?_
    refine t_cond_f rfl ?_
    refine t_skip ?_
    refine n_code ?_
    refine t_seq ?_
    refine t_region ?_
    refine o_alloc1 rfl ty_zero3 rfl (fun b7 => ?_)
    apply o_storeL rfl rfl rfl ty_size3 rfl
    · repeat (first | with_reducible exact .here | apply Take.there)
    · repeat (first | exact SetAt.here | apply SetAt.there)
    refine l_nil ?_
    refine n_code ?_
    refine t_seq ?_
    refine t_seq ?_
    refine t_region ?_
    refine l_q rfl (q_move rfl) ?_
    refine l_nil ?_
    refine n_code ?_
    refine t_block ?_
    apply t_range (p := (fun k (_ : Unit) => k ≤ grp groups)) (J := (fun k _ => [pt b7 (.cells #[.int .i64 (k : Nat)] 3 (0, 0)), pt b5 (.cells #[(.slice a (grp groups) (grp groups))] 32 (0, 0)), ownS 4 1 (.slice a (grp groups) (grp groups)) (grp groups) (metV home (grp groups) k)])) (q := (fun _ (y : Code × Unit) => False)) (Jx := (fun _ _ => [])) (x0 := ()) (hc := order_it _ _ home hh groups) (hr := rfl) (hg := rfl)
    · repeat (first | with_reducible exact .nil | apply Pick.cons | with_reducible exact .here | apply Take.there)
    · omega
    · (try dsimp only); (try simp only [Int.natCast_zero, Nat.sub_zero]); repeat (first | with_reducible exact .nil | apply Pick.cons | with_reducible exact .here | apply Take.there)
    · rfl
    · (intro x hx; simp only [way, List.mem_map] at hx; obtain ⟨_, _, rfl⟩ := hx; rfl)
    · intro l rc Fr' w1 k x j hrd hpn hx hj
      obtain ⟨hk, rfl⟩ := way_get hx
      obtain ⟨gb, rfl⟩ := hsh (by omega)
      obtain ⟨_, e', _, hg', _⟩ := grp_pow (groups := groups) (by omega)
      have hob := ord_bounds home (grp groups) k (by omega)
      refine t_norm fun M hM => ?_
      try simp only [List.cons_append, List.nil_append, List.append_nil] at hM
      subst M
      refine t_region ?_
      refine l_q rfl (q_assign rfl) ?_
      refine l_nil ?_
      apply n_begin
      · repeat (first | with_reducible exact .here | apply Take.there)
      · assumption
      refine t_block ?_
      refine t_seq ?_
      refine t_seq ?_
      refine t_region ?_
      refine l_q rfl (q_move rfl) ?_
      apply l_q rfl
      · apply q_bin rfl rfl (fun w => g_int w); exact fun w => b_lss w
      refine l_q rfl (q_move rfl) ?_
      first | refine l_part_d (t := 22) rfl (fun q => ?_) (fun q => ?_) | refine l_part_n (t := 22) rfl (fun q => ?_) (fun q => ?_) | refine l_part (t := 22) rfl (fun q => ?_) (fun q => ?_)
      · omega
      · refine l_on rfl rfl ?_
        refine l_q rfl (q_move rfl) ?_
        refine l_on rfl rfl ?_
        apply l_q rfl
        · apply q_loadL rfl ty_agg32
          · repeat (first | with_reducible exact .here | apply Take.there)
          · repeat (first | exact GetAt.here | apply GetAt.there)
        refine l_on rfl rfl ?_
        refine l_q rfl (q_len rfl (fun w => len_slice Try.underlying32 w)) ?_
        refine l_on rfl rfl ?_
        apply l_q rfl
        · apply q_bin rfl rfl (fun w => g_int w); exact fun w => b_geq w
        apply l_q rfl
        · first | exact q_pick_t rfl rfl | exact q_pick_f rfl rfl
        refine l_q rfl (q_move rfl) ?_
        first | refine l_part_d (t := 28) rfl (fun r => ?_) (fun r => ?_) | refine l_part_n (t := 28) rfl (fun r => ?_) (fun r => ?_) | refine l_part (t := 28) rfl (fun r => ?_) (fun r => ?_)
        · omega
        · refine l_on rfl rfl ?_
          apply l_q rfl
          · apply q_loadL rfl ty_agg32
            · repeat (first | with_reducible exact .here | apply Take.there)
            · repeat (first | exact GetAt.here | apply GetAt.there)
          refine l_on rfl rfl ?_
          refine l_q rfl (q_move rfl) ?_
          refine l_on rfl rfl ?_
          refine l_q rfl (q_indexAddr1 rfl rfl Try.underlying32 ty_size4 (by omega)) ?_
          refine l_on rfl rfl ?_
          apply l_q rfl
          · apply q_loadOwn rfl ty_agg4
            · repeat (first | with_reducible exact .here | apply Take.there)
            · rw [Nat.zero_add, metV_at hg' (by omega)]
          apply l_q rfl
          · first | exact q_pick_t rfl rfl | exact q_pick_f rfl rfl
          refine l_nil ?_
          refine n_code ?_
          first | refine t_cond_d rfl (fun z => ?_) (fun z => ?_) | refine t_cond_n rfl (fun z => ?_) (fun z => ?_) | refine t_cond rfl (fun z => ?_) (fun z => ?_)
          · exact absurd z (by simp)
          · refine t_skip ?_
            refine n_code ?_
            refine t_seq ?_
            refine t_region ?_
            apply l_q rfl
            · apply q_loadL rfl ty_agg32
              · repeat (first | with_reducible exact .here | apply Take.there)
              · repeat (first | exact GetAt.here | apply GetAt.there)
            refine l_q rfl (q_move rfl) ?_
            refine l_q rfl (q_indexAddr1 rfl rfl Try.underlying32 ty_size4 (by omega)) ?_
            apply o_storeOwn rfl rfl rfl ty_size4 rfl
            · repeat (first | with_reducible exact .here | apply Take.there)
            · omega
            · rw [Nat.zero_add, metV_set (by omega)]
            refine l_nil ?_
            refine n_code ?_
            refine t_region ?_
            apply l_q rfl
            · apply q_loadL rfl ty_agg3
              · repeat (first | with_reducible exact .here | apply Take.there)
              · repeat (first | exact GetAt.here | apply GetAt.there)
            apply l_q rfl
            · apply q_bin rfl rfl (fun w => g_int w); first | exact fun w => b_add_i w (by omega) | exact fun w => b_add w
            apply o_storeL rfl rfl rfl ty_size3 rfl
            · repeat (first | with_reducible exact .here | apply Take.there)
            · repeat (first | exact SetAt.here | apply SetAt.there)
            refine l_nil ?_
            refine n_blk ?_
            apply r_next (by assumption) (by assumption) (()) ((show k + 1 ≤ grp groups by omega))
            first | exact Ent.refl _ | ((try push_cast); apply Sel.ent; (repeat (first | apply Sel.cons | with_reducible exact Sel.nil | apply Sel.rest | with_reducible exact Take.here | apply Take.there | exact Drop.refl | apply Drop.skip)))
    · intro b j hj
      rw [way_length] at hj ⊢
      refine n_norm fun M hM => ?_
      try simp only [List.cons_append, List.nil_append, List.append_nil] at hM
      subst M
      refine n_blk ?_
      refine n_code ?_
      refine t_seq ?_
      refine t_region ?_
      apply l_q rfl
      · apply q_loadL rfl ty_agg3
        · repeat (first | with_reducible exact .here | apply Take.there)
        · repeat (first | exact GetAt.here | apply GetAt.there)
      apply l_q rfl
      · apply q_loadL rfl ty_agg32
        · repeat (first | with_reducible exact .here | apply Take.there)
        · repeat (first | exact GetAt.here | apply GetAt.there)
      refine l_q rfl (q_len rfl (fun w => len_slice Try.underlying32 w)) ?_
      apply l_q rfl
      · apply q_bin rfl rfl (fun w => g_int w); exact fun w => b_eql w
      apply o_storeL rfl rfl rfl ty_size4 rfl
      · repeat (first | with_reducible exact .here | apply Take.there)
      · repeat (first | exact SetAt.here | apply SetAt.there)
      refine l_nil ?_
      refine n_code ?_
      refine t_ret ?_
      apply f_retm (.inl rfl) [b] ([])
      · repeat (first | with_reducible exact TakeM.nil | apply TakeM.cons | with_reducible exact Take.here | apply Take.there)
      · apply res1 rfl
        · apply Rv.cellL rfl
          · repeat (first | with_reducible exact .here | apply Take.there)
          · repeat (first | exact GetAt.here | apply GetAt.there)
          · exact ty_agg4
      · exact ⟨by simp, rfl⟩
      · first | exact Ent.refl _ | ((try push_cast); apply Sel.ent; (repeat (first | apply Sel.cons | with_reducible exact Sel.nil | apply Sel.rest | with_reducible exact Take.here | apply Take.there | exact Drop.refl | apply Drop.skip)))
    · rintro b k ⟨jc, y⟩ hk hq
      exact hq.elim
end Go.Proofs.Ytbooplbhlmiihaa.Probe
